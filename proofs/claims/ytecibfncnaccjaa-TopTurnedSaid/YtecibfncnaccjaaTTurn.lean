/- raster.made, Turn, Mirror: the walks. -/
import Derived.Test.YtecibfncnaccjaaTMade
import Derived.Lib.SmallJoins
namespace Go.Proofs.Ytecibfncnaccjaa
open Go.RowKit Go.Shelf
theorem info_intT : (Try.prog.info? 3).map (fun i => (i.zero, i.size, i.bytes)) = some (some (.int .i64 0), 1, 8) := by kernel_rfl
theorem make_int (k : Int) (n : Nat) (e : k = (n : Int)) (h : n ≤ 1000000) : ∀ u : World, (Instr.makeSlice 22 (.int .i64 0) (.int .i64 k)).run Try.prog u =
    .ok (.slice (some ⟨u.heap.size, 0, none⟩) 0 n) (u.alloc (.cells (madeCells #[.int .i64 0] n) 3)) := fun u => by
  subst e
  obtain ⟨i0, hi, hz0, hz1, hz2⟩ := info_parts info_intT
  have h := run_make (P := Try.prog) u 22 3 i0 (.int .i64 0) Try.underlying22 hi hz0 .i64 .i64 0 (n : Int) (by omega) (by omega) (by rw [hz2]; omega) (by omega)
  simpa [hz1, Value.cells] using h
/-- a row that is filled up to a place -/
def fillL (L : List Int) (k : Nat) : List Int := L.take k ++ List.replicate (L.length - k) 0
theorem fillL_zero (L : List Int) : fillL L 0 = List.replicate L.length 0 := by simp [fillL]
theorem fillL_all (L : List Int) : fillL L L.length = L := by simp [fillL]
theorem fillL_length (L : List Int) {k : Nat} (hk : k ≤ L.length) : (fillL L k).length = L.length := by simp [fillL]; omega
theorem fillL_set (L : List Int) {k : Nat} (hk : k < L.length) : (fillL L k).set k (L.getD k 0) = fillL L (k + 1) := by
  unfold fillL
  have h1 : (L.take k).length = k := by rw [List.length_take]; omega
  rw [List.set_append_right _ _ (by omega), h1, Nat.sub_self, List.take_succ_eq_append_getElem hk, List.append_assoc]
  congr 1
  rw [show L.length - k = (L.length - (k + 1)) + 1 by omega, List.replicate_succ, List.set_cons_zero]
  simp [List.getD, hk]
/-- a raster that is handed back -/
def GivesRas (W H : Nat) (m : Int) (px : List Int) (w : World) (e : Ending) (w' : World) : Prop := ∃ A c, e = .returned (.agg #[.int .i64 (W : Nat), .int .i64 (H : Nat), .int .i64 m, .slice A px.length c]) ∧ IRow w' A px ∧ (∀ a : Addr, A = some a → w.heap.size ≤ a.block) ∧ Keeps w w'
def MInv (w : World) (W H : Nat) (m : Int) (L : List Int) (k : Nat) (wr : World) : Prop :=
  Own wr w.heap.size 24 [.int .i64 0, .int .i64 0, .int .i64 0, .slice none 0 0] ∧ Own wr (w.heap.size + 1) 3 (i64s (fillL L k)) ∧
  Own wr (w.heap.size + 1 + 1) 24 [.int .i64 (W : Nat), .int .i64 (H : Nat), .int .i64 m, .slice (some ⟨w.heap.size + 1, 0, none⟩) k L.length] ∧ Keeps w wr
set_option maxRecDepth 100000 in
set_option maxHeartbeats 4000000 in
theorem madeTurn_any {w : World} {B : Value} {W H : Nat} {m : Int} (f : Nat → Nat → Int) (hf : SaysXY Try.prog 23 #[B] f W H w) (hW : 1 ≤ W ∧ W ≤ 64) (hH : 1 ≤ H ∧ H ≤ 64) :
    Calls Try.prog 22 #[.int .i64 (W : Nat), .int .i64 (H : Nat), .int .i64 m, .func (.func 23) #[] #[B]] w (GivesRas W H m (madeL W H f) w) := by
  obtain ⟨i0, hi, hz0, hz1, hz2⟩ := info_parts info_intT
  obtain ⟨L, hL⟩ : ∃ L, madeL W H f = L := ⟨_, rfl⟩
  obtain ⟨n, hn⟩ : ∃ n, W * H = n := ⟨_, rfl⟩
  have hLn : L.length = n := by rw [← hL, madeL_length, hn]
  have hq : (W : Int) * (H : Int) = (n : Int) := by rw [← hn]; simp
  have hn4 : n ≤ 4096 := by rw [← hn]; exact Nat.mul_le_mul hW.2 hH.2
  have hmk := make_int (n : Int) n rfl (by omega)
  have hWI : (W : Int) ≤ 64 := by omega
  have hHI : (H : Int) ≤ 64 := by omega
  have HLV : Hid (∀ x y, x < W → y < H → L.getD (y * W + x) 0 = f x y ∧ y * W + x < n) := Lib.hid (fun x y hx hy => by
    refine ⟨?_, by rw [← hn]; exact idx_lt hx hy⟩
    rw [← hL]
    exact pxL_made f hx hy)
  rw [hL]
  have HN := Lib.hid hn
  have HLN := Lib.hid hLn
  have HF := Lib.hid hf
  clear hf hL hn
  go_enter Try.func22, Try.ntmps22
  go_upto_region 2 with fail
  obtain ⟨W3, hW3⟩ : ∃ W3, ((w.alloc (.cells #[.int .i64 0, .int .i64 0, .int .i64 0, .slice none 0 0] 24)).alloc (.cells (madeCells #[.int .i64 0] n) 3)).alloc (.cells #[.int .i64 (W : Nat), .int .i64 (H : Nat), .int .i64 m, .slice (some ⟨w.heap.size + 1, 0, none⟩) 0 n] 24) = W3 := ⟨_, rfl⟩
  rw [hW3]
  have hinv : MInv w W H m L (0 * W) W3 := by
    rw [Nat.zero_mul]
    refine ⟨?_, ?_, ?_, ?_⟩
    · exact hW3 ▸ ((Own.new w _ _).alloc _).alloc _
    · rw [fillL_zero, hLn]
      have h1 : Own (w.alloc (.cells #[.int .i64 0, .int .i64 0, .int .i64 0, .slice none 0 0] 24) |>.alloc (.cells (madeCells #[.int .i64 0] n) 3)) (w.heap.size + 1) 3 (i64s (List.replicate n 0)) := by
        have := heap_alloc_new (w.alloc (.cells #[.int .i64 0, .int .i64 0, .int .i64 0, .slice none 0 0] 24)) (.cells (madeCells #[.int .i64 0] n) 3)
        rw [madeZ, World.size_alloc] at this
        rw [madeZ]
        exact this
      exact hW3 ▸ h1.alloc _
    · rw [hLn]
      have := Own.new ((w.alloc (.cells #[.int .i64 0, .int .i64 0, .int .i64 0, .slice none 0 0] 24)).alloc (.cells (madeCells #[.int .i64 0] n) 3)) 24 [.int .i64 (W : Nat), .int .i64 (H : Nat), .int .i64 m, .slice (some ⟨w.heap.size + 1, 0, none⟩) 0 n]
      rw [World.size_alloc, World.size_alloc] at this
      exact hW3 ▸ this
    · exact hW3 ▸ ((((Below.refl _ _).alloc (Nat.le_refl _) _).alloc (by simp) _).alloc (by simp; omega) _)
  have HINV := Lib.hid hinv
  clear hinv hW3 hmk hLn hq
  go_wp2
  go_loopw [21] (fun i wr => ∃ y : Nat, y ≤ H ∧ i = .int .i64 (y : Nat) ∧ MInv w W H m L (y * W) wr) (fun i _ => H - (intOf i).toNat)
  case atStart => exact ⟨0, Nat.zero_le _, rfl, HINV.out⟩
  case round =>
    clear HINV
    obtain ⟨y, hy, rfl, hinv⟩ := hrel
    by_cases hlt : y < H
    · have hyI : (y : Int) < H := by omega
      have HI0 := Lib.hid hinv
      clear hinv
      go_wp2
      go_loopw [25] (fun i wr => ∃ x : Nat, x ≤ W ∧ i = .int .i64 (x : Nat) ∧ MInv w W H m L (y * W + x) wr) (fun i _ => W - (intOf i).toNat)
      case atStart => exact ⟨0, Nat.zero_le _, rfl, HI0.out⟩
      case round =>
        clear HI0
        obtain ⟨x, hx, rfl, q, r, p, hkw⟩ := hrel
        by_cases hlx : x < W
        · have hxI : (x : Int) < W := by omega
          obtain ⟨hgv, hkn⟩ := HLV.out x y hlx hlt
          obtain ⟨k, hk⟩ : ∃ k, y * W + x = k := ⟨_, rfl⟩
          have HKE := Lib.hid hk
          rw [hk] at r p hgv hkn
          have HC := Lib.hid (HF.out wr.drew (Below.drew hkw) x y hlx hlt)
          have hfs := fillL_set L (k := k) (by rw [HLN.out]; exact hkn)
          rw [hgv] at hfs
          obtain ⟨v, hv⟩ : ∃ v, f x y = v := ⟨_, rfl⟩
          rw [hv] at HC hfs
          have HFS := Lib.hid hfs
          have hll : k < (i64s (fillL L k)).length := by
            rw [i64s, List.length_map, fillL_length L (by rw [HLN.out]; omega), HLN.out]
            exact hkn
          have HLL := Lib.hid hll
          have HR := Lib.hid r
          have hrl := r.lt
          have x3 := p.cell 3
          simp only [List.getElem?_cons_zero, List.getElem?_cons_succ] at x3
          rw [HLN.out] at x3
          clear hk hgv hfs hv hll r
          go_wp2
          go_region_law (first
            | (go_simp; go_at_call 23; refine HC.out.mono ?_; rintro e w1 ⟨rfl, hk1⟩; have p1 := (Own.drew p).below hk1; have r1 := (Own.drew HR.out).below hk1; have y3 := p1.cell 3; have z3 := (p1.alloc (.cells #[.int .i64 v] 3)).cell 3; simp only [List.getElem?_cons_zero, List.getElem?_cons_succ] at y3 z3; rw [HLN.out] at y3 z3; go_simp)
            | (refine step_append_in (by rfl) _ _ 22 (by rfl) 3 i0 Try.underlying22 hi hz1 (w.heap.size + 1) k n (i64s (fillL L k)) (by rfl) (r1.alloc _) ⟨w1.heap.size, 0, none⟩ 1 (.int .i64 v) (by rfl) ((Own.new w1 3 [.int .i64 v]).cell 0) rfl hkn HLL.out ?_; intro w6 hown6 hgrow; have p6 := (p1.alloc (.cells #[.int .i64 v] 3)).grown hgrow (fun e => by simp at e); have z6 := p6.cell 3; have f6 := p6.frozen 3; simp only [List.getElem?_cons_zero, List.getElem?_cons_succ] at z6; rw [HLN.out] at z6))
          all_goals
            have hk2 := hk1.trans' (box2 w1 (.cells #[.int .i64 v] 3))
            have hkw2 := Keeps.trans' (w1 := wr.drew) (Below.drew hkw) hk2
            have hk6 : Keeps w w6 := hkw2.grown hgrow hkw2.size (fun b e => by simp at e; omega)
            have q6 := (((Own.drew q).below hk1).alloc (.cells #[.int .i64 v] 3)).grown hgrow (fun e => by simp at e)
            have hrel2 : MInv w W H m L (k + 1) (w6.setCell ⟨w.heap.size + 1 + 1, 3, none⟩ (.slice (some ⟨w.heap.size + 1, 0, none⟩) (k + 1) n)) := by
              refine ⟨q6.far (p := ⟨w.heap.size + 1 + 1, 3, none⟩) (by simp only; omega) _, ?_, ?_, hk6.set (p := ⟨w.heap.size + 1 + 1, 3, none⟩) (by simp only; omega) _⟩
              · rw [i64s_set, HFS.out] at hown6
                exact hown6.far (p := ⟨w.heap.size + 1 + 1, 3, none⟩) (by simp only; omega) _
              · rw [HLN.out]
                exact p6.set 3 _
            have HREL := Lib.hid hrel2
            clear hrel2 q6 hown6
            go_wp2
            go_roundw
            case rel => exact ⟨x + 1, by omega, by go_num, by rw [← Nat.add_assoc, HKE.out]; exact HREL.out⟩
            case measure => simp [intOf]; omega
        · obtain rfl : x = W := by omega
          have HI1 : Hid (MInv w x H m L ((y + 1) * x) wr) := Lib.hid (by rw [Nat.add_mul, Nat.one_mul]; exact ⟨q, r, p, hkw⟩)
          clear hlx q r p
          go_wp2
          go_roundw
          case rel => exact ⟨y + 1, by omega, by go_num, HI1.out⟩
          case measure => simp [intOf]; omega
    · obtain rfl : y = H := by omega
      obtain ⟨q, r, p, hkw⟩ := hinv
      have hyW : y * W = n := by rw [Nat.mul_comm]; exact HN.out
      rw [hyW] at r p
      rw [HLN.out] at p
      have hr := r
      rw [← HLN.out, fillL_all] at hr
      have HR := Lib.hid hr
      have x0 := p.cell 0
      have x1 := p.cell 1
      have x2 := p.cell 2
      have x3 := p.cell 3
      simp only [List.getElem?_cons_zero, List.getElem?_cons_succ] at x0 x1 x2 x3
      have y0 := q.cell 0
      have y1 := q.cell 1
      have y2 := q.cell 2
      have y3 := q.cell 3
      have g0 := q.frozen 0
      have g1 := q.frozen 1
      have g2 := q.frozen 2
      have g3 := q.frozen 3
      simp only [List.getElem?_cons_zero, List.getElem?_cons_succ] at y0 y1 y2 y3
      clear hlt r hyW hr
      go_wp2
      have r5 := (((q.set 0 (.int .i64 (W : Nat))).set 1 (.int .i64 (y : Nat))).set 2 (.int .i64 m)).set 3 (.slice (some ⟨w.heap.size + 1, 0, none⟩) n n)
      have r0 := r5.cell 0
      have r1 := r5.cell 1
      have r2 := r5.cell 2
      have r3 := r5.cell 3
      simp only [List.set_cons_zero, List.set_cons_succ, List.getElem?_cons_zero, List.getElem?_cons_succ] at r0 r1 r2 r3
      refine bodyPost_ret (v := .agg #[.int .i64 (W : Nat), .int .i64 (y : Nat), .int .i64 m, .slice (some ⟨w.heap.size + 1, 0, none⟩) n n]) (by simp [results, Try.results22, go_sem, r0, r1, r2, r3]) rfl ?_
      have hR5 : Own ((((wr.setCell ⟨w.heap.size, 0, none⟩ (.int .i64 (W : Nat))).setCell ⟨w.heap.size, 1, none⟩ (.int .i64 (y : Nat))).setCell ⟨w.heap.size, 2, none⟩ (.int .i64 m)).setCell ⟨w.heap.size, 3, none⟩ (.slice (some ⟨w.heap.size + 1, 0, none⟩) n n)) (w.heap.size + 1) 3 (i64s L) :=
        (((HR.out.far (p := ⟨w.heap.size, 0, none⟩) (by simp only; omega) _).far (p := ⟨w.heap.size, 1, none⟩) (by simp only; omega) _).far (p := ⟨w.heap.size, 2, none⟩) (by simp only; omega) _).far (p := ⟨w.heap.size, 3, none⟩) (by simp only; omega) _
      refine ⟨_, n, by rw [HLN.out], fun hp => ⟨w.heap.size + 1, 0, rfl, hR5.lt, fun j hj => ?_⟩, (fun a e => by cases e; simp only; omega), (((hkw.set (p := ⟨w.heap.size, 0, none⟩) (Nat.le_refl _) _).set (p := ⟨w.heap.size, 1, none⟩) (Nat.le_refl _) _).set (p := ⟨w.heap.size, 2, none⟩) (Nat.le_refl _) _).set (p := ⟨w.heap.size, 3, none⟩) (Nat.le_refl _) _⟩
      rw [Nat.zero_add, hR5.cell j]
      simp [i64s, iv, List.getD, hj]
set_option maxRecDepth 100000 in
set_option maxHeartbeats 4000000 in
theorem madeMir_any {w : World} {B : Value} {W H : Nat} {m : Int} (f : Nat → Nat → Int) (hf : SaysXY Try.prog 25 #[B] f W H w) (hW : 1 ≤ W ∧ W ≤ 64) (hH : 1 ≤ H ∧ H ≤ 64) :
    Calls Try.prog 22 #[.int .i64 (W : Nat), .int .i64 (H : Nat), .int .i64 m, .func (.func 25) #[] #[B]] w (GivesRas W H m (madeL W H f) w) := by
  obtain ⟨i0, hi, hz0, hz1, hz2⟩ := info_parts info_intT
  obtain ⟨L, hL⟩ : ∃ L, madeL W H f = L := ⟨_, rfl⟩
  obtain ⟨n, hn⟩ : ∃ n, W * H = n := ⟨_, rfl⟩
  have hLn : L.length = n := by rw [← hL, madeL_length, hn]
  have hq : (W : Int) * (H : Int) = (n : Int) := by rw [← hn]; simp
  have hn4 : n ≤ 4096 := by rw [← hn]; exact Nat.mul_le_mul hW.2 hH.2
  have hmk := make_int (n : Int) n rfl (by omega)
  have hWI : (W : Int) ≤ 64 := by omega
  have hHI : (H : Int) ≤ 64 := by omega
  have HLV : Hid (∀ x y, x < W → y < H → L.getD (y * W + x) 0 = f x y ∧ y * W + x < n) := Lib.hid (fun x y hx hy => by
    refine ⟨?_, by rw [← hn]; exact idx_lt hx hy⟩
    rw [← hL]
    exact pxL_made f hx hy)
  rw [hL]
  have HN := Lib.hid hn
  have HLN := Lib.hid hLn
  have HF := Lib.hid hf
  clear hf hL hn
  go_enter Try.func22, Try.ntmps22
  go_upto_region 2 with fail
  obtain ⟨W3, hW3⟩ : ∃ W3, ((w.alloc (.cells #[.int .i64 0, .int .i64 0, .int .i64 0, .slice none 0 0] 24)).alloc (.cells (madeCells #[.int .i64 0] n) 3)).alloc (.cells #[.int .i64 (W : Nat), .int .i64 (H : Nat), .int .i64 m, .slice (some ⟨w.heap.size + 1, 0, none⟩) 0 n] 24) = W3 := ⟨_, rfl⟩
  rw [hW3]
  have hinv : MInv w W H m L (0 * W) W3 := by
    rw [Nat.zero_mul]
    refine ⟨?_, ?_, ?_, ?_⟩
    · exact hW3 ▸ ((Own.new w _ _).alloc _).alloc _
    · rw [fillL_zero, hLn]
      have h1 : Own (w.alloc (.cells #[.int .i64 0, .int .i64 0, .int .i64 0, .slice none 0 0] 24) |>.alloc (.cells (madeCells #[.int .i64 0] n) 3)) (w.heap.size + 1) 3 (i64s (List.replicate n 0)) := by
        have := heap_alloc_new (w.alloc (.cells #[.int .i64 0, .int .i64 0, .int .i64 0, .slice none 0 0] 24)) (.cells (madeCells #[.int .i64 0] n) 3)
        rw [madeZ, World.size_alloc] at this
        rw [madeZ]
        exact this
      exact hW3 ▸ h1.alloc _
    · rw [hLn]
      have := Own.new ((w.alloc (.cells #[.int .i64 0, .int .i64 0, .int .i64 0, .slice none 0 0] 24)).alloc (.cells (madeCells #[.int .i64 0] n) 3)) 24 [.int .i64 (W : Nat), .int .i64 (H : Nat), .int .i64 m, .slice (some ⟨w.heap.size + 1, 0, none⟩) 0 n]
      rw [World.size_alloc, World.size_alloc] at this
      exact hW3 ▸ this
    · exact hW3 ▸ ((((Below.refl _ _).alloc (Nat.le_refl _) _).alloc (by simp) _).alloc (by simp; omega) _)
  have HINV := Lib.hid hinv
  clear hinv hW3 hmk hLn hq
  go_wp2
  go_loopw [21] (fun i wr => ∃ y : Nat, y ≤ H ∧ i = .int .i64 (y : Nat) ∧ MInv w W H m L (y * W) wr) (fun i _ => H - (intOf i).toNat)
  case atStart => exact ⟨0, Nat.zero_le _, rfl, HINV.out⟩
  case round =>
    clear HINV
    obtain ⟨y, hy, rfl, hinv⟩ := hrel
    by_cases hlt : y < H
    · have hyI : (y : Int) < H := by omega
      have HI0 := Lib.hid hinv
      clear hinv
      go_wp2
      go_loopw [25] (fun i wr => ∃ x : Nat, x ≤ W ∧ i = .int .i64 (x : Nat) ∧ MInv w W H m L (y * W + x) wr) (fun i _ => W - (intOf i).toNat)
      case atStart => exact ⟨0, Nat.zero_le _, rfl, HI0.out⟩
      case round =>
        clear HI0
        obtain ⟨x, hx, rfl, q, r, p, hkw⟩ := hrel
        by_cases hlx : x < W
        · have hxI : (x : Int) < W := by omega
          obtain ⟨hgv, hkn⟩ := HLV.out x y hlx hlt
          obtain ⟨k, hk⟩ : ∃ k, y * W + x = k := ⟨_, rfl⟩
          have HKE := Lib.hid hk
          rw [hk] at r p hgv hkn
          have HC := Lib.hid (HF.out wr.drew (Below.drew hkw) x y hlx hlt)
          have hfs := fillL_set L (k := k) (by rw [HLN.out]; exact hkn)
          rw [hgv] at hfs
          obtain ⟨v, hv⟩ : ∃ v, f x y = v := ⟨_, rfl⟩
          rw [hv] at HC hfs
          have HFS := Lib.hid hfs
          have hll : k < (i64s (fillL L k)).length := by
            rw [i64s, List.length_map, fillL_length L (by rw [HLN.out]; omega), HLN.out]
            exact hkn
          have HLL := Lib.hid hll
          have HR := Lib.hid r
          have hrl := r.lt
          have x3 := p.cell 3
          simp only [List.getElem?_cons_zero, List.getElem?_cons_succ] at x3
          rw [HLN.out] at x3
          clear hk hgv hfs hv hll r
          go_wp2
          go_region_law (first
            | (go_simp; go_at_call 25; refine HC.out.mono ?_; rintro e w1 ⟨rfl, hk1⟩; have p1 := (Own.drew p).below hk1; have r1 := (Own.drew HR.out).below hk1; have y3 := p1.cell 3; have z3 := (p1.alloc (.cells #[.int .i64 v] 3)).cell 3; simp only [List.getElem?_cons_zero, List.getElem?_cons_succ] at y3 z3; rw [HLN.out] at y3 z3; go_simp)
            | (refine step_append_in (by rfl) _ _ 22 (by rfl) 3 i0 Try.underlying22 hi hz1 (w.heap.size + 1) k n (i64s (fillL L k)) (by rfl) (r1.alloc _) ⟨w1.heap.size, 0, none⟩ 1 (.int .i64 v) (by rfl) ((Own.new w1 3 [.int .i64 v]).cell 0) rfl hkn HLL.out ?_; intro w6 hown6 hgrow; have p6 := (p1.alloc (.cells #[.int .i64 v] 3)).grown hgrow (fun e => by simp at e); have z6 := p6.cell 3; have f6 := p6.frozen 3; simp only [List.getElem?_cons_zero, List.getElem?_cons_succ] at z6; rw [HLN.out] at z6))
          all_goals
            have hk2 := hk1.trans' (box2 w1 (.cells #[.int .i64 v] 3))
            have hkw2 := Keeps.trans' (w1 := wr.drew) (Below.drew hkw) hk2
            have hk6 : Keeps w w6 := hkw2.grown hgrow hkw2.size (fun b e => by simp at e; omega)
            have q6 := (((Own.drew q).below hk1).alloc (.cells #[.int .i64 v] 3)).grown hgrow (fun e => by simp at e)
            have hrel2 : MInv w W H m L (k + 1) (w6.setCell ⟨w.heap.size + 1 + 1, 3, none⟩ (.slice (some ⟨w.heap.size + 1, 0, none⟩) (k + 1) n)) := by
              refine ⟨q6.far (p := ⟨w.heap.size + 1 + 1, 3, none⟩) (by simp only; omega) _, ?_, ?_, hk6.set (p := ⟨w.heap.size + 1 + 1, 3, none⟩) (by simp only; omega) _⟩
              · rw [i64s_set, HFS.out] at hown6
                exact hown6.far (p := ⟨w.heap.size + 1 + 1, 3, none⟩) (by simp only; omega) _
              · rw [HLN.out]
                exact p6.set 3 _
            have HREL := Lib.hid hrel2
            clear hrel2 q6 hown6
            go_wp2
            go_roundw
            case rel => exact ⟨x + 1, by omega, by go_num, by rw [← Nat.add_assoc, HKE.out]; exact HREL.out⟩
            case measure => simp [intOf]; omega
        · obtain rfl : x = W := by omega
          have HI1 : Hid (MInv w x H m L ((y + 1) * x) wr) := Lib.hid (by rw [Nat.add_mul, Nat.one_mul]; exact ⟨q, r, p, hkw⟩)
          clear hlx q r p
          go_wp2
          go_roundw
          case rel => exact ⟨y + 1, by omega, by go_num, HI1.out⟩
          case measure => simp [intOf]; omega
    · obtain rfl : y = H := by omega
      obtain ⟨q, r, p, hkw⟩ := hinv
      have hyW : y * W = n := by rw [Nat.mul_comm]; exact HN.out
      rw [hyW] at r p
      rw [HLN.out] at p
      have hr := r
      rw [← HLN.out, fillL_all] at hr
      have HR := Lib.hid hr
      have x0 := p.cell 0
      have x1 := p.cell 1
      have x2 := p.cell 2
      have x3 := p.cell 3
      simp only [List.getElem?_cons_zero, List.getElem?_cons_succ] at x0 x1 x2 x3
      have y0 := q.cell 0
      have y1 := q.cell 1
      have y2 := q.cell 2
      have y3 := q.cell 3
      have g0 := q.frozen 0
      have g1 := q.frozen 1
      have g2 := q.frozen 2
      have g3 := q.frozen 3
      simp only [List.getElem?_cons_zero, List.getElem?_cons_succ] at y0 y1 y2 y3
      clear hlt r hyW hr
      go_wp2
      have r5 := (((q.set 0 (.int .i64 (W : Nat))).set 1 (.int .i64 (y : Nat))).set 2 (.int .i64 m)).set 3 (.slice (some ⟨w.heap.size + 1, 0, none⟩) n n)
      have r0 := r5.cell 0
      have r1 := r5.cell 1
      have r2 := r5.cell 2
      have r3 := r5.cell 3
      simp only [List.set_cons_zero, List.set_cons_succ, List.getElem?_cons_zero, List.getElem?_cons_succ] at r0 r1 r2 r3
      refine bodyPost_ret (v := .agg #[.int .i64 (W : Nat), .int .i64 (y : Nat), .int .i64 m, .slice (some ⟨w.heap.size + 1, 0, none⟩) n n]) (by simp [results, Try.results22, go_sem, r0, r1, r2, r3]) rfl ?_
      have hR5 : Own ((((wr.setCell ⟨w.heap.size, 0, none⟩ (.int .i64 (W : Nat))).setCell ⟨w.heap.size, 1, none⟩ (.int .i64 (y : Nat))).setCell ⟨w.heap.size, 2, none⟩ (.int .i64 m)).setCell ⟨w.heap.size, 3, none⟩ (.slice (some ⟨w.heap.size + 1, 0, none⟩) n n)) (w.heap.size + 1) 3 (i64s L) :=
        (((HR.out.far (p := ⟨w.heap.size, 0, none⟩) (by simp only; omega) _).far (p := ⟨w.heap.size, 1, none⟩) (by simp only; omega) _).far (p := ⟨w.heap.size, 2, none⟩) (by simp only; omega) _).far (p := ⟨w.heap.size, 3, none⟩) (by simp only; omega) _
      refine ⟨_, n, by rw [HLN.out], fun hp => ⟨w.heap.size + 1, 0, rfl, hR5.lt, fun j hj => ?_⟩, (fun a e => by cases e; simp only; omega), (((hkw.set (p := ⟨w.heap.size, 0, none⟩) (Nat.le_refl _) _).set (p := ⟨w.heap.size, 1, none⟩) (Nat.le_refl _) _).set (p := ⟨w.heap.size, 2, none⟩) (Nat.le_refl _) _).set (p := ⟨w.heap.size, 3, none⟩) (Nat.le_refl _) _⟩
      rw [Nat.zero_add, hR5.cell j]
      simp [i64s, iv, List.getD, hj]
theorem rasC_ok {W H : Nat} {m : Int} {px : List Int} (h : rasC W H m px = 0) : (1 ≤ W ∧ W ≤ 64) ∧ (1 ≤ H ∧ H ≤ 64) ∧ (1 ≤ m ∧ m ≤ 65535) ∧ px.length = W * H ∧ ∀ x ∈ px, 0 ≤ x ∧ x ≤ m := by
  unfold rasC at h
  split at h
  · rename_i h1
    obtain ⟨a, b, c, d, e, f, g, k⟩ := h1
    refine ⟨⟨by omega, by omega⟩, ⟨by omega, by omega⟩, ⟨e, f⟩, ?_, k⟩
    rw [← Int.natCast_mul] at g
    omega
  · cases h
theorem rasC_mk {W H : Nat} {m : Int} {px : List Int} (hW : 1 ≤ W ∧ W ≤ 64) (hH : 1 ≤ H ∧ H ≤ 64) (hm : 1 ≤ m ∧ m ≤ 65535) (hl : px.length = W * H) (hp : ∀ x ∈ px, 0 ≤ x ∧ x ≤ m) : rasC W H m px = 0 :=
  if_pos ⟨by omega, by omega, by omega, by omega, hm.1, hm.2, by rw [hl, Int.natCast_mul], hp⟩
theorem madeL_mem {W H : Nat} {f : Nat → Nat → Int} {P : Int → Prop} (h : ∀ x y, x < W → y < H → P (f x y)) : ∀ v ∈ madeL W H f, P v := fun v hv => by
  unfold madeL at hv
  obtain ⟨k, hk, rfl⟩ := List.mem_map.1 hv
  have hk := List.mem_range.1 hk
  have hW : 0 < W := Nat.pos_of_ne_zero fun e => by rw [e] at hk; simp at hk
  exact h _ _ (Nat.mod_lt _ hW) (Nat.div_lt_of_lt_mul hk)
theorem pxL_mem {W H x y : Nat} {px : List Int} (hl : px.length = W * H) (hx : x < W) (hy : y < H) : pxL px W x y ∈ px := by
  have h1 : y * W + x < px.length := by rw [hl]; exact idx_lt hx hy
  rw [pxL, List.getD, List.getElem?_eq_getElem h1]
  exact List.getElem_mem h1
theorem rasC_turn {W H : Nat} {m : Int} {px : List Int} (h : rasC W H m px = 0) : rasC H W m (turnL W H px) = 0 := by
  obtain ⟨hW, hH, hm, hl, hp⟩ := rasC_ok h
  exact rasC_mk hH hW hm (madeL_length _ _ _) (madeL_mem fun x y hx hy => hp _ (pxL_mem hl (by omega) hx))
theorem rasC_mir {W H : Nat} {m : Int} {px : List Int} (h : rasC W H m px = 0) : rasC W H m (mirL W H px) = 0 := by
  obtain ⟨hW, hH, hm, hl, hp⟩ := rasC_ok h
  exact rasC_mk hW hH hm (madeL_length _ _ _) (madeL_mem fun x y hx hy => hp _ (pxL_mem hl (by omega) hy))
/-- a raster and OK -/
def GivesRas0 (W H : Nat) (m : Int) (px : List Int) (w : World) (e : Ending) (w' : World) : Prop := ∃ A c, e = .returned (.tuple #[.agg #[.int .i64 (W : Nat), .int .i64 (H : Nat), .int .i64 m, .slice A px.length c], .int .i64 0]) ∧ IRow w' A px ∧ Keeps w w' ∧ ∀ a : Addr, A = some a → w.heap.size ≤ a.block
theorem IRow.set_far {w : World} {b : Nat} {A : Option Addr} {px : List Int} (h : IRow w A px) (hb : 0 < px.length → ∀ a, A = some a → a.block ≠ b) (i : Nat) (v : Value) : IRow (w.setCell ⟨b, i, none⟩ v) A px := fun hp => by
  obtain ⟨g, o, rfl, hlt, hc⟩ := h hp
  have hne := hb hp _ rfl
  refine ⟨g, o, rfl, by simpa [World.setCell] using hlt, fun j hj => ?_⟩
  rw [← hc j hj]
  exact World.cell?_of_block (Below.heap_setCell w ⟨b, i, none⟩ v g hne)
set_option maxRecDepth 100000 in
set_option maxHeartbeats 2000000 in
theorem turn_any {w : World} {A : Option Addr} {c : Nat} {px : List Int} {W H : Nat} {m : Int} (hr : IRow w A px) (hv : rasC W H m px = 0) :
    Calls Try.prog 8 #[.agg #[.int .i64 (W : Nat), .int .i64 (H : Nat), .int .i64 m, .slice A px.length c]] w (GivesRas0 H W m (turnL W H px) w) := by
  obtain ⟨hW, hH, hm, hl, hp⟩ := rasC_ok hv
  have hl4 : px.length ≤ maxLen := by
    have : px.length ≤ 64 * 64 := by rw [hl]; exact Nat.mul_le_mul hW.2 hH.2
    simp only [maxLen]
    omega
  obtain ⟨W1, hW1⟩ : ∃ W1, (w.alloc (.cells #[.int .i64 (W : Nat), .int .i64 (H : Nat), .int .i64 m, .slice A px.length c] 24)).alloc (.cells #[.int .i64 0, .int .i64 0, .int .i64 0, .slice none 0 0] 24) = W1 := ⟨_, rfl⟩
  have hk1 : Keeps w W1 := hW1 ▸ keep2 w _ _
  have p1 : Own W1 w.heap.size 24 [.int .i64 (W : Nat), .int .i64 (H : Nat), .int .i64 m, .slice A px.length c] := hW1 ▸ (Own.new w _ _).alloc _
  have q1 : Own W1 (w.heap.size + 1) 24 [.int .i64 0, .int .i64 0, .int .i64 0, .slice none 0 0] := hW1 ▸ own2 w _ _ _
  have HC := Lib.hid (rcheck_any (c := c) (hr.below hk1) (W : Int) (H : Int) m hl4)
  rw [hv] at HC
  have HM := Lib.hid (fun w2 (hk : Keeps W1 w2) => madeTurn_any (m := m) (fun x y => pxL px W (W - 1 - y) x) (turnXY (p1.below hk) (hr.below (hk1.trans' hk)) rfl hl hW hH) (by first | exact hW | exact hH) (by first | exact hH | exact hW))
  rw [show madeL H W (fun x y => pxL px W (W - 1 - y) x) = turnL W H px from rfl] at HM
  obtain ⟨L, hL⟩ : ∃ L, turnL W H px = L := ⟨_, rfl⟩
  rw [hL] at HM ⊢
  clear hr hv hl hm hp hW hH hl4 hL
  have x0 := p1.cell 0
  have x1 := p1.cell 1
  have x2 := p1.cell 2
  have x3 := p1.cell 3
  simp only [List.getElem?_cons_zero, List.getElem?_cons_succ] at x0 x1 x2 x3
  have y0 := q1.cell 0
  have y1 := q1.cell 1
  have y2 := q1.cell 2
  have y3 := q1.cell 3
  have g0 := q1.frozen 0
  have g1 := q1.frozen 1
  have g2 := q1.frozen 2
  have g3 := q1.frozen 3
  simp only [List.getElem?_cons_zero, List.getElem?_cons_succ] at y0 y1 y2 y3
  go_enter Try.func8, Try.ntmps8
  go_wp2_with fail
  refine HC.out.mono ?_
  rintro e w2 ⟨rfl, hk2⟩
  have p2 := p1.below hk2
  have q2 := q1.below hk2
  have HM2 := Lib.hid (HM.out w2 hk2)
  clear x0 x1 x2 x3 y0 y1 y2 y3 g0 g1 g2 g3
  have x0 := p2.cell 0
  have x1 := p2.cell 1
  have x2 := p2.cell 2
  have x3 := p2.cell 3
  simp only [List.getElem?_cons_zero, List.getElem?_cons_succ] at x0 x1 x2 x3
  have y0 := q2.cell 0
  have y1 := q2.cell 1
  have y2 := q2.cell 2
  have y3 := q2.cell 3
  have g0 := q2.frozen 0
  have g1 := q2.frozen 1
  have g2 := q2.frozen 2
  have g3 := q2.frozen 3
  simp only [List.getElem?_cons_zero, List.getElem?_cons_succ] at y0 y1 y2 y3
  go_wp2_with fail
  refine HM2.out.mono ?_
  rintro e w3 ⟨A3, c3, rfl, hr3, hfr, hk3⟩
  have q3 := q2.below hk3
  have hk13 := (hk1.trans' hk2).trans' hk3
  have hlt2 := q2.lt
  clear x0 x1 x2 x3 y0 y1 y2 y3 g0 g1 g2 g3
  have y0 := q3.cell 0
  have y1 := q3.cell 1
  have y2 := q3.cell 2
  have y3 := q3.cell 3
  have g0 := q3.frozen 0
  have g1 := q3.frozen 1
  have g2 := q3.frozen 2
  have g3 := q3.frozen 3
  simp only [List.getElem?_cons_zero, List.getElem?_cons_succ] at y0 y1 y2 y3
  go_wp2
  have r5 := (((q3.set 0 (.int .i64 (H : Nat))).set 1 (.int .i64 (W : Nat))).set 2 (.int .i64 m)).set 3 (.slice A3 L.length c3)
  have r0 := r5.cell 0
  have r1 := r5.cell 1
  have r2 := r5.cell 2
  have r3 := r5.cell 3
  simp only [List.set_cons_zero, List.set_cons_succ, List.getElem?_cons_zero, List.getElem?_cons_succ] at r0 r1 r2 r3
  refine bodyPost_ret (v := .tuple #[.agg #[.int .i64 (H : Nat), .int .i64 (W : Nat), .int .i64 m, .slice A3 L.length c3], .int .i64 0]) (by simp [results, Try.results8, go_sem, r0, r1, r2, r3]) rfl ?_
  have hfar : ∀ a : Addr, A3 = some a → a.block ≠ w.heap.size + 1 := fun a e => by have := hfr a e; omega
  refine ⟨A3, c3, rfl, ?_, (((hk13.set (p := ⟨w.heap.size + 1, 0, none⟩) (by simp only; omega) _).set (p := ⟨w.heap.size + 1, 1, none⟩) (by simp only; omega) _).set (p := ⟨w.heap.size + 1, 2, none⟩) (by simp only; omega) _).set (p := ⟨w.heap.size + 1, 3, none⟩) (by simp only; omega) _, fun a e => Nat.le_trans (hk1.trans' hk2).size (hfr a e)⟩
  exact (((hr3.set_far (fun _ => hfar) 0 _).set_far (fun _ => hfar) 1 _).set_far (fun _ => hfar) 2 _).set_far (fun _ => hfar) 3 _
set_option maxRecDepth 100000 in
set_option maxHeartbeats 2000000 in
theorem mirror_any {w : World} {A : Option Addr} {c : Nat} {px : List Int} {W H : Nat} {m : Int} (hr : IRow w A px) (hv : rasC W H m px = 0) :
    Calls Try.prog 9 #[.agg #[.int .i64 (W : Nat), .int .i64 (H : Nat), .int .i64 m, .slice A px.length c]] w (GivesRas0 W H m (mirL W H px) w) := by
  obtain ⟨hW, hH, hm, hl, hp⟩ := rasC_ok hv
  have hl4 : px.length ≤ maxLen := by
    have : px.length ≤ 64 * 64 := by rw [hl]; exact Nat.mul_le_mul hW.2 hH.2
    simp only [maxLen]
    omega
  obtain ⟨W1, hW1⟩ : ∃ W1, (w.alloc (.cells #[.int .i64 (W : Nat), .int .i64 (H : Nat), .int .i64 m, .slice A px.length c] 24)).alloc (.cells #[.int .i64 0, .int .i64 0, .int .i64 0, .slice none 0 0] 24) = W1 := ⟨_, rfl⟩
  have hk1 : Keeps w W1 := hW1 ▸ keep2 w _ _
  have p1 : Own W1 w.heap.size 24 [.int .i64 (W : Nat), .int .i64 (H : Nat), .int .i64 m, .slice A px.length c] := hW1 ▸ (Own.new w _ _).alloc _
  have q1 : Own W1 (w.heap.size + 1) 24 [.int .i64 0, .int .i64 0, .int .i64 0, .slice none 0 0] := hW1 ▸ own2 w _ _ _
  have HC := Lib.hid (rcheck_any (c := c) (hr.below hk1) (W : Int) (H : Int) m hl4)
  rw [hv] at HC
  have HM := Lib.hid (fun w2 (hk : Keeps W1 w2) => madeMir_any (m := m) (fun x y => pxL px W (W - 1 - x) y) (mirXY (p1.below hk) (hr.below (hk1.trans' hk)) rfl hl hW hH) (by first | exact hW | exact hH) (by first | exact hH | exact hW))
  rw [show madeL W H (fun x y => pxL px W (W - 1 - x) y) = mirL W H px from rfl] at HM
  obtain ⟨L, hL⟩ : ∃ L, mirL W H px = L := ⟨_, rfl⟩
  rw [hL] at HM ⊢
  clear hr hv hl hm hp hW hH hl4 hL
  have x0 := p1.cell 0
  have x1 := p1.cell 1
  have x2 := p1.cell 2
  have x3 := p1.cell 3
  simp only [List.getElem?_cons_zero, List.getElem?_cons_succ] at x0 x1 x2 x3
  have y0 := q1.cell 0
  have y1 := q1.cell 1
  have y2 := q1.cell 2
  have y3 := q1.cell 3
  have g0 := q1.frozen 0
  have g1 := q1.frozen 1
  have g2 := q1.frozen 2
  have g3 := q1.frozen 3
  simp only [List.getElem?_cons_zero, List.getElem?_cons_succ] at y0 y1 y2 y3
  go_enter Try.func9, Try.ntmps9
  go_wp2_with fail
  refine HC.out.mono ?_
  rintro e w2 ⟨rfl, hk2⟩
  have p2 := p1.below hk2
  have q2 := q1.below hk2
  have HM2 := Lib.hid (HM.out w2 hk2)
  clear x0 x1 x2 x3 y0 y1 y2 y3 g0 g1 g2 g3
  have x0 := p2.cell 0
  have x1 := p2.cell 1
  have x2 := p2.cell 2
  have x3 := p2.cell 3
  simp only [List.getElem?_cons_zero, List.getElem?_cons_succ] at x0 x1 x2 x3
  have y0 := q2.cell 0
  have y1 := q2.cell 1
  have y2 := q2.cell 2
  have y3 := q2.cell 3
  have g0 := q2.frozen 0
  have g1 := q2.frozen 1
  have g2 := q2.frozen 2
  have g3 := q2.frozen 3
  simp only [List.getElem?_cons_zero, List.getElem?_cons_succ] at y0 y1 y2 y3
  go_wp2_with fail
  refine HM2.out.mono ?_
  rintro e w3 ⟨A3, c3, rfl, hr3, hfr, hk3⟩
  have q3 := q2.below hk3
  have hk13 := (hk1.trans' hk2).trans' hk3
  have hlt2 := q2.lt
  clear x0 x1 x2 x3 y0 y1 y2 y3 g0 g1 g2 g3
  have y0 := q3.cell 0
  have y1 := q3.cell 1
  have y2 := q3.cell 2
  have y3 := q3.cell 3
  have g0 := q3.frozen 0
  have g1 := q3.frozen 1
  have g2 := q3.frozen 2
  have g3 := q3.frozen 3
  simp only [List.getElem?_cons_zero, List.getElem?_cons_succ] at y0 y1 y2 y3
  go_wp2
  have r5 := (((q3.set 0 (.int .i64 (W : Nat))).set 1 (.int .i64 (H : Nat))).set 2 (.int .i64 m)).set 3 (.slice A3 L.length c3)
  have r0 := r5.cell 0
  have r1 := r5.cell 1
  have r2 := r5.cell 2
  have r3 := r5.cell 3
  simp only [List.set_cons_zero, List.set_cons_succ, List.getElem?_cons_zero, List.getElem?_cons_succ] at r0 r1 r2 r3
  refine bodyPost_ret (v := .tuple #[.agg #[.int .i64 (W : Nat), .int .i64 (H : Nat), .int .i64 m, .slice A3 L.length c3], .int .i64 0]) (by simp [results, Try.results9, go_sem, r0, r1, r2, r3]) rfl ?_
  have hfar : ∀ a : Addr, A3 = some a → a.block ≠ w.heap.size + 1 := fun a e => by have := hfr a e; omega
  refine ⟨A3, c3, rfl, ?_, (((hk13.set (p := ⟨w.heap.size + 1, 0, none⟩) (by simp only; omega) _).set (p := ⟨w.heap.size + 1, 1, none⟩) (by simp only; omega) _).set (p := ⟨w.heap.size + 1, 2, none⟩) (by simp only; omega) _).set (p := ⟨w.heap.size + 1, 3, none⟩) (by simp only; omega) _, fun a e => Nat.le_trans (hk1.trans' hk2).size (hfr a e)⟩
  exact (((hr3.set_far (fun _ => hfar) 0 _).set_far (fun _ => hfar) 1 _).set_far (fun _ => hfar) 2 _).set_far (fun _ => hfar) 3 _
end Go.Proofs.Ytecibfncnaccjaa
