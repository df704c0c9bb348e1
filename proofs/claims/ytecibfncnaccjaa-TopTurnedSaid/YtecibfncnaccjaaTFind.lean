/- corner.Find: the walk. -/
import Derived.Test.YtecibfncnaccjaaTFindP
import Derived.Deep.RegionHeld3
import Derived.Deep.AppendLies
namespace Go.Proofs.Ytecibfncnaccjaa
open Go.RowKit Go.Shelf
def fi18Φ (Vo Vs : Value) (kx ky ki kl kr ku kd W : Nat) (Pl P0 Pr Pu Pd : Addr) (vl v0 vr vu vd o1 o2 : Int) : Nat → Value → World → Prop
  | 0, v, _ => v = Vo
  | 1, v, _ => v = .int .i64 (kx : Nat)
  | 2, v, _ => v = .int .i64 (64 * (kx : Int))
  | 3, v, _ => v = .int .i64 (64 * (kx : Int) + 32)
  | 4, v, _ => v = Vs
  | 5, v, _ => v = .int .i64 (ki : Nat)
  | 6, v, _ => v = .int .i64 (kl : Nat)
  | 7, v, _ => v = .pointer (some Pl)
  | 8, v, _ => v = .int .i64 vl
  | 9, v, _ => v = Vs
  | 10, v, _ => v = .int .i64 (ki : Nat)
  | 11, v, _ => v = .pointer (some P0)
  | 12, v, _ => v = .int .i64 v0
  | 13, v, _ => v = Vs
  | 14, v, _ => v = .int .i64 (ki : Nat)
  | 15, v, _ => v = .int .i64 (kr : Nat)
  | 16, v, _ => v = .pointer (some Pr)
  | 17, v, _ => v = .int .i64 vr
  | 18, v, _ => v = .int .i64 o1
  | 19, v, _ => v = .int .i64 (64 * (kx : Int) + 32 + o1)
  | 20, v, _ => v = .int .i64 (ky : Nat)
  | 21, v, _ => v = .int .i64 (64 * (ky : Int))
  | 22, v, _ => v = .int .i64 (64 * (ky : Int) + 32)
  | 23, v, _ => v = Vs
  | 24, v, _ => v = .int .i64 (ki : Nat)
  | 25, v, _ => v = .int .i64 (W : Nat)
  | 26, v, _ => v = .int .i64 (ku : Nat)
  | 27, v, _ => v = .pointer (some Pu)
  | 28, v, _ => v = .int .i64 vu
  | 29, v, _ => v = Vs
  | 30, v, _ => v = .int .i64 (ki : Nat)
  | 31, v, _ => v = .pointer (some P0)
  | 32, v, _ => v = .int .i64 v0
  | 33, v, _ => v = Vs
  | 34, v, _ => v = .int .i64 (ki : Nat)
  | 35, v, _ => v = .int .i64 (W : Nat)
  | 36, v, _ => v = .int .i64 (kd : Nat)
  | 37, v, _ => v = .pointer (some Pd)
  | 38, v, _ => v = .int .i64 vd
  | 39, v, _ => v = .int .i64 o2
  | 40, v, _ => v = .int .i64 (64 * (ky : Int) + 32 + o2)
  | 41, v, _ => v = Vs
  | 42, v, _ => v = .int .i64 (ki : Nat)
  | 43, v, _ => v = .pointer (some P0)
  | 44, v, _ => v = .int .i64 v0
  | 45, v, _ => v = .agg #[.int .i64 (64 * (kx : Int) + 32 + o1), .int .i64 (64 * (ky : Int) + 32 + o2), .int .i64 v0]
  | 46, v, w => ∃ b, v = .slice (some ⟨b, 0, none⟩) 1 1 ∧ Own w b 39 [.int .i64 (64 * (kx : Int) + 32 + o1), .int .i64 (64 * (ky : Int) + 32 + o2), .int .i64 v0]
  | _, _, _ => True
theorem info_crn : (Try.prog.info? 39).map (fun i => (i.zero, i.size, i.bytes)) = some (some (.agg #[.int .i64 0, .int .i64 0, .int .i64 0]), 3, 24) := by kernel_rfl
theorem scoL_bd {W H : Nat} {px : List Int} (h : ∀ x y, x < W → y < H → 0 ≤ pxL px W x y ∧ pxL px W x y ≤ 1023) : ∀ v ∈ scoL W H px, -3000000000000000 ≤ v ∧ v ≤ 3000000000000000 := by
  refine madeL_mem fun x y hx hy => ?_
  split
  · rename_i hin
    have h1 : 2 ≤ x ∧ x + 2 < W ∧ 2 ≤ y ∧ y + 2 < H := of_decide_eq_true hin
    have hb := sum_bd (p := pxL px W) (x := x) (y := y) (fun r t hr ht => by
      have a1 := h (x - 1 + r + 1) (y - 1 + t) (by omega) (by omega)
      have a2 := h (x - 1 + r - 1) (y - 1 + t) (by omega) (by omega)
      have a3 := h (x - 1 + r) (y - 1 + t + 1) (by omega) (by omega)
      have a4 := h (x - 1 + r) (y - 1 + t - 1) (by omega) (by omega)
      simp only [gX, gY]
      omega) 9 (by omega)
    have := scoV_bd (a := sA (pxL px W) x y 9) (b := sB (pxL px W) x y 9) (c := sC (pxL px W) x y 9) (by omega) (by omega) (by omega)
    unfold scP scoV
    omega
  · omega
theorem vI_bd {s : List Int} (h : ∀ v ∈ s, -3000000000000000 ≤ v ∧ v ≤ 3000000000000000) (k : Int) : -3000000000000000 ≤ vI s k ∧ vI s k ≤ 3000000000000000 := by
  unfold vI
  rw [List.getD]
  cases hk : s[k.toNat]? with
  | none => simp
  | some v => exact h v (List.mem_of_getElem? hk)
theorem own_cellsT {w : World} {b : Nat} {t : TypeId} {vs : List Value} (h : Own w b t vs) : ∀ j u, vs[j]? = some u → w.cell? ((⟨b, 0, none⟩ : Addr).add j) = some u := fun j u hj => by
  rw [show (⟨b, 0, none⟩ : Addr).add j = ⟨b, j, none⟩ by unfold Addr.add; split <;> simp_all, h.cell]
  exact hj
abbrev CellsF (w4 : World) (bs os n cs W ki kl kr ku kd : Nat) (v0 vl vr vu vd : Int) (w' : World) : Prop :=
  w'.cell? ⟨w4.heap.size, 0, none⟩ = some (.slice (some ⟨bs, os, none⟩) n cs) ∧ w'.cell? ⟨w4.heap.size + 1, 0, none⟩ = some (.int .i64 (W : Nat)) ∧ w'.cell? ⟨bs, os + ki, none⟩ = some (.int .i64 v0) ∧ w'.cell? ⟨bs, os + kl, none⟩ = some (.int .i64 vl) ∧ w'.cell? ⟨bs, os + kr, none⟩ = some (.int .i64 vr) ∧ w'.cell? ⟨bs, os + ku, none⟩ = some (.int .i64 vu) ∧ w'.cell? ⟨bs, os + kd, none⟩ = some (.int .i64 vd)
section
variable {w4 : World} {bs os n cs W ki kl kr ku kd : Nat} {v0 vl vr vu vd : Int} {u u' : World}
theorem CellsF.keeps (h : CellsF w4 bs os n cs W ki kl kr ku kd v0 vl vr vu vd u) (hk : Keeps u u') (h4 : w4.heap.size + 1 < u.heap.size) (hb : bs < u.heap.size) : CellsF w4 bs os n cs W ki kl kr ku kd v0 vl vr vu vd u' := by
  obtain ⟨h1, h2, h3, h5, h6, h7, h8⟩ := h
  exact ⟨(hk.cell (by show w4.heap.size < _; omega)).trans h1, (hk.cell h4).trans h2, (hk.cell hb).trans h3, (hk.cell hb).trans h5, (hk.cell hb).trans h6, (hk.cell hb).trans h7, (hk.cell hb).trans h8⟩
theorem CellsF.grown {V : Value} {m : Nat} {xs : List Value} {e : TypeId} {size : Nat} (h : CellsF w4 bs os n cs W ki kl kr ku kd v0 vl vr vu vd u) (hg : u.grownBy u' V.ownBlock) (hr : u.ownsRow (w4.heap.size + 1 + 1) e size V m xs) (h4 : w4.heap.size + 1 < u.heap.size) (hbu : bs < u.heap.size) (hb : bs < w4.heap.size) : CellsF w4 bs os n cs W ki kl kr ku kd v0 vl vr vu vd u' := by
  obtain ⟨h1, h2, h3, h5, h6, h7, h8⟩ := h
  have hne : ∀ b, b < w4.heap.size + 2 → some b ≠ V.ownBlock := fun b hb e => by
    have := hr.lo b (by simp [blkOf, ← e])
    omega
  have hc : ∀ b o, b < w4.heap.size + 2 → b < u.heap.size → u'.cell? ⟨b, o, none⟩ = u.cell? ⟨b, o, none⟩ := fun b o h1 h2 => hg.cell_far _ h2 (hne b h1)
  exact ⟨(hc _ _ (by omega) (by omega)).trans h1, (hc _ _ (by omega) (by omega)).trans h2, (hc _ _ (by omega) hbu).trans h3, (hc _ _ (by omega) hbu).trans h5, (hc _ _ (by omega) hbu).trans h6, (hc _ _ (by omega) hbu).trans h7, (hc _ _ (by omega) hbu).trans h8⟩
end
theorem cellsC_snoc (l : List Cn) (a : Cn) : cellsC (l ++ [a]) = cellsC l ++ cc a := by simp [cellsC]
/-- what the loops keep -/
def FInv (w w4 : World) (W H : Nat) (m : Int) (A : Option Addr) (c : Nat) (px s : List Int) (As : Option Addr) (cs : Nat) (thr : Int) (k : Nat) (V : Value) (wr : World) : Prop :=
  Own wr w.heap.size 24 [.int .i64 (W : Nat), .int .i64 (H : Nat), .int .i64 m, .slice A px.length c] ∧ Own wr (w.heap.size + 1) 3 [.int .i64 thr] ∧
  Own wr w4.heap.size 22 [.slice As s.length cs] ∧ Own wr (w4.heap.size + 1) 3 [.int .i64 (W : Nat)] ∧
  wr.ownsRow (w4.heap.size + 1 + 1) 39 3 V (candN W H s thr k).length (cellsC (candN W H s thr k)) ∧ Keeps w wr ∧ Keeps w4 wr
def GivesCn (l : List Cn) (w : World) (e : Ending) (w' : World) : Prop := ∃ A c, e = .returned (.tuple #[.slice A l.length c, .int .i64 0]) ∧ CRow w' A l ∧ Keeps w w'
section
variable {w w4 : World} {W H : Nat} {m : Int} {A : Option Addr} {c : Nat} {px s : List Int} {As : Option Addr} {cs : Nat} {thr : Int} {k k' : Nat} {V : Value} {u : World}
theorem FInv.to (h : FInv w w4 W H m A c px s As cs thr k V u) (e : candN W H s thr k = candN W H s thr k') : FInv w w4 W H m A c px s As cs thr k' V u := by
  unfold FInv at h ⊢
  rw [← e]
  exact h
theorem FInv.app {V' : Value} {wc w8 : World} (h : FInv w w4 W H m A c px s As cs thr k V u) (h14 : Keeps w w4) (hk : Keeps u wc) (hg : wc.grownBy w8 V.ownBlock)
    (hr : w8.ownsRow (w4.heap.size + 1 + 1) 39 3 V' (candN W H s thr k').length (cellsC (candN W H s thr k'))) (hq : w.heap.size + 1 < w4.heap.size) : FInv w w4 W H m A c px s As cs thr k' V' w8 := by
  obtain ⟨h1, h2, h3, h4, h5, h6, h7⟩ := h
  have ht := Turn.of_grown hg
  have hlo : ∀ b ∈ blkOf V, w4.heap.size + 2 ≤ b := fun b hb => (h5.lo b hb).1
  have kk : ∀ {z : World}, Keeps z u → z.heap.size ≤ w4.heap.size → Keeps z w8 := fun {z} hz hle =>
    ((Turn.of_keeps (T := []) (hz.trans' hk)).trans (T' := blkOf V) ht (fun b hb hlt => by have := hlo b hb; omega)).keeps (fun b hb => by cases hb)
  have hn : ∀ b, b < w4.heap.size + 2 → b ∉ blkOf V := fun b hb hm => by have := hlo b hm; omega
  exact ⟨(h1.below hk).turn ht (hn _ (by omega)), (h2.below hk).turn ht (hn _ (by omega)), (h3.below hk).turn ht (hn _ (by omega)), (h4.below hk).turn ht (hn _ (by omega)), hr, kk h6 (by omega), kk h7 (Nat.le_refl _)⟩
end
set_option maxRecDepth 100000 in
set_option maxHeartbeats 8000000 in
theorem find_any {w : World} {A : Option Addr} {c : Nat} {px : List Int} {W H : Nat} {m thr : Int} (hr : IRow w A px) (hv : rasC W H m px = 0) (hm : m ≤ 1023) (ht : 0 ≤ thr ∧ thr ≤ 65535) (hl150 : px.length ≤ 150) :
    Calls Try.prog 7 #[.agg #[.int .i64 (W : Nat), .int .i64 (H : Nat), .int .i64 m, .slice A px.length c], .int .i64 thr, .int .i64 100] w (GivesCn (findP W H px thr) w) := by
  obtain ⟨i0, hi, hz0, hz1, hz2⟩ := info_parts info_crn
  obtain ⟨hW, hH, hm1, hl, hp⟩ := rasC_ok hv
  obtain ⟨W1, hW1⟩ : ∃ W1, (w.alloc (.cells #[.int .i64 (W : Nat), .int .i64 (H : Nat), .int .i64 m, .slice A px.length c] 24)).alloc (.cells #[.int .i64 thr] 3) = W1 := ⟨_, rfl⟩
  have hk1 : Keeps w W1 := hW1 ▸ keep2 w _ _
  have p1 : Own W1 w.heap.size 24 [.int .i64 (W : Nat), .int .i64 (H : Nat), .int .i64 m, .slice A px.length c] := hW1 ▸ (Own.new w _ _).alloc _
  have q1 : Own W1 (w.heap.size + 1) 3 [.int .i64 thr] := hW1 ▸ own2 w _ _ _
  have HC := Lib.hid (checked_any (c := c) (hr.below hk1) (W : Int) (H : Int) m (by simp only [maxLen]; omega))
  rw [askC_ok.2 ⟨hv, hm⟩] at HC
  have HR := Lib.hid (hr.below hk1)
  have HV := Lib.hid hv
  have HM := Lib.hid hm
  have hWI : (W : Int) ≤ 64 := by omega
  have hHI : (H : Int) ≤ 64 := by omega
  have hW1I : (1 : Int) ≤ W := by omega
  have hH1I : (1 : Int) ≤ H := by omega
  have HWH := Lib.hid (And.intro hW hH)
  have hn150 : W * H ≤ 150 := by rw [← hl]; exact hl150
  have HN150 := Lib.hid hn150
  have HSB := Lib.hid (scoL_bd (W := W) (H := H) (px := px) (fun x y hx hy => by
    have := hp _ (pxL_mem hl hx hy)
    omega))
  obtain ⟨s, hs⟩ : ∃ s, scoL W H px = s := ⟨_, rfl⟩
  have hsl : s.length = W * H := by rw [← hs, scoL, madeL_length]
  rw [hs] at HSB
  have HS := Lib.hid hs
  have HSL := Lib.hid hsl
  obtain ⟨ht1, ht2⟩ := ht
  have t0 : decide (thr < 0) = false := decide_eq_false (by omega)
  clear hr hv hm hm1 hl hp hs hsl hn150
  have x0 := p1.cell 0
  have x1 := p1.cell 1
  have x2 := p1.cell 2
  have x3 := p1.cell 3
  simp only [List.getElem?_cons_zero, List.getElem?_cons_succ] at x0 x1 x2 x3
  have z0 := q1.cell 0
  simp only [List.getElem?_cons_zero, List.getElem?_cons_succ] at z0
  go_enter Try.func7, Try.ntmps7
  go_wp2_with fail
  refine HC.out.mono ?_
  rintro e w2 ⟨rfl, hk2⟩
  have p2 := p1.below hk2
  have q2 := q1.below hk2
  have HSC := Lib.hid (scores_any (c := c) (HR.out.below hk2) HV.out HM.out)
  rw [HS.out] at HSC
  clear x0 x1 x2 x3 z0
  have x0 := p2.cell 0
  have x1 := p2.cell 1
  have x2 := p2.cell 2
  have x3 := p2.cell 3
  simp only [List.getElem?_cons_zero, List.getElem?_cons_succ] at x0 x1 x2 x3
  have z0 := q2.cell 0
  simp only [List.getElem?_cons_zero, List.getElem?_cons_succ] at z0
  go_wp2_with fail
  refine HSC.out.mono ?_
  rintro e w4 ⟨As, cs, rfl, hrs, hk4⟩
  have p4 := p2.below hk4
  have q4 := q2.below hk4
  have hk14 := (hk1.trans' hk2).trans' hk4
  clear x0 x1 x2 x3 z0
  have x0 := p4.cell 0
  have x1 := p4.cell 1
  have x2 := p4.cell 2
  have x3 := p4.cell 3
  simp only [List.getElem?_cons_zero, List.getElem?_cons_succ] at x0 x1 x2 x3
  have z0 := q4.cell 0
  simp only [List.getElem?_cons_zero, List.getElem?_cons_succ] at z0
  obtain ⟨Wa, hWa⟩ : ∃ Wa, w4.alloc (.cells #[.slice As s.length cs] 22) = Wa := ⟨_, rfl⟩
  have hka : Keeps w4 Wa := hWa ▸ box2 w4 _
  have sa : Own Wa w4.heap.size 22 [.slice As s.length cs] := hWa ▸ Own.new w4 _ _
  obtain ⟨Wb, hWb⟩ : ∃ Wb, Wa.alloc (.cells #[.int .i64 (W : Nat)] 3) = Wb := ⟨_, rfl⟩
  have hkb : Keeps Wa Wb := hWb ▸ box2 Wa _
  have wb : Own Wb (w4.heap.size + 1) 3 [.int .i64 (W : Nat)] := by
    have := Own.new Wa 3 [.int .i64 (W : Nat)]
    rw [← hWa, World.size_alloc, hWa] at this
    exact hWb ▸ this
  have pa := p4.below hka
  have za := q4.below hka
  have hkab := hka.trans' hkb
  have y0 := pa.cell 0
  have y1 := pa.cell 1
  simp only [List.getElem?_cons_zero, List.getElem?_cons_succ] at y0 y1
  have hinv : FInv w w4 W H m A c px s As cs thr (2 * W + 2) (.slice none 0 0) Wb := by
    refine ⟨pa.below hkb, za.below hkb, sa.below hkb, wb, ?_, hk14.trans' hkab, hkab⟩
    rw [candN_zero s thr (by omega)]
    exact World.ownsRow_nil _ _ _ _
  have HINV := Lib.hid hinv
  have HRS := Lib.hid hrs
  have hlt4 := q4.lt
  have HK14 := Lib.hid hk14
  have hsz : Wa.heap.size = w4.heap.size + 1 := by rw [← hWa, World.size_alloc]
  have s4 : s.length ≤ 4096 := by rw [HSL.out]; exact Nat.mul_le_mul hW.2 hH.2
  have HS4 := Lib.hid s4
  go_upto_region 9 with fail
  try rw [hsz]
  clear hinv hrs pa za sa wb p4 q4 hka hkb hkab y0 y1 x0 x1 x2 x3 z0 hWa hWb hsz hW1 p1 q1 p2 q2 s4
  go_wp2
  go_loopw [13, 12] (fun iy V wr => ∃ y : Nat, 2 ≤ y ∧ y ≤ 64 ∧ iy = .int .i64 (y : Nat) ∧ FInv w w4 W H m A c px s As cs thr (y * W + 2) V wr) (fun i _ _ => 70 - (intOf i).toNat)
  case atStart => exact ⟨2, Nat.le_refl _, by omega, rfl, HINV.out⟩
  case round =>
    clear HINV
    obtain ⟨y, hy2, hy64, rfl, hinv⟩ := hrel
    have x1 := hinv.1.cell 1
    simp only [List.getElem?_cons_zero, List.getElem?_cons_succ] at x1
    by_cases hlt : y + 2 < H
    · have t1 : decide ((y : Int) < (H : Int) - 2) = true := decide_eq_true (by omega)
      have t1' : (y : Int) < (H : Int) - 2 := by omega
      have hyI : (y : Int) ≤ 64 := by omega
      have hy1I : (2 : Int) ≤ (y : Int) := by omega
      have HI0 := Lib.hid hinv
      clear hinv
      go_wp2
      go_loopw [14, 12] (fun ix V wr => ∃ x : Nat, 2 ≤ x ∧ x ≤ W + 2 ∧ ix = .int .i64 (x : Nat) ∧ FInv w w4 W H m A c px s As cs thr (y * W + x) V wr) (fun i _ _ => 70 - (intOf i).toNat)
      case atStart => exact ⟨2, Nat.le_refl _, by omega, rfl, HI0.out⟩
      case round =>
        clear HI0 x1
        obtain ⟨x, hx2, hx66, rfl, hfi⟩ := hrel
        have HFI := Lib.hid hfi
        obtain ⟨p, q, b9, b10, row, hkw, hkw4⟩ := hfi
        have z0 := b10.cell 0
        simp only [List.getElem?_cons_zero, List.getElem?_cons_succ] at z0
        have hx66' : x ≤ 66 := by omega
        have hxI : (x : Int) ≤ 66 := by omega
        have hx1I : (2 : Int) ≤ (x : Int) := by omega
        by_cases hlx : x + 2 < W
        · have t2 : decide ((x : Int) < (W : Int) - 2) = true := decide_eq_true (by omega)
          have t2' : (x : Int) < (W : Int) - 2 := by omega
          have hin : inI W H x y = true := decide_eq_true (by omega)
          have hidx : y * W + x < W * H := idx_lt (by omega) (by omega)
          have hup : (y + 1) * W + (x + 1) < W * H := idx_lt (by omega) (by omega)
          have hdn : 2 * W ≤ y * W := row_le hy2
          rw [Nat.add_mul, Nat.one_mul] at hup
          have hcs := candN_succ (H := H) s thr (show x < W by omega) hin
          have hq : (y : Int) * (W : Int) = ((y * W : Nat) : Int) := by simp
          have hyW : y * W ≤ 64 * 64 := Nat.mul_le_mul hy64 hW.2
          have HPK := Lib.hid (peak_any b9 q b10 (HRS.out.below hkw4) rfl HS4.out hW (i := y * W + x) (by omega) (by rw [HSL.out]; omega))
          have HIX : Hid (W + 1 ≤ y * W + x ∧ y * W + x + W + 1 < s.length) := Lib.hid ⟨by omega, by rw [HSL.out]; omega⟩
          have HCS := Lib.hid hcs
          have HRW := Lib.hid row
          have HPO := Lib.hid p
          have HQO := Lib.hid q
          have HB90 := Lib.hid b9
          have HB100 := Lib.hid b10
          obtain ⟨k0, hk0⟩ : ∃ k0, y * W = k0 := ⟨_, rfl⟩
          have HK0 := Lib.hid hk0
          rw [hk0] at hq hyW HPK
          obtain ⟨ki, hki⟩ : ∃ ki, k0 + x = ki := ⟨_, rfl⟩
          have HKI := Lib.hid hki
          rw [hki] at HPK
          have hkiI : (k0 : Int) + (x : Int) = (ki : Int) := by omega
          have hk0I : (k0 : Int) ≤ 4096 := by omega
          have hki4 : (ki : Int) ≤ 5000 := by omega
          have hwki : IntKind.i64.wrap (ki : Int) = (ki : Int) := by rw [IntKind.wrap_i64]; omega
          obtain ⟨pk, hpk⟩ : ∃ pk, peakP s W thr ki = pk := ⟨_, rfl⟩
          rw [hpk] at HPK
          have HPKV := Lib.hid hpk
          obtain ⟨A1, c1, rfl, -⟩ := row.sl
          clear hin hidx hup hdn hcs hk0 hki hpk p q b9 b10 row hyW
          go_wp2_with fail
          refine HPK.out.mono ?_
          rintro e w6 ⟨rfl, hk6⟩
          have hk4w6 := hkw4.trans' hk6
          have hkw6 := hkw.trans' hk6
          cases pk with
          | false =>
            have HF : Hid (FInv w w4 W H m A c px s As cs thr (y * W + (x + 1)) (.slice A1 (candN W H s thr (y * W + x)).length c1) w6) := Lib.hid (by
              refine ⟨HPO.out.below hk6, HQO.out.below hk6, HB90.out.below hk6, HB100.out.below hk6, ?_, hkw6, hk4w6⟩
              have h1 := HCS.out
              rw [HK0.out, HKI.out, HPKV.out, if_neg (by decide), List.append_nil] at h1
              rw [show y * W + (x + 1) = ki + 1 by have := HK0.out; have := HKI.out; omega, h1]
              have := HRW.out.keeps hk6
              rw [HK0.out, HKI.out] at this ⊢
              exact this)
            go_wp2
            go_roundw
            case rel => exact ⟨x + 1, by omega, by omega, by go_num, HF.out⟩
            case measure => simp [intOf]; omega
          | true =>
            have hix := HIX.out
            rw [HK0.out, HKI.out] at hix
            obtain ⟨hix1, hix2⟩ := hix
            obtain ⟨kl, hkl⟩ : ∃ kl : Nat, (ki : Int) - 1 = (kl : Int) := ⟨ki - 1, by omega⟩
            obtain ⟨kr, hkr⟩ : ∃ kr : Nat, (ki : Int) + 1 = (kr : Int) := ⟨ki + 1, by omega⟩
            obtain ⟨ku, hku⟩ : ∃ ku : Nat, (ki : Int) - (W : Int) = (ku : Int) := ⟨ki - W, by omega⟩
            obtain ⟨kd, hkd⟩ : ∃ kd : Nat, (ki : Int) + (W : Int) = (kd : Int) := ⟨ki + W, by omega⟩
            have hrow := HRS.out.below hk4w6
            have hrow4 := HRS.out
            obtain ⟨bs, os, rfl, C1⟩ := IRow.at hrow (j := kl) (by omega)
            obtain ⟨bs', os', e0, C0⟩ := IRow.at hrow (j := ki) (by omega)
            cases e0
            obtain ⟨bs', os', e0, C2⟩ := IRow.at hrow (j := kr) (by omega)
            cases e0
            obtain ⟨bs', os', e0, C3⟩ := IRow.at hrow (j := ku) (by omega)
            cases e0
            obtain ⟨bs', os', e0, C4⟩ := IRow.at hrow (j := kd) (by omega)
            cases e0
            have hbs : bs < w6.heap.size := by
              obtain ⟨b', o', e0, hb', -⟩ := hrow (by omega)
              cases e0
              exact hb'
            have HBS := Lib.hid hbs
            have HBS4 : Hid (bs < w4.heap.size) := Lib.hid (by
              obtain ⟨b', o', e0, hb', -⟩ := hrow4 (by omega)
              cases e0
              exact hb')
            have e1 : s.getD kl 0 = vI s ((ki : Int) - 1) := by rw [hkl]; simp [vI]
            have e2 : s.getD ki 0 = vI s (ki : Int) := by simp [vI]
            have e3 : s.getD kr 0 = vI s ((ki : Int) + 1) := by rw [hkr]; simp [vI]
            have e4 : s.getD ku 0 = vI s ((ki : Int) - W) := by rw [hku]; simp [vI]
            have e5 : s.getD kd 0 = vI s ((ki : Int) + W) := by rw [hkd]; simp [vI]
            rw [e1] at C1
            rw [e2] at C0
            rw [e3] at C2
            rw [e4] at C3
            rw [e5] at C4
            have hcorn : cornP s W x y = (64 * (x : Int) + 32 + offI (vI s ((ki : Int) - 1)) (vI s (ki : Int)) (vI s ((ki : Int) + 1)), 64 * (y : Int) + 32 + offI (vI s ((ki : Int) - W)) (vI s (ki : Int)) (vI s ((ki : Int) + W)), vI s (ki : Int)) := by
              unfold cornP
              rw [HK0.out, HKI.out]
            have bd1 := vI_bd HSB.out ((ki : Int) - 1)
            have bd0 := vI_bd HSB.out (ki : Int)
            have bd2 := vI_bd HSB.out ((ki : Int) + 1)
            have bd3 := vI_bd HSB.out ((ki : Int) - W)
            have bd4 := vI_bd HSB.out ((ki : Int) + W)
            obtain ⟨vl, hvl⟩ : ∃ v, vI s ((ki : Int) - 1) = v := ⟨_, rfl⟩
            obtain ⟨v0, hv0⟩ : ∃ v, vI s (ki : Int) = v := ⟨_, rfl⟩
            obtain ⟨vr, hvr⟩ : ∃ v, vI s ((ki : Int) + 1) = v := ⟨_, rfl⟩
            obtain ⟨vu, hvu⟩ : ∃ v, vI s ((ki : Int) - W) = v := ⟨_, rfl⟩
            obtain ⟨vd, hvd⟩ : ∃ v, vI s ((ki : Int) + W) = v := ⟨_, rfl⟩
            rw [hvl] at C1 bd1 hcorn
            rw [hv0] at C0 bd0 hcorn
            rw [hvr] at C2 bd2 hcorn
            rw [hvu] at C3 bd3 hcorn
            rw [hvd] at C4 bd4 hcorn
            have ho1 := fun u => offset_any u vl v0 vr bd1 bd0 bd2
            have ho2 := fun u => offset_any u vu v0 vd bd3 bd0 bd4
            have ob1 := offI_bd vl v0 vr
            have ob2 := offI_bd vu v0 vd
            obtain ⟨o1, ho1e⟩ : ∃ o, offI vl v0 vr = o := ⟨_, rfl⟩
            obtain ⟨o2, ho2e⟩ : ∃ o, offI vu v0 vd = o := ⟨_, rfl⟩
            rw [ho1e] at ho1 ob1 hcorn
            rw [ho2e] at ho2 ob2 hcorn
            obtain ⟨ob11, ob12⟩ := ob1
            obtain ⟨ob21, ob22⟩ := ob2
            have HO1K : Hid (∀ u, Calls Try.prog 17 #[.int .i64 vl, .int .i64 v0, .int .i64 vr] u fun e w' => e = .returned (.int .i64 o1) ∧ Keeps u w') := Lib.hid fun u => (ho1 u).mono fun e w' h => ⟨h.1, by rw [h.2]; exact Below.refl _ _⟩
            have HO2K : Hid (∀ u, Calls Try.prog 17 #[.int .i64 vu, .int .i64 v0, .int .i64 vd] u fun e w' => e = .returned (.int .i64 o2) ∧ Keeps u w') := Lib.hid fun u => (ho2 u).mono fun e w' h => ⟨h.1, by rw [h.2]; exact Below.refl _ _⟩
            have hyI2 : (y : Int) ≤ 64 := by omega
            have hwa1 : IntKind.i64.wrap (64 * (x : Int)) = 64 * (x : Int) := by rw [IntKind.wrap_i64]; omega
            have hwa2 : IntKind.i64.wrap (64 * (x : Int) + 32) = 64 * (x : Int) + 32 := by rw [IntKind.wrap_i64]; omega
            have hwa3 : IntKind.i64.wrap (64 * (x : Int) + 32 + o1) = 64 * (x : Int) + 32 + o1 := by rw [IntKind.wrap_i64]; omega
            have hwb1 : IntKind.i64.wrap (64 * (y : Int)) = 64 * (y : Int) := by rw [IntKind.wrap_i64]; omega
            have hwb2 : IntKind.i64.wrap (64 * (y : Int) + 32) = 64 * (y : Int) + 32 := by rw [IntKind.wrap_i64]; omega
            have hwb3 : IntKind.i64.wrap (64 * (y : Int) + 32 + o2) = 64 * (y : Int) + 32 + o2 := by rw [IntKind.wrap_i64]; omega
            have HCO := Lib.hid hcorn
            have C0 := Lib.hid C0
            have C1 := Lib.hid C1
            have C2 := Lib.hid C2
            have C3 := Lib.hid C3
            have C4 := Lib.hid C4
            have HB9 := Lib.hid (HB90.out.below hk6)
            have HB10 := Lib.hid (HB100.out.below hk6)
            have HROW6 := Lib.hid (HRW.out.keeps hk6)
            have HFEW := Lib.hid (candN_few (n := y * W + x) s thr HN150.out)
            have hsI : (s.length : Int) ≤ 4096 := by have := HS4.out; omega
            have hklI : (kl : Int) < s.length := by omega
            have hkiI2 : (ki : Int) < s.length := by omega
            have hkrI : (kr : Int) < s.length := by omega
            have hkuI : (ku : Int) < s.length := by omega
            have hkdI : (kd : Int) < s.length := by omega
            have hw1 : IntKind.i64.wrap (kl : Int) = (kl : Int) := by rw [IntKind.wrap_i64]; omega
            have hw2 : IntKind.i64.wrap (kr : Int) = (kr : Int) := by rw [IntKind.wrap_i64]; omega
            have hw3 : IntKind.i64.wrap (ku : Int) = (ku : Int) := by rw [IntKind.wrap_i64]; omega
            have hw4 : IntKind.i64.wrap (kd : Int) = (kd : Int) := by rw [IntKind.wrap_i64]; omega
            obtain ⟨n, hn⟩ : ∃ n, s.length = n := ⟨_, rfl⟩
            rw [hn] at HB9 hsI hklI hkiI2 hkrI hkuI hkdI
            obtain ⟨nc, hnc⟩ : ∃ nc, (candN W H s thr (y * W + x)).length = nc := ⟨_, rfl⟩
            have HNC := Lib.hid hnc
            rw [hnc] at HFEW HROW6 ⊢
            have hncI : (nc : Int) ≤ 20 := by have := HFEW.out; omega
            obtain ⟨Vo, hVo⟩ : ∃ Vo, (Value.slice A1 nc c1) = Vo := ⟨_, rfl⟩
            rw [hVo] at HROW6 ⊢
            have HVO := Lib.hid hVo
            clear hrow hrow4 hbs e1 e2 e3 e4 e5 hcorn ho1 ho2 bd0 bd1 bd2 bd3 bd4 hvl hv0 hvr hvu hvd ho1e ho2e hix1 hix2 hn hnc hVo hkiI hq z0
            have HSZ10 := Lib.hid HB10.out.lt
            have hb1 : nc + 1 ≤ maxLen := by simp only [maxLen]; omega
            have hb2 : (nc + 1) * 24 ≤ 140737488355328 := by omega
            have HB6 : Hid (∀ u ∈ [Value.int .i64 (64 * (x : Int) + 32 + o1), .int .i64 (64 * (y : Int) + 32 + o2), .int .i64 v0], u.oneCell' = true) := Lib.hid (by simp [Value.oneCell'])
            go_wp2
            refine wp_region_steps (m := 47) rfl (by kernel_rfl) (fi18Φ Vo (.slice (some ⟨bs, os, none⟩) n cs) x y ki kl kr ku kd W ⟨bs, os + kl, none⟩ ⟨bs, os + ki, none⟩ ⟨bs, os + kr, none⟩ ⟨bs, os + ku, none⟩ ⟨bs, os + kd, none⟩ vl v0 vr vu vd o1 o2) [] ?_ ?_ ?_
            · intro i v w w' hi h hk
              match i, hi with
              | 0, _ | 1, _ | 2, _ | 3, _ | 4, _ | 5, _ | 6, _ | 7, _ | 8, _ | 9, _ | 10, _ | 11, _ | 12, _ | 13, _ | 14, _ | 15, _ | 16, _ | 17, _ | 18, _ | 19, _ | 20, _ | 21, _ | 22, _ | 23, _ | 24, _ | 25, _ | 26, _ | 27, _ | 28, _ | 29, _ | 30, _ | 31, _ | 32, _ | 33, _ | 34, _ | 35, _ | 36, _ | 37, _ | 38, _ | 39, _ | 40, _ | 41, _ | 42, _ | 43, _ | 44, _ | 45, _ => exact h
              | 46, _ => exact h.elim fun b ⟨h1, h3⟩ => ⟨b, h1, h3.below hk⟩
              | i + 47, hi => exact absurd hi (by omega)
            · intro i hi vs wph3 hk3 hd
              have hkq := Keeps.trans' (w1 := w6.drew) (Below.drew (Below.refl _ w6)) hk3
              have x9 := (HB9.out.below hkq).cell 0
              have x10 := (HB10.out.below hkq).cell 0
              have y1 := (hkq.cell (p := ⟨bs, os + kl, none⟩) HBS.out).trans C1.out
              have y0 := (hkq.cell (p := ⟨bs, os + ki, none⟩) HBS.out).trans C0.out
              have y2 := (hkq.cell (p := ⟨bs, os + kr, none⟩) HBS.out).trans C2.out
              have y3 := (hkq.cell (p := ⟨bs, os + ku, none⟩) HBS.out).trans C3.out
              have y4 := (hkq.cell (p := ⟨bs, os + kd, none⟩) HBS.out).trans C4.out
              simp only [List.getElem?_cons_zero, List.getElem?_cons_succ] at x9 x10
              match i, hi with
              | 0, _ =>
                refine step_yes (o := ⟨some 58, Op.move (Operand.tmp 12), 31, "corner.go:112", #[], none⟩) [] (by kernel_rfl) (by kernel_rfl) fun K hK => ?_
                simp only [frD] at hK ⊢
                refine ⟨by rfl, ?_⟩
                go_simp
                exact hK _ _ ⟨Below.refl _ _, rfl, by simp⟩
              | 1, _ =>
                refine step_yes (o := ⟨some 59, Op.move (Operand.tmp 14), 3, "corner.go:112", #[], none⟩) [] (by kernel_rfl) (by kernel_rfl) fun K hK => ?_
                simp only [frD] at hK ⊢
                refine ⟨by rfl, ?_⟩
                go_simp
                exact hK _ _ ⟨Below.refl _ _, rfl, by simp⟩
              | 2, _ =>
                have e1 : vs 1 = .int .i64 (x : Nat) := hd 1 (List.contains_iff_mem.1 (by kernel_rfl))
                refine step_yes (o := ⟨some 60, Op.binOp BinOp.mul 3 (Operand.const (Value.int IntKind.i64 64)) (Operand.tmp 59) 3, 3, "corner.go:112", #[{ on := 1, ground := Ground.data }], none⟩) [(1, some 59)] (by kernel_rfl) (by kernel_rfl) fun K hK => ?_
                simp only [frD, e1] at hK ⊢
                refine ⟨by rfl, ?_⟩
                go_simp
                exact hK _ _ ⟨Below.refl _ _, rfl, by simp⟩
              | 3, _ =>
                have e2 : vs 2 = .int .i64 (64 * (x : Int)) := hd 2 (List.contains_iff_mem.1 (by kernel_rfl))
                refine step_yes (o := ⟨some 61, Op.binOp BinOp.add 3 (Operand.tmp 60) (Operand.const (Value.int IntKind.i64 32)) 3, 3, "corner.go:112", #[{ on := 2, ground := Ground.data }], none⟩) [(2, some 60)] (by kernel_rfl) (by kernel_rfl) fun K hK => ?_
                simp only [frD, e2] at hK ⊢
                refine ⟨by rfl, ?_⟩
                go_simp
                exact hK _ _ ⟨Below.refl _ _, rfl, by simp⟩
              | 4, _ =>
                refine step_yes (o := ⟨some 62, Op.load 22 (Operand.tmp 9), 22, "corner.go:112", #[], none⟩) [] (by kernel_rfl) (by kernel_rfl) fun K hK => ?_
                simp only [frD] at hK ⊢
                refine ⟨by rfl, ?_⟩
                go_simp
                exact hK _ _ ⟨Below.refl _ _, rfl, by simp⟩
              | 5, _ =>
                refine step_yes (o := ⟨some 63, Op.move (Operand.tmp 15), 3, "corner.go:112", #[], none⟩) [] (by kernel_rfl) (by kernel_rfl) fun K hK => ?_
                simp only [frD] at hK ⊢
                refine ⟨by rfl, ?_⟩
                go_simp
                exact hK _ _ ⟨Below.refl _ _, rfl, by simp⟩
              | 6, _ =>
                have e5 : vs 5 = .int .i64 (ki : Nat) := hd 5 (List.contains_iff_mem.1 (by kernel_rfl))
                refine step_yes (o := ⟨some 64, Op.binOp BinOp.sub 3 (Operand.tmp 63) (Operand.const (Value.int IntKind.i64 1)) 3, 3, "corner.go:112", #[{ on := 5, ground := Ground.data }], none⟩) [(5, some 63)] (by kernel_rfl) (by kernel_rfl) fun K hK => ?_
                simp only [frD, e5] at hK ⊢
                refine ⟨by rfl, ?_⟩
                go_simp
                exact hK _ _ ⟨Below.refl _ _, rfl, by simp⟩
              | 7, _ =>
                have e4 : vs 4 = (.slice (some ⟨bs, os, none⟩) n cs) := hd 4 (List.contains_iff_mem.1 (by kernel_rfl))
                have e6 : vs 6 = .int .i64 (kl : Nat) := hd 6 (List.contains_iff_mem.1 (by kernel_rfl))
                refine step_yes (o := ⟨some 65, Op.indexAddr 22 (Operand.tmp 62) (Operand.tmp 64), 0, "corner.go:112", #[{ on := 4, ground := Ground.data }, { on := 6, ground := Ground.data }], none⟩) [(4, some 62), (6, some 64)] (by kernel_rfl) (by kernel_rfl) fun K hK => ?_
                simp only [frD, e4, e6] at hK ⊢
                refine ⟨by rfl, ?_⟩
                go_simp
                exact hK _ _ ⟨Below.refl _ _, rfl, by simp⟩
              | 8, _ =>
                have e7 : vs 7 = .pointer (some (⟨bs, os + kl, none⟩ : Addr)) := hd 7 (List.contains_iff_mem.1 (by kernel_rfl))
                refine step_yes (o := ⟨some 66, Op.load 3 (Operand.tmp 65), 3, "corner.go:112", #[{ on := 7, ground := Ground.data }], none⟩) [(7, some 65)] (by kernel_rfl) (by kernel_rfl) fun K hK => ?_
                simp only [frD, e7] at hK ⊢
                refine ⟨by rfl, ?_⟩
                go_simp
                exact hK _ _ ⟨Below.refl _ _, rfl, by simp⟩
              | 9, _ =>
                refine step_yes (o := ⟨some 67, Op.load 22 (Operand.tmp 9), 22, "corner.go:112", #[], none⟩) [] (by kernel_rfl) (by kernel_rfl) fun K hK => ?_
                simp only [frD] at hK ⊢
                refine ⟨by rfl, ?_⟩
                go_simp
                exact hK _ _ ⟨Below.refl _ _, rfl, by simp⟩
              | 10, _ =>
                refine step_yes (o := ⟨some 68, Op.move (Operand.tmp 15), 3, "corner.go:112", #[], none⟩) [] (by kernel_rfl) (by kernel_rfl) fun K hK => ?_
                simp only [frD] at hK ⊢
                refine ⟨by rfl, ?_⟩
                go_simp
                exact hK _ _ ⟨Below.refl _ _, rfl, by simp⟩
              | 11, _ =>
                have e9 : vs 9 = (.slice (some ⟨bs, os, none⟩) n cs) := hd 9 (List.contains_iff_mem.1 (by kernel_rfl))
                have e10 : vs 10 = .int .i64 (ki : Nat) := hd 10 (List.contains_iff_mem.1 (by kernel_rfl))
                refine step_yes (o := ⟨some 69, Op.indexAddr 22 (Operand.tmp 67) (Operand.tmp 68), 0, "corner.go:112", #[{ on := 9, ground := Ground.data }, { on := 10, ground := Ground.data }], none⟩) [(9, some 67), (10, some 68)] (by kernel_rfl) (by kernel_rfl) fun K hK => ?_
                simp only [frD, e9, e10] at hK ⊢
                refine ⟨by rfl, ?_⟩
                go_simp
                exact hK _ _ ⟨Below.refl _ _, rfl, by simp⟩
              | 12, _ =>
                have e11 : vs 11 = .pointer (some (⟨bs, os + ki, none⟩ : Addr)) := hd 11 (List.contains_iff_mem.1 (by kernel_rfl))
                refine step_yes (o := ⟨some 70, Op.load 3 (Operand.tmp 69), 3, "corner.go:112", #[{ on := 11, ground := Ground.data }], none⟩) [(11, some 69)] (by kernel_rfl) (by kernel_rfl) fun K hK => ?_
                simp only [frD, e11] at hK ⊢
                refine ⟨by rfl, ?_⟩
                go_simp
                exact hK _ _ ⟨Below.refl _ _, rfl, by simp⟩
              | 13, _ =>
                refine step_yes (o := ⟨some 71, Op.load 22 (Operand.tmp 9), 22, "corner.go:112", #[], none⟩) [] (by kernel_rfl) (by kernel_rfl) fun K hK => ?_
                simp only [frD] at hK ⊢
                refine ⟨by rfl, ?_⟩
                go_simp
                exact hK _ _ ⟨Below.refl _ _, rfl, by simp⟩
              | 14, _ =>
                refine step_yes (o := ⟨some 72, Op.move (Operand.tmp 15), 3, "corner.go:112", #[], none⟩) [] (by kernel_rfl) (by kernel_rfl) fun K hK => ?_
                simp only [frD] at hK ⊢
                refine ⟨by rfl, ?_⟩
                go_simp
                exact hK _ _ ⟨Below.refl _ _, rfl, by simp⟩
              | 15, _ =>
                have e14 : vs 14 = .int .i64 (ki : Nat) := hd 14 (List.contains_iff_mem.1 (by kernel_rfl))
                refine step_yes (o := ⟨some 73, Op.binOp BinOp.add 3 (Operand.tmp 72) (Operand.const (Value.int IntKind.i64 1)) 3, 3, "corner.go:112", #[{ on := 14, ground := Ground.data }], none⟩) [(14, some 72)] (by kernel_rfl) (by kernel_rfl) fun K hK => ?_
                simp only [frD, e14] at hK ⊢
                refine ⟨by rfl, ?_⟩
                go_simp
                exact hK _ _ ⟨Below.refl _ _, rfl, by simp⟩
              | 16, _ =>
                have e13 : vs 13 = (.slice (some ⟨bs, os, none⟩) n cs) := hd 13 (List.contains_iff_mem.1 (by kernel_rfl))
                have e15 : vs 15 = .int .i64 (kr : Nat) := hd 15 (List.contains_iff_mem.1 (by kernel_rfl))
                refine step_yes (o := ⟨some 74, Op.indexAddr 22 (Operand.tmp 71) (Operand.tmp 73), 0, "corner.go:112", #[{ on := 13, ground := Ground.data }, { on := 15, ground := Ground.data }], none⟩) [(13, some 71), (15, some 73)] (by kernel_rfl) (by kernel_rfl) fun K hK => ?_
                simp only [frD, e13, e15] at hK ⊢
                refine ⟨by rfl, ?_⟩
                go_simp
                exact hK _ _ ⟨Below.refl _ _, rfl, by simp⟩
              | 17, _ =>
                have e16 : vs 16 = .pointer (some (⟨bs, os + kr, none⟩ : Addr)) := hd 16 (List.contains_iff_mem.1 (by kernel_rfl))
                refine step_yes (o := ⟨some 75, Op.load 3 (Operand.tmp 74), 3, "corner.go:112", #[{ on := 16, ground := Ground.data }], none⟩) [(16, some 74)] (by kernel_rfl) (by kernel_rfl) fun K hK => ?_
                simp only [frD, e16] at hK ⊢
                refine ⟨by rfl, ?_⟩
                go_simp
                exact hK _ _ ⟨Below.refl _ _, rfl, by simp⟩
              | 18, _ =>
                have e8 : vs 8 = .int .i64 vl := hd 8 (List.contains_iff_mem.1 (by kernel_rfl))
                have e12 : vs 12 = .int .i64 v0 := hd 12 (List.contains_iff_mem.1 (by kernel_rfl))
                have e17 : vs 17 = .int .i64 vr := hd 17 (List.contains_iff_mem.1 (by kernel_rfl))
                refine step_yes (o := ⟨some 76, Op.call { callee := Callee.value (Operand.func 17), args := #[Operand.tmp 66, Operand.tmp 70, Operand.tmp 75], argTypes := #[3, 3, 3] }, 3, "corner.go:112", #[{ on := 8, ground := Ground.data }, { on := 12, ground := Ground.data }, { on := 17, ground := Ground.data }], none⟩) [(8, some 66), (12, some 70), (17, some 75)] (by kernel_rfl) (by kernel_rfl) fun K hK => ?_
                simp only [frD, e8, e12, e17] at hK ⊢
                refine ⟨by rfl, ?_⟩
                go_simp
                refine (HO1K.out _).mono ?_
                rintro e wph4 ⟨rfl, hk4⟩
                exact hK _ _ ⟨hk4, rfl, by simp⟩
              | 19, _ =>
                have e3 : vs 3 = .int .i64 (64 * (x : Int) + 32) := hd 3 (List.contains_iff_mem.1 (by kernel_rfl))
                have e18 : vs 18 = .int .i64 o1 := hd 18 (List.contains_iff_mem.1 (by kernel_rfl))
                refine step_yes (o := ⟨some 77, Op.binOp BinOp.add 3 (Operand.tmp 61) (Operand.tmp 76) 3, 3, "corner.go:112", #[{ on := 3, ground := Ground.data }, { on := 18, ground := Ground.data }], none⟩) [(3, some 61), (18, some 76)] (by kernel_rfl) (by kernel_rfl) fun K hK => ?_
                simp only [frD, e3, e18] at hK ⊢
                refine ⟨by rfl, ?_⟩
                go_simp
                exact hK _ _ ⟨Below.refl _ _, rfl, by simp⟩
              | 20, _ =>
                refine step_yes (o := ⟨some 78, Op.move (Operand.tmp 13), 3, "corner.go:112", #[], none⟩) [] (by kernel_rfl) (by kernel_rfl) fun K hK => ?_
                simp only [frD] at hK ⊢
                refine ⟨by rfl, ?_⟩
                go_simp
                exact hK _ _ ⟨Below.refl _ _, rfl, by simp⟩
              | 21, _ =>
                have e20 : vs 20 = .int .i64 (y : Nat) := hd 20 (List.contains_iff_mem.1 (by kernel_rfl))
                refine step_yes (o := ⟨some 79, Op.binOp BinOp.mul 3 (Operand.const (Value.int IntKind.i64 64)) (Operand.tmp 78) 3, 3, "corner.go:112", #[{ on := 20, ground := Ground.data }], none⟩) [(20, some 78)] (by kernel_rfl) (by kernel_rfl) fun K hK => ?_
                simp only [frD, e20] at hK ⊢
                refine ⟨by rfl, ?_⟩
                go_simp
                exact hK _ _ ⟨Below.refl _ _, rfl, by simp⟩
              | 22, _ =>
                have e21 : vs 21 = .int .i64 (64 * (y : Int)) := hd 21 (List.contains_iff_mem.1 (by kernel_rfl))
                refine step_yes (o := ⟨some 80, Op.binOp BinOp.add 3 (Operand.tmp 79) (Operand.const (Value.int IntKind.i64 32)) 3, 3, "corner.go:112", #[{ on := 21, ground := Ground.data }], none⟩) [(21, some 79)] (by kernel_rfl) (by kernel_rfl) fun K hK => ?_
                simp only [frD, e21] at hK ⊢
                refine ⟨by rfl, ?_⟩
                go_simp
                exact hK _ _ ⟨Below.refl _ _, rfl, by simp⟩
              | 23, _ =>
                refine step_yes (o := ⟨some 81, Op.load 22 (Operand.tmp 9), 22, "corner.go:112", #[], none⟩) [] (by kernel_rfl) (by kernel_rfl) fun K hK => ?_
                simp only [frD] at hK ⊢
                refine ⟨by rfl, ?_⟩
                go_simp
                exact hK _ _ ⟨Below.refl _ _, rfl, by simp⟩
              | 24, _ =>
                refine step_yes (o := ⟨some 82, Op.move (Operand.tmp 15), 3, "corner.go:112", #[], none⟩) [] (by kernel_rfl) (by kernel_rfl) fun K hK => ?_
                simp only [frD] at hK ⊢
                refine ⟨by rfl, ?_⟩
                go_simp
                exact hK _ _ ⟨Below.refl _ _, rfl, by simp⟩
              | 25, _ =>
                refine step_yes (o := ⟨some 83, Op.load 3 (Operand.tmp 10), 3, "corner.go:112", #[], none⟩) [] (by kernel_rfl) (by kernel_rfl) fun K hK => ?_
                simp only [frD] at hK ⊢
                refine ⟨by rfl, ?_⟩
                go_simp
                exact hK _ _ ⟨Below.refl _ _, rfl, by simp⟩
              | 26, _ =>
                have e24 : vs 24 = .int .i64 (ki : Nat) := hd 24 (List.contains_iff_mem.1 (by kernel_rfl))
                have e25 : vs 25 = .int .i64 (W : Nat) := hd 25 (List.contains_iff_mem.1 (by kernel_rfl))
                refine step_yes (o := ⟨some 84, Op.binOp BinOp.sub 3 (Operand.tmp 82) (Operand.tmp 83) 3, 3, "corner.go:112", #[{ on := 24, ground := Ground.data }, { on := 25, ground := Ground.data }], none⟩) [(24, some 82), (25, some 83)] (by kernel_rfl) (by kernel_rfl) fun K hK => ?_
                simp only [frD, e24, e25] at hK ⊢
                refine ⟨by rfl, ?_⟩
                go_simp
                exact hK _ _ ⟨Below.refl _ _, rfl, by simp⟩
              | 27, _ =>
                have e23 : vs 23 = (.slice (some ⟨bs, os, none⟩) n cs) := hd 23 (List.contains_iff_mem.1 (by kernel_rfl))
                have e26 : vs 26 = .int .i64 (ku : Nat) := hd 26 (List.contains_iff_mem.1 (by kernel_rfl))
                refine step_yes (o := ⟨some 85, Op.indexAddr 22 (Operand.tmp 81) (Operand.tmp 84), 0, "corner.go:112", #[{ on := 23, ground := Ground.data }, { on := 26, ground := Ground.data }], none⟩) [(23, some 81), (26, some 84)] (by kernel_rfl) (by kernel_rfl) fun K hK => ?_
                simp only [frD, e23, e26] at hK ⊢
                refine ⟨by rfl, ?_⟩
                go_simp
                exact hK _ _ ⟨Below.refl _ _, rfl, by simp⟩
              | 28, _ =>
                have e27 : vs 27 = .pointer (some (⟨bs, os + ku, none⟩ : Addr)) := hd 27 (List.contains_iff_mem.1 (by kernel_rfl))
                refine step_yes (o := ⟨some 86, Op.load 3 (Operand.tmp 85), 3, "corner.go:112", #[{ on := 27, ground := Ground.data }], none⟩) [(27, some 85)] (by kernel_rfl) (by kernel_rfl) fun K hK => ?_
                simp only [frD, e27] at hK ⊢
                refine ⟨by rfl, ?_⟩
                go_simp
                exact hK _ _ ⟨Below.refl _ _, rfl, by simp⟩
              | 29, _ =>
                refine step_yes (o := ⟨some 87, Op.load 22 (Operand.tmp 9), 22, "corner.go:112", #[], none⟩) [] (by kernel_rfl) (by kernel_rfl) fun K hK => ?_
                simp only [frD] at hK ⊢
                refine ⟨by rfl, ?_⟩
                go_simp
                exact hK _ _ ⟨Below.refl _ _, rfl, by simp⟩
              | 30, _ =>
                refine step_yes (o := ⟨some 88, Op.move (Operand.tmp 15), 3, "corner.go:112", #[], none⟩) [] (by kernel_rfl) (by kernel_rfl) fun K hK => ?_
                simp only [frD] at hK ⊢
                refine ⟨by rfl, ?_⟩
                go_simp
                exact hK _ _ ⟨Below.refl _ _, rfl, by simp⟩
              | 31, _ =>
                have e29 : vs 29 = (.slice (some ⟨bs, os, none⟩) n cs) := hd 29 (List.contains_iff_mem.1 (by kernel_rfl))
                have e30 : vs 30 = .int .i64 (ki : Nat) := hd 30 (List.contains_iff_mem.1 (by kernel_rfl))
                refine step_yes (o := ⟨some 89, Op.indexAddr 22 (Operand.tmp 87) (Operand.tmp 88), 0, "corner.go:112", #[{ on := 29, ground := Ground.data }, { on := 30, ground := Ground.data }], none⟩) [(29, some 87), (30, some 88)] (by kernel_rfl) (by kernel_rfl) fun K hK => ?_
                simp only [frD, e29, e30] at hK ⊢
                refine ⟨by rfl, ?_⟩
                go_simp
                exact hK _ _ ⟨Below.refl _ _, rfl, by simp⟩
              | 32, _ =>
                have e31 : vs 31 = .pointer (some (⟨bs, os + ki, none⟩ : Addr)) := hd 31 (List.contains_iff_mem.1 (by kernel_rfl))
                refine step_yes (o := ⟨some 90, Op.load 3 (Operand.tmp 89), 3, "corner.go:112", #[{ on := 31, ground := Ground.data }], none⟩) [(31, some 89)] (by kernel_rfl) (by kernel_rfl) fun K hK => ?_
                simp only [frD, e31] at hK ⊢
                refine ⟨by rfl, ?_⟩
                go_simp
                exact hK _ _ ⟨Below.refl _ _, rfl, by simp⟩
              | 33, _ =>
                refine step_yes (o := ⟨some 91, Op.load 22 (Operand.tmp 9), 22, "corner.go:112", #[], none⟩) [] (by kernel_rfl) (by kernel_rfl) fun K hK => ?_
                simp only [frD] at hK ⊢
                refine ⟨by rfl, ?_⟩
                go_simp
                exact hK _ _ ⟨Below.refl _ _, rfl, by simp⟩
              | 34, _ =>
                refine step_yes (o := ⟨some 92, Op.move (Operand.tmp 15), 3, "corner.go:112", #[], none⟩) [] (by kernel_rfl) (by kernel_rfl) fun K hK => ?_
                simp only [frD] at hK ⊢
                refine ⟨by rfl, ?_⟩
                go_simp
                exact hK _ _ ⟨Below.refl _ _, rfl, by simp⟩
              | 35, _ =>
                refine step_yes (o := ⟨some 93, Op.load 3 (Operand.tmp 10), 3, "corner.go:112", #[], none⟩) [] (by kernel_rfl) (by kernel_rfl) fun K hK => ?_
                simp only [frD] at hK ⊢
                refine ⟨by rfl, ?_⟩
                go_simp
                exact hK _ _ ⟨Below.refl _ _, rfl, by simp⟩
              | 36, _ =>
                have e34 : vs 34 = .int .i64 (ki : Nat) := hd 34 (List.contains_iff_mem.1 (by kernel_rfl))
                have e35 : vs 35 = .int .i64 (W : Nat) := hd 35 (List.contains_iff_mem.1 (by kernel_rfl))
                refine step_yes (o := ⟨some 94, Op.binOp BinOp.add 3 (Operand.tmp 92) (Operand.tmp 93) 3, 3, "corner.go:112", #[{ on := 34, ground := Ground.data }, { on := 35, ground := Ground.data }], none⟩) [(34, some 92), (35, some 93)] (by kernel_rfl) (by kernel_rfl) fun K hK => ?_
                simp only [frD, e34, e35] at hK ⊢
                refine ⟨by rfl, ?_⟩
                go_simp
                exact hK _ _ ⟨Below.refl _ _, rfl, by simp⟩
              | 37, _ =>
                have e33 : vs 33 = (.slice (some ⟨bs, os, none⟩) n cs) := hd 33 (List.contains_iff_mem.1 (by kernel_rfl))
                have e36 : vs 36 = .int .i64 (kd : Nat) := hd 36 (List.contains_iff_mem.1 (by kernel_rfl))
                refine step_yes (o := ⟨some 95, Op.indexAddr 22 (Operand.tmp 91) (Operand.tmp 94), 0, "corner.go:112", #[{ on := 33, ground := Ground.data }, { on := 36, ground := Ground.data }], none⟩) [(33, some 91), (36, some 94)] (by kernel_rfl) (by kernel_rfl) fun K hK => ?_
                simp only [frD, e33, e36] at hK ⊢
                refine ⟨by rfl, ?_⟩
                go_simp
                exact hK _ _ ⟨Below.refl _ _, rfl, by simp⟩
              | 38, _ =>
                have e37 : vs 37 = .pointer (some (⟨bs, os + kd, none⟩ : Addr)) := hd 37 (List.contains_iff_mem.1 (by kernel_rfl))
                refine step_yes (o := ⟨some 96, Op.load 3 (Operand.tmp 95), 3, "corner.go:112", #[{ on := 37, ground := Ground.data }], none⟩) [(37, some 95)] (by kernel_rfl) (by kernel_rfl) fun K hK => ?_
                simp only [frD, e37] at hK ⊢
                refine ⟨by rfl, ?_⟩
                go_simp
                exact hK _ _ ⟨Below.refl _ _, rfl, by simp⟩
              | 39, _ =>
                have e18 : vs 18 = .int .i64 o1 := hd 18 (List.contains_iff_mem.1 (by kernel_rfl))
                have e28 : vs 28 = .int .i64 vu := hd 28 (List.contains_iff_mem.1 (by kernel_rfl))
                have e32 : vs 32 = .int .i64 v0 := hd 32 (List.contains_iff_mem.1 (by kernel_rfl))
                have e38 : vs 38 = .int .i64 vd := hd 38 (List.contains_iff_mem.1 (by kernel_rfl))
                refine step_yes (o := ⟨some 97, Op.call { callee := Callee.value (Operand.func 17), args := #[Operand.tmp 86, Operand.tmp 90, Operand.tmp 96], argTypes := #[3, 3, 3] }, 3, "corner.go:112", #[{ on := 28, ground := Ground.data }, { on := 32, ground := Ground.data }, { on := 38, ground := Ground.data }, { on := 18, ground := Ground.chain }], none⟩) [(18, some 76), (28, some 86), (32, some 90), (38, some 96)] (by kernel_rfl) (by kernel_rfl) fun K hK => ?_
                simp only [frD, e18, e28, e32, e38] at hK ⊢
                refine ⟨by rfl, ?_⟩
                go_simp
                refine (HO2K.out _).mono ?_
                rintro e wph4 ⟨rfl, hk4⟩
                exact hK _ _ ⟨hk4, rfl, by simp⟩
              | 40, _ =>
                have e22 : vs 22 = .int .i64 (64 * (y : Int) + 32) := hd 22 (List.contains_iff_mem.1 (by kernel_rfl))
                have e39 : vs 39 = .int .i64 o2 := hd 39 (List.contains_iff_mem.1 (by kernel_rfl))
                refine step_yes (o := ⟨some 98, Op.binOp BinOp.add 3 (Operand.tmp 80) (Operand.tmp 97) 3, 3, "corner.go:112", #[{ on := 22, ground := Ground.data }, { on := 39, ground := Ground.data }], none⟩) [(22, some 80), (39, some 97)] (by kernel_rfl) (by kernel_rfl) fun K hK => ?_
                simp only [frD, e22, e39] at hK ⊢
                refine ⟨by rfl, ?_⟩
                go_simp
                exact hK _ _ ⟨Below.refl _ _, rfl, by simp⟩
              | 41, _ =>
                refine step_yes (o := ⟨some 99, Op.load 22 (Operand.tmp 9), 22, "corner.go:112", #[], none⟩) [] (by kernel_rfl) (by kernel_rfl) fun K hK => ?_
                simp only [frD] at hK ⊢
                refine ⟨by rfl, ?_⟩
                go_simp
                exact hK _ _ ⟨Below.refl _ _, rfl, by simp⟩
              | 42, _ =>
                refine step_yes (o := ⟨some 100, Op.move (Operand.tmp 15), 3, "corner.go:112", #[], none⟩) [] (by kernel_rfl) (by kernel_rfl) fun K hK => ?_
                simp only [frD] at hK ⊢
                refine ⟨by rfl, ?_⟩
                go_simp
                exact hK _ _ ⟨Below.refl _ _, rfl, by simp⟩
              | 43, _ =>
                have e41 : vs 41 = (.slice (some ⟨bs, os, none⟩) n cs) := hd 41 (List.contains_iff_mem.1 (by kernel_rfl))
                have e42 : vs 42 = .int .i64 (ki : Nat) := hd 42 (List.contains_iff_mem.1 (by kernel_rfl))
                refine step_yes (o := ⟨some 101, Op.indexAddr 22 (Operand.tmp 99) (Operand.tmp 100), 0, "corner.go:112", #[{ on := 41, ground := Ground.data }, { on := 42, ground := Ground.data }], none⟩) [(41, some 99), (42, some 100)] (by kernel_rfl) (by kernel_rfl) fun K hK => ?_
                simp only [frD, e41, e42] at hK ⊢
                refine ⟨by rfl, ?_⟩
                go_simp
                exact hK _ _ ⟨Below.refl _ _, rfl, by simp⟩
              | 44, _ =>
                have e43 : vs 43 = .pointer (some (⟨bs, os + ki, none⟩ : Addr)) := hd 43 (List.contains_iff_mem.1 (by kernel_rfl))
                refine step_yes (o := ⟨some 102, Op.load 3 (Operand.tmp 101), 3, "corner.go:112", #[{ on := 43, ground := Ground.data }], none⟩) [(43, some 101)] (by kernel_rfl) (by kernel_rfl) fun K hK => ?_
                simp only [frD, e43] at hK ⊢
                refine ⟨by rfl, ?_⟩
                go_simp
                exact hK _ _ ⟨Below.refl _ _, rfl, by simp⟩
              | 45, _ =>
                have e19 : vs 19 = .int .i64 (64 * (x : Int) + 32 + o1) := hd 19 (List.contains_iff_mem.1 (by kernel_rfl))
                have e40 : vs 40 = .int .i64 (64 * (y : Int) + 32 + o2) := hd 40 (List.contains_iff_mem.1 (by kernel_rfl))
                have e44 : vs 44 = .int .i64 v0 := hd 44 (List.contains_iff_mem.1 (by kernel_rfl))
                refine step_yes (o := ⟨some 103, Op.build 39 #[(0, Operand.tmp 77), (1, Operand.tmp 98), (2, Operand.tmp 102)], 39, "corner.go:112", #[{ on := 19, ground := Ground.data }, { on := 40, ground := Ground.data }, { on := 44, ground := Ground.data }], none⟩) [(19, some 77), (40, some 98), (44, some 102)] (by kernel_rfl) (by kernel_rfl) fun K hK => ?_
                simp only [frD, e19, e40, e44] at hK ⊢
                refine ⟨by rfl, ?_⟩
                go_simp
                exact hK _ _ ⟨Below.refl _ _, rfl, by simp⟩
              | 46, _ =>
                have e45 : vs 45 = .agg #[.int .i64 (64 * (x : Int) + 32 + o1), .int .i64 (64 * (y : Int) + 32 + o2), .int .i64 v0] := hd 45 (List.contains_iff_mem.1 (by kernel_rfl))
                refine step_yes (o := ⟨some 104, Op.buildSlice 31 1 #[(0, Operand.tmp 103)], 31, "corner.go:112", #[{ on := 45, ground := Ground.data }], none⟩) [(45, some 103)] (by kernel_rfl) (by kernel_rfl) fun K hK => ?_
                simp only [frD, e45] at hK ⊢
                refine ⟨by rfl, ?_⟩
                go_simp
                exact hK _ _ ⟨(Below.refl _ _).alloc (Nat.le_refl _) _, ⟨_, rfl, Own.new wph3 _ _⟩, by simp⟩
              | i + 47, hi => exact absurd hi (by omega)
            · intro vs wph3 hk3 hΦ _
              simp only [List.drop_succ_cons, List.drop_zero]
              rw [fr_frD, show (List.range 47).map _ = [(0, some 58), (1, some 59), (2, some 60), (3, some 61), (4, some 62), (5, some 63), (6, some 64), (7, some 65), (8, some 66), (9, some 67), (10, some 68), (11, some 69), (12, some 70), (13, some 71), (14, some 72), (15, some 73), (16, some 74), (17, some 75), (18, some 76), (19, some 77), (20, some 78), (21, some 79), (22, some 80), (23, some 81), (24, some 82), (25, some 83), (26, some 84), (27, some 85), (28, some 86), (29, some 87), (30, some 88), (31, some 89), (32, some 90), (33, some 91), (34, some 92), (35, some 93), (36, some 94), (37, some 95), (38, some 96), (39, some 97), (40, some 98), (41, some 99), (42, some 100), (43, some 101), (44, some 102), (45, some 103), (46, some 104)] by kernel_rfl]
              have ph0 := hΦ 0 (by omega)
              have ph1 := hΦ 1 (by omega)
              have ph2 := hΦ 2 (by omega)
              have ph3 := hΦ 3 (by omega)
              have ph4 := hΦ 4 (by omega)
              have ph5 := hΦ 5 (by omega)
              have ph6 := hΦ 6 (by omega)
              have ph7 := hΦ 7 (by omega)
              have ph8 := hΦ 8 (by omega)
              have ph9 := hΦ 9 (by omega)
              have ph10 := hΦ 10 (by omega)
              have ph11 := hΦ 11 (by omega)
              have ph12 := hΦ 12 (by omega)
              have ph13 := hΦ 13 (by omega)
              have ph14 := hΦ 14 (by omega)
              have ph15 := hΦ 15 (by omega)
              have ph16 := hΦ 16 (by omega)
              have ph17 := hΦ 17 (by omega)
              have ph18 := hΦ 18 (by omega)
              have ph19 := hΦ 19 (by omega)
              have ph20 := hΦ 20 (by omega)
              have ph21 := hΦ 21 (by omega)
              have ph22 := hΦ 22 (by omega)
              have ph23 := hΦ 23 (by omega)
              have ph24 := hΦ 24 (by omega)
              have ph25 := hΦ 25 (by omega)
              have ph26 := hΦ 26 (by omega)
              have ph27 := hΦ 27 (by omega)
              have ph28 := hΦ 28 (by omega)
              have ph29 := hΦ 29 (by omega)
              have ph30 := hΦ 30 (by omega)
              have ph31 := hΦ 31 (by omega)
              have ph32 := hΦ 32 (by omega)
              have ph33 := hΦ 33 (by omega)
              have ph34 := hΦ 34 (by omega)
              have ph35 := hΦ 35 (by omega)
              have ph36 := hΦ 36 (by omega)
              have ph37 := hΦ 37 (by omega)
              have ph38 := hΦ 38 (by omega)
              have ph39 := hΦ 39 (by omega)
              have ph40 := hΦ 40 (by omega)
              have ph41 := hΦ 41 (by omega)
              have ph42 := hΦ 42 (by omega)
              have ph43 := hΦ 43 (by omega)
              have ph44 := hΦ 44 (by omega)
              have ph45 := hΦ 45 (by omega)
              have ph46 := hΦ 46 (by omega)
              simp only [fi18Φ] at ph0 ph1 ph2 ph3 ph4 ph5 ph6 ph7 ph8 ph9 ph10 ph11 ph12 ph13 ph14 ph15 ph16 ph17 ph18 ph19 ph20 ph21 ph22 ph23 ph24 ph25 ph26 ph27 ph28 ph29 ph30 ph31 ph32 ph33 ph34 ph35 ph36 ph37 ph38 ph39 ph40 ph41 ph42 ph43 ph44 ph45 ph46
              clear hΦ
              simp only [frD, ph0, ph1, ph2, ph3, ph4, ph5, ph6, ph7, ph8, ph9, ph10, ph11, ph12, ph13, ph14, ph15, ph16, ph17, ph18, ph19, ph20, ph21, ph22, ph23, ph24, ph25, ph26, ph27, ph28, ph29, ph30, ph31, ph32, ph33, ph34, ph35, ph36, ph37, ph38, ph39, ph40, ph41, ph42, ph43, ph44, ph45]
              simp only [Act.put, List.setIfInBounds_toArray, List.set_cons_zero, List.set_cons_succ]
              clear ph0
              clear ph1
              clear ph2
              clear ph3
              clear ph4
              clear ph5
              clear ph6
              clear ph7
              clear ph8
              clear ph9
              clear ph10
              clear ph11
              clear ph12
              clear ph13
              clear ph14
              clear ph15
              clear ph16
              clear ph17
              clear ph18
              clear ph19
              clear ph20
              clear ph21
              clear ph22
              clear ph23
              clear ph24
              clear ph25
              clear ph26
              clear ph27
              clear ph28
              clear ph29
              clear ph30
              clear ph31
              clear ph32
              clear ph33
              clear ph34
              clear ph35
              clear ph36
              clear ph37
              clear ph38
              clear ph39
              clear ph40
              clear ph41
              clear ph42
              clear ph43
              clear ph44
              clear ph45
              generalize vs 46 = U46 at ph46 ⊢
              obtain ⟨bA, rfl, hOA⟩ := ph46
              have hkd6 : Keeps w6 wph3 := Keeps.trans' (w1 := w6.drew) (Below.drew (Below.refl _ w6)) hk3
              have hb3 : w4.heap.size + 1 + 1 ≤ wph3.heap.size := by have := HSZ10.out; have := hkd6.size; omega
              refine wpList_append_lies _ (by rfl) _ _ _ (by rfl) (w4.heap.size + 1 + 1) 39 i0 _ 3 24 Try.underlying31 hi hz0 hz1 hz2 rfl (by decide) Vo nc _ (by rfl) (HROW6.out.keeps hkd6) ⟨bA, 0, none⟩ 1 1 [.int .i64 (64 * (x : Int) + 32 + o1), .int .i64 (64 * (y : Int) + 32 + o2), .int .i64 v0] (by rfl) rfl (own_cellsT hOA) HB6.out (by decide) hb1 hb2 hb3 _ rfl ?_
              intro gg cap w8 hown8 hgrow hat hlt8
              clear hat hlt8
              have HR8 : Hid (w8.ownsRow (w4.heap.size + 1 + 1) 39 3 (.slice (some ⟨gg, 0, none⟩) (nc + 1) cap) (candN W H s thr (y * W + (x + 1))).length (cellsC (candN W H s thr (y * W + (x + 1))))) := Lib.hid (by
                have h1 := HCS.out
                rw [HK0.out, HKI.out, HPKV.out, if_pos rfl] at h1
                rw [show y * W + (x + 1) = ki + 1 by have := HK0.out; have := HKI.out; omega, h1, cellsC_snoc, List.length_append, List.length_singleton, HCO.out, ← HKI.out, ← HK0.out, HNC.out]
                exact hown8)
              have HF : Hid (FInv w w4 W H m A c px s (some ⟨bs, os, none⟩) cs thr (y * W + (x + 1)) (.slice (some ⟨gg, 0, none⟩) (nc + 1) cap) w8) := Lib.hid (by
                refine FInv.app HFI.out HK14.out (hk6.trans' hkd6) ?_ HR8.out hlt4
                rw [HNC.out, HVO.out]
                exact hgrow)
              clear hgrow hown8
              go_wp2
              go_roundw
              case rel => exact ⟨x + 1, by omega, by omega, by go_num, HF.out⟩
              case measure => simp [intOf]; omega
        · have t2 : decide ((x : Int) < (W : Int) - 2) = false := decide_eq_false (by omega)
          have HF := Lib.hid (HFI.out.to (candN_row s thr (by omega) hx2 (by omega) hx66))
          clear p q b9 b10 row HFI
          go_wp2
          go_roundw
          case rel => exact ⟨y + 1, by omega, by omega, by go_num, HF.out⟩
          case measure => simp [intOf]; omega
    · have t1 : decide ((y : Int) < (H : Int) - 2) = false := decide_eq_false (by omega)
      have hyI : (y : Int) ≤ 64 := by omega
      have HFA := Lib.hid (hinv.to ((candN_end s thr (by omega) (by omega : H ≤ y + 2)).trans (candN_all s thr (by omega) (Nat.le_max_right _ _))))
      obtain ⟨l, hl⟩ : ∃ l, candN W H s thr (W * H) = l := ⟨_, rfl⟩
      have HL := Lib.hid hl
      have hfew : l.length ≤ 20 := hl ▸ candN_few (n := W * H) s thr HN150.out
      obtain ⟨-, -, -, -, hrow, hkw, -⟩ := HFA.out
      rw [hl] at hrow
      have hmin := fun u ts t => run_min2 Try.prog u ts t 100 (l.length : Int)
      have hmm : min (100 : Int) (l.length : Int) = (l.length : Int) := by omega
      rw [hmm] at hmin
      have hfp : findP W H px thr = srt l.length l := by
        unfold findP
        rw [HS.out, hl]
      have HFP := Lib.hid hfp
      have hll : (srt l.length l).length = l.length := srt_length _ _
      have HLL := Lib.hid hll
      obtain ⟨hlen, ⟨rfl, hn0⟩ | ⟨g, cap, cur, rfl, hb, hg, hcap, hmax, hcs, htk⟩⟩ := hrow
      · have hm0 := fun u ts t => run_min2 Try.prog u ts t 100 0
        rw [show min (100 : Int) 0 = 0 by decide] at hm0
        have HN0 := Lib.hid hn0
        clear hinv hfp hll hl hmm hmin
        go_wp2_with fail
        refine (sort_zero _).mono ?_
        rintro e w9 ⟨rfl, rfl⟩
        go_wp2
        go_ret2
        refine ⟨none, 0, ?_, ?_, hkw⟩
        · rw [HFP.out, HLL.out, HN0.out]
          rfl
        · intro h0
          rw [HFP.out, HLL.out, HN0.out] at h0
          exact absurd h0 (Nat.lt_irrefl _)
      · have hrc : RowC wr g l (cur.toList.drop (l.length * 3)) := by
          unfold RowC
          rw [← htk, List.take_append_drop]
          exact hg
        have HSO := Lib.hid (sort_any (c := cap) hrc rfl hfew)
        obtain ⟨n, hn⟩ : ∃ n, l.length = n := ⟨_, rfl⟩
        rw [hn] at hmin hfew hcap HLL HFP
        have HN := Lib.hid hn
        clear hinv hfp hll hl hmm hrc htk hcs hlen hg
        have hncI : (n : Int) ≤ (cap : Int) := by omega
        rw [hn] at HSO ⊢
        go_wp2_with fail
        refine HSO.out.mono ?_
        rintro e w9 ⟨rfl, hr9, ht9⟩
        have hk9 : Keeps w w9 := ((Turn.of_keeps (T := []) hkw).trans (T' := [g]) ht9 (fun b hb hlt => by
          simp only [List.mem_singleton] at hb
          have := HK14.out.size
          omega)).keeps (fun b hb => by cases hb)
        have HR9 := Lib.hid hr9
        clear hr9 ht9
        go_wp2
        go_ret2
        have hcr : CRow w9 (some ⟨g, 0, none⟩) (findP W H px thr) := by
          rw [HFP.out, ← HN.out]
          intro _
          exact ⟨g, _, rfl, HR9.out⟩
        refine ⟨some ⟨g, 0, none⟩, n, ?_, hcr, hk9⟩
        rw [HFP.out, HLL.out]
        rfl
end Go.Proofs.Ytecibfncnaccjaa
