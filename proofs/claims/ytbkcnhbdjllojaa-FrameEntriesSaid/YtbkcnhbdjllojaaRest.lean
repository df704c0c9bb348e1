/- Restore and the document's restored: the walks. -/
import Derived.Test.YtbkcnhbdjllojaaChk
import Derived.Deep.RegionHeld3
import Derived.Deep.RegionLaw
import Derived.IntWalk
namespace Go.Proofs.Ytbkcnhbdjllojaa
open Go.RowKit Go.Shelf

theorem step_append_news {P : Program} {w : World} {ops : Array Oper} {o : Oper} {a : Act} {K : Act → World → Prop} {Q : Exit → Act → World → Prop} {E : Prop} (hgd : o.guard = none) (s x : Operand) (t : TypeId)
    (ho : o.op = .call { callee := .builtin .append, args := #[s, x], argTypes := #[t, t] })
    (base : Nat) (e : TypeId) (i : TypeInfo) (z : Value) (size bytes : Nat) (ht : P.underlying t = some (.slice e)) (hi : P.info? e = some i) (hz : i.zero = some z)
    (hsize : i.size = size) (hby : i.bytes = bytes) (hzs : z.cells.size = size) (hsz : 0 < size)
    (v : Value) (n : Nat) (xs : List Value) (hs : a.eval s = v) (hown : w.ownsRow base e size v n xs)
    (ad : Addr) (m c : Nat) (news : List Value) (hx : a.eval x = .slice (some ad) m c) (hl : news.length = m * size) (hnews : ∀ j u, news[j]? = some u → w.cell? (ad.add j) = some u) (h1 : ∀ u ∈ news, u.oneCell' = true)
    (h63 : n + m ≤ maxLen) (hbytes : (n + m) * bytes ≤ 140737488355328) (hbase : base ≤ w.heap.size)
    (h : ∀ v' w', w'.ownsRow base e size v' (n + m) (xs ++ news) → w.grownBy w' v.ownBlock → K (a.put o.dst v') w') :
    if Region.wanted o (yielded ops a.tmps) = true then Oper.wp P o a w K Q else E := by
  have hw : Region.wanted o (yielded ops a.tmps) = true := by simp [Region.wanted, hgd]
  rw [if_pos hw]
  exact wp_append_own w s x t ho base e i z size bytes ht hi hz hsize hby hzs hsz v n xs hs hown ad m c news hx hl hnews h1 h63 hbytes hbase fun v' w' h2 h3 _ => h v' w' h2 h3
/-- the pixel that comes behind px -/
def restAt (W : Nat) (m : Int) (px : List Int) (v : Int) : Int := (predI px W px.length + unfI v) % (m + 1)
def restU (W : Nat) (m : Int) (l : List Int) : Nat → List Int
  | 0 => []
  | k + 1 => restU W m l k ++ [restAt W m (restU W m l k) (l.getD k 0)]
def restI (W : Nat) (m : Int) (l : List Int) : List Int := restU W m l l.length
theorem restU_length (W : Nat) (m : Int) (l : List Int) : ∀ k, (restU W m l k).length = k
  | 0 => rfl
  | k + 1 => by rw [restU, List.length_append, restU_length W m l k]; rfl
theorem restAt_le {W : Nat} {m : Int} (px : List Int) (v : Int) (hm : 0 ≤ m) : 0 ≤ restAt W m px v ∧ restAt W m px v ≤ m := by
  unfold restAt
  have h1 := Int.emod_nonneg (predI px W px.length + unfI v) (show m + 1 ≠ 0 by omega)
  have h2 := Int.emod_lt_of_pos (predI px W px.length + unfI v) (show 0 < m + 1 by omega)
  omega
theorem restU_grey {W : Nat} {m : Int} (l : List Int) (hm : 0 ≤ m) : ∀ k, Grey m (restU W m l k)
  | 0 => fun x hx => by simp [restU] at hx
  | k + 1 => fun x hx => by
    rw [restU, List.mem_append] at hx
    rcases hx with hx | hx
    · exact restU_grey l hm k x hx
    · simp only [List.mem_singleton] at hx
      rw [hx]
      exact restAt_le _ _ hm
def restC (W H m : Int) (l : List Int) : Int :=
  if W < 1 ∨ 64 < W ∨ H < 1 ∨ 64 < H ∨ m < 1 ∨ 65535 < m then 2 else if (l.length : Int) ≠ W * H then 4 else if l.any (offM m) then 2 else 0
theorem Own.four {w : World} {b : Nat} {t : TypeId} {x y z u : Value} (h : Own w b t [x, y, z, u]) (x' y' z' u' : Value) :
    Own ((((w.setCell ⟨b, 0, none⟩ x').setCell ⟨b, 1, none⟩ y').setCell ⟨b, 2, none⟩ z').setCell ⟨b, 3, none⟩ u') b t [x', y', z', u'] := (((h.set 0 x').set 1 y').set 2 z').set 3 u'
theorem _root_.Go.World.ownsRow.far {w : World} {base : Nat} {e : TypeId} {size : Nat} {v : Value} {n : Nat} {xs : List Value} (h : w.ownsRow base e size v n xs) {p : Addr} (hp : p.block < base) (u : Value) : (w.setCell p u).ownsRow base e size v n xs := by
  obtain ⟨hl, h | ⟨g, cap, cur, rfl, hb', hg, hr⟩⟩ := h
  · exact ⟨hl, .inl h⟩
  · exact ⟨hl, .inr ⟨g, cap, cur, rfl, hb', (Below.heap_setCell w p u g (by omega)).trans hg, hr⟩⟩
theorem _root_.Go.World.ownsRow.four {w : World} {base : Nat} {e : TypeId} {size : Nat} {v : Value} {n : Nat} {xs : List Value} (h : w.ownsRow base e size v n xs) {b : Nat} (hp : b < base) (x' y' z' u' : Value) :
    ((((w.setCell ⟨b, 0, none⟩ x').setCell ⟨b, 1, none⟩ y').setCell ⟨b, 2, none⟩ z').setCell ⟨b, 3, none⟩ u').ownsRow base e size v n xs := (((h.far (p := ⟨b, 0, none⟩) hp x').far (p := ⟨b, 1, none⟩) hp y').far (p := ⟨b, 2, none⟩) hp z').far (p := ⟨b, 3, none⟩) hp u'
theorem Keeps.four {w w' : World} (h : Keeps w w') {b : Nat} (hb : w.heap.size ≤ b) (x' y' z' u' : Value) :
    Keeps w ((((w'.setCell ⟨b, 0, none⟩ x').setCell ⟨b, 1, none⟩ y').setCell ⟨b, 2, none⟩ z').setCell ⟨b, 3, none⟩ u') := (((h.set (p := ⟨b, 0, none⟩) hb _).set (p := ⟨b, 1, none⟩) hb _).set (p := ⟨b, 2, none⟩) hb _).set (p := ⟨b, 3, none⟩) hb _

abbrev rasV (W H m : Int) (V : Value) : Value := .agg #[.int .i64 W, .int .i64 H, .int .i64 m, V]
abbrev rasZ : Value := rasV 0 0 0 (.slice none 0 0)
set_option maxRecDepth 100000 in
set_option maxHeartbeats 1000000 in
theorem restore_no {w : World} {A : Option Addr} {c : Nat} {l : List Int} (hr : IRow w A l) (W H m : Int) (hl : l.length ≤ maxLen) (hc : restC W H m l ≠ 0) :
    Calls Try.prog 24 #[.int .i64 W, .int .i64 H, .int .i64 m, .slice A l.length c] w fun e w' => e = .returned (.tuple #[rasZ, .int .i64 (restC W H m l)]) ∧ Keeps w w' := by
  have hlI : (l.length : Int) ≤ 9223372036854775807 := by simp only [maxLen] at hl; omega
  by_cases t0 : W < 1
  · have HF := Lib.hid (show restC W H m l = 2 from if_pos (by omega))
    have d0 : decide (W < 1) = true := by simp; omega
    clear hr
    go_enter Try.func24, Try.ntmps24
    go_wp2
    refine bodyPost_ret (v := .tuple #[rasZ, .int .i64 2]) (by simp [results, Try.results24, go_sem]) rfl ?_
    exact ⟨by rw [HF.out], (Below.refl _ _).alloc (Nat.le_refl _) _⟩
  have d0 : decide (W < 1) = false := by simp; omega
  by_cases t1 : 64 < W
  · have HF := Lib.hid (show restC W H m l = 2 from if_pos (by omega))
    have d1 : decide (64 < W) = true := by simp; omega
    clear hr
    go_enter Try.func24, Try.ntmps24
    go_wp2
    refine bodyPost_ret (v := .tuple #[rasZ, .int .i64 2]) (by simp [results, Try.results24, go_sem]) rfl ?_
    exact ⟨by rw [HF.out], (Below.refl _ _).alloc (Nat.le_refl _) _⟩
  have d1 : decide (64 < W) = false := by simp; omega
  by_cases t2 : H < 1
  · have HF := Lib.hid (show restC W H m l = 2 from if_pos (by omega))
    have d2 : decide (H < 1) = true := by simp; omega
    clear hr
    go_enter Try.func24, Try.ntmps24
    go_wp2
    refine bodyPost_ret (v := .tuple #[rasZ, .int .i64 2]) (by simp [results, Try.results24, go_sem]) rfl ?_
    exact ⟨by rw [HF.out], (Below.refl _ _).alloc (Nat.le_refl _) _⟩
  have d2 : decide (H < 1) = false := by simp; omega
  by_cases t3 : 64 < H
  · have HF := Lib.hid (show restC W H m l = 2 from if_pos (by omega))
    have d3 : decide (64 < H) = true := by simp; omega
    clear hr
    go_enter Try.func24, Try.ntmps24
    go_wp2
    refine bodyPost_ret (v := .tuple #[rasZ, .int .i64 2]) (by simp [results, Try.results24, go_sem]) rfl ?_
    exact ⟨by rw [HF.out], (Below.refl _ _).alloc (Nat.le_refl _) _⟩
  have d3 : decide (64 < H) = false := by simp; omega
  by_cases t4 : m < 1
  · have HF := Lib.hid (show restC W H m l = 2 from if_pos (by omega))
    have d4 : decide (m < 1) = true := by simp; omega
    clear hr
    go_enter Try.func24, Try.ntmps24
    go_wp2
    refine bodyPost_ret (v := .tuple #[rasZ, .int .i64 2]) (by simp [results, Try.results24, go_sem]) rfl ?_
    exact ⟨by rw [HF.out], (Below.refl _ _).alloc (Nat.le_refl _) _⟩
  have d4 : decide (m < 1) = false := by simp; omega
  by_cases t5 : 65535 < m
  · have HF := Lib.hid (show restC W H m l = 2 from if_pos (by omega))
    have d5 : decide (65535 < m) = true := by simp; omega
    clear hr
    go_enter Try.func24, Try.ntmps24
    go_wp2
    refine bodyPost_ret (v := .tuple #[rasZ, .int .i64 2]) (by simp [results, Try.results24, go_sem]) rfl ?_
    exact ⟨by rw [HF.out], (Below.refl _ _).alloc (Nat.le_refl _) _⟩
  have d5 : decide (65535 < m) = false := by simp; omega
  have hq0 : 0 ≤ W * H := Int.mul_nonneg (by omega) (by omega)
  have hq1 : W * H ≤ 64 * 64 := Int.mul_le_mul (by omega) (by omega) (by omega) (by omega)
  obtain ⟨q, hq⟩ : ∃ q, W * H = q := ⟨_, rfl⟩
  have hC : restC W H m l = if (l.length : Int) ≠ q then 4 else if l.any (offM m) then 2 else 0 := by rw [restC, if_neg (by omega), hq]
  rw [hq] at hq0 hq1
  by_cases t7 : (l.length : Int) = q
  · have d7 : ((l.length : Int) != q) = false := by simp [t7]
    rw [if_neg (by simp [t7])] at hC
    have ha : l.any (offM m) = true := by
      cases h : l.any (offM m) with
      | true => rfl
      | false => rw [h] at hC; exact absurd hC hc
    rw [ha] at hC
    have HF := Lib.hid (show restC W H m l = 2 by rw [hC]; rfl)
    have HA := Lib.hid ha
    have HR := Lib.hid hr
    obtain ⟨W0, hW0⟩ : ∃ W0, w.alloc (.cells #[.int .i64 0, .int .i64 0, .int .i64 0, .slice none 0 0] 25) = W0 := ⟨_, rfl⟩
    have hb : Own W0 w.heap.size 25 [.int .i64 0, .int .i64 0, .int .i64 0, .slice none 0 0] := hW0 ▸ Own.new w _ _
    have hk0 : Keeps w W0 := hW0 ▸ (Below.refl _ _).alloc (Nat.le_refl _) _
    clear hC hr ha hc t7
    go_enter Try.func24, Try.ntmps24
    go_wp2
    clear hW0 hq d0 d1 d2 d3 d4 d5 d7
    go_loop [48] (fun i => ∃ k : Nat, k ≤ l.length ∧ i = .int .i64 (k : Nat) ∧ Hid ((l.take k).any (offM m) = false)) (fun i => l.length - (intOf i).toNat)
    case atStart => exact ⟨0, Nat.zero_le _, rfl, Lib.hid (by simp)⟩
    case round =>
      obtain ⟨k, hkd, rfl, HN⟩ := hrel
      by_cases hlt : k < l.length
      · obtain ⟨b, o, rfl, c1⟩ := IRow.at (HR.out.below hk0) (j := k) (by omega)
        have HZ : Hid (offM m (l.getD k 0) = false → (l.take (k + 1)).any (offM m) = false) := Lib.hid (any_snoc_no hlt HN.out)
        have hkI : (k : Int) < l.length := by omega
        have f0 := hb.frozen 0
        have f1 := hb.frozen 1
        have f2 := hb.frozen 2
        have f3 := hb.frozen 3
        have r0 := hb.cell 0
        have r1 := hb.cell 1
        have r2 := hb.cell 2
        have r3 := hb.cell 3
        simp only [List.getElem?_cons_zero, List.getElem?_cons_succ] at r0 r1 r2 r3
        generalize l.getD k 0 = x at *
        by_cases s1 : x < 0
        · have e1 : decide (x < 0) = true := decide_eq_true s1
          go_wp2
          refine bodyPost_ret (v := .tuple #[rasZ, .int .i64 2]) (by simp [results, Try.results24, go_sem, r0, r1, r2, r3]) rfl ?_
          exact ⟨by rw [HF.out], Keeps.four hk0 (Nat.le_refl _) _ _ _ _⟩
        have e1 : decide (x < 0) = false := decide_eq_false s1
        by_cases s2 : m < x
        · have e2 : decide (m < x) = true := decide_eq_true s2
          go_wp2
          refine bodyPost_ret (v := .tuple #[rasZ, .int .i64 2]) (by simp [results, Try.results24, go_sem, r0, r1, r2, r3]) rfl ?_
          exact ⟨by rw [HF.out], Keeps.four hk0 (Nat.le_refl _) _ _ _ _⟩
        have e2 : decide (m < x) = false := decide_eq_false s2
        have HT2 := Lib.hid (HZ.out (by unfold offM; simp; omega))
        go_wp2
        go_round
        case rel => exact ⟨k + 1, by omega, by go_num, HT2⟩
        case measure => simp [intOf]; omega
      · obtain rfl : k = l.length := by omega
        have := HN.out
        rw [List.take_of_length_le (Nat.le_refl _), HA.out] at this
        cases this
  · have d7 : ((l.length : Int) != q) = true := by simp [t7]
    rw [if_pos t7] at hC
    have HF := Lib.hid hC
    clear hC hr hc
    go_enter Try.func24, Try.ntmps24
    go_wp2
    refine bodyPost_ret (v := .tuple #[rasZ, .int .i64 4]) (by simp [results, Try.results24, go_sem]) rfl ?_
    exact ⟨by rw [HF.out], (Below.refl _ _).alloc (Nat.le_refl _) _⟩
theorem restC_0 {W H m : Int} {l : List Int} (h : restC W H m l = 0) : (1 ≤ W ∧ W ≤ 64) ∧ (1 ≤ H ∧ H ≤ 64) ∧ (1 ≤ m ∧ m ≤ 65535) ∧ (l.length : Int) = W * H ∧ l.length ≤ 4096 ∧ Grey m l := by
  unfold restC at h
  split at h
  · cases h
  · split at h
    · cases h
    · split at h
      · cases h
      · rename_i h1 h2 h3
        have hq : W * H ≤ 64 * 64 := Int.mul_le_mul (by omega) (by omega) (by omega) (by omega)
        exact ⟨by omega, by omega, by omega, by omega, by omega, off_any.1 (by simpa using h3)⟩
set_option maxRecDepth 100000 in
set_option maxHeartbeats 2000000 in
theorem restore_yes {w : World} {A : Option Addr} {c : Nat} {l : List Int} (hr : IRow w A l) (W : Nat) (H m : Int) (hc : restC W H m l = 0) :
    Calls Try.prog 24 #[.int .i64 (W : Nat), .int .i64 H, .int .i64 m, .slice A l.length c] w fun e w' => ∃ V, e = .returned (.tuple #[rasV W H m V, .int .i64 0]) ∧ IOwn w' w.heap.size V (restI W m l) ∧ Keeps w w' := by
  obtain ⟨hW, hH, hm, hL, hl, hg⟩ := restC_0 hc
  obtain ⟨i0, hi, hz0, hz1, hz2⟩ := info_parts info_i64
  have hlI : (l.length : Int) ≤ 4096 := by omega
  have HG := Lib.hid hg
  have HR := Lib.hid hr
  have HL := Lib.hid (restU_length W m l)
  have HGR := Lib.hid (restU_grey (W := W) l (show 0 ≤ m by omega))
  obtain ⟨W0, hW0⟩ : ∃ W0, w.alloc (.cells #[.int .i64 0, .int .i64 0, .int .i64 0, .slice none 0 0] 25) = W0 := ⟨_, rfl⟩
  have hb : Own W0 w.heap.size 25 [.int .i64 0, .int .i64 0, .int .i64 0, .slice none 0 0] := hW0 ▸ Own.new w _ _
  have hk0 : Keeps w W0 := hW0 ▸ (Below.refl _ _).alloc (Nat.le_refl _) _
  have hs0 : W0.heap.size = w.heap.size + 1 := by rw [← hW0]; simp
  have d0 : decide ((W : Int) < 1) = false := by simp; omega
  have d1 : decide ((64 : Int) < W) = false := by simp; omega
  have d2 : decide (H < 1) = false := by simp; omega
  have d3 : decide (64 < H) = false := by simp; omega
  have d4 : decide (m < 1) = false := by simp; omega
  have d5 : decide (65535 < m) = false := by simp; omega
  have hq0 : 0 ≤ (W : Int) * H := Int.mul_nonneg (by omega) (by omega)
  have hq1 : (W : Int) * H ≤ 64 * 64 := Int.mul_le_mul (by omega) (by omega) (by omega) (by omega)
  obtain ⟨q, hq⟩ : ∃ q, (W : Int) * H = q := ⟨_, rfl⟩
  rw [hq] at hq0 hq1 hL
  have d7 : ((l.length : Int) != q) = false := by simp [hL]
  clear hr hg hc hL
  have HS0 := Lib.hid hs0
  clear hs0
  go_enter Try.func24, Try.ntmps24
  go_wp2
  clear hW0 hq d0 d1 d2 d3 d4 d5 d7 hq0 hq1
  go_loop [48] (fun i => ∃ k : Nat, k ≤ l.length ∧ i = .int .i64 (k : Nat)) (fun i => l.length - (intOf i).toNat)
  case atStart => exact ⟨0, Nat.zero_le _, rfl⟩
  case round =>
    obtain ⟨k, hkd, rfl⟩ := hrel
    by_cases hlt : k < l.length
    · obtain ⟨b, o, rfl, c1⟩ := IRow.at (HR.out.below hk0) (j := k) (by omega)
      have hx := HG.out.get (by omega) k
      have hkI : (k : Int) < l.length := by omega
      generalize l.getD k 0 = x at *
      have e1 : decide (x < 0) = false := decide_eq_false (by omega)
      have e2 : decide (m < x) = false := decide_eq_false (by omega)
      go_wp2
      go_round
      case rel => exact ⟨k + 1, by omega, by go_num⟩
      case measure => simp [intOf]; omega
    · obtain rfl : k = l.length := by omega
      go_wp2
      obtain ⟨W1, hW1⟩ : ∃ W1, W0.alloc (.cells #[.int .i64 (W : Nat), .int .i64 H, .int .i64 m, .slice none 0 0] 25) = W1 := ⟨_, rfl⟩
      have hb12 : Own W1 W0.heap.size 25 [.int .i64 (W : Nat), .int .i64 H, .int .i64 m, .slice none 0 0] := hW1 ▸ Own.new W0 _ _
      have hk1 : Keeps W0 W1 := hW1 ▸ (Below.refl _ _).alloc (Nat.le_refl _) _
      have hb8 := hb.below hk1
      have hs1 : W1.heap.size = W0.heap.size + 1 := by rw [← hW1]; simp
      have HS1 := Lib.hid hs1
      clear hs1
      rw [hW1]
      clear hW1
      go_loopw [69] (fun i wr => ∃ k V, k ≤ l.length ∧ i = .int .i64 (k : Nat) ∧ wr.ownsRow W1.heap.size 3 1 V k (i64s (restU W m l k)) ∧ Own wr W0.heap.size 25 [.int .i64 (W : Nat), .int .i64 H, .int .i64 m, V] ∧ Below W0.heap.size W0 wr ∧ W1.heap.size ≤ wr.heap.size) (fun i _ => l.length - (intOf i).toNat)
      case atStart => exact ⟨0, _, Nat.zero_le _, rfl, World.ownsRow_nil _ _ _ _, hb12, hk1, Nat.le_refl _⟩
      case round =>
        obtain ⟨k, V, hkd, rfl, hown, hbx, hk, hsz⟩ := hrel
        obtain ⟨A2, c2, rfl, hkc, hcm, hA2⟩ := hown.sl
        have hlen := HL.out k
        have hir : IRow wr A2 (restU W m l k) := IRow.of_own hown hlen.symm
        have hgk := HGR.out k
        have hU : restU W m l (k + 1) = restU W m l k ++ [restAt W m (restU W m l k) (l.getD k 0)] := rfl
        by_cases hlt : k < l.length
        · obtain ⟨b, o, rfl, c1⟩ := IRow.at (HR.out.below (hk0.trans' hk)) (j := k) (by omega)
          have hx := HG.out.get (by omega) k
          have hkI : (k : Int) < l.length := by omega
          generalize restU W m l k = px at *
          generalize l.getD k 0 = x at *
          have hv : Grey 65535 px := fun x hx => by have := hgk x hx; omega
          have hp := predI_le hgk (by omega) W k
          have hu := unfI_le hx.1 hx.2
          have HA : Hid (restAt W m px x = (predI px W k + unfI x) % (m + 1)) := Lib.hid (by rw [restAt, hlen])
          have HP := fun u (h : IRow u A2 px) => Lib.hid (predicted_any (n := k) (c := c2) h hlen.symm W k (by omega) (.inr rfl) (by omega) hv)
          have HUF := fun u => Lib.hid (unfolded_any x u hx.1 (by omega))
          have HU := Lib.hid hU
          have HI := Lib.hid hir
          obtain ⟨p, hpe⟩ : ∃ p, predI px W k = p := ⟨_, rfl⟩
          obtain ⟨f, hfe⟩ : ∃ f, unfI x = f := ⟨_, rfl⟩
          rw [hpe] at hp HA HP
          rw [hfe] at hu HA HUF
          obtain ⟨d, hd⟩ : ∃ d, (p + f) % (m + 1) = d := ⟨_, rfl⟩
          have h1 : ((p + f).tmod (m + 1) + (m + 1)).tmod (m + 1) = d := by
            rw [← hd]
            rcases Int.le_total 0 (p + f) with h0 | h0
            · rw [Int.tmod_eq_emod_of_nonneg h0]
              have h1 := Int.emod_nonneg (p + f) (show m + 1 ≠ 0 by omega)
              rw [Int.tmod_eq_emod_of_nonneg (by omega), Int.add_emod_right, Int.emod_emod_of_dvd _ (Int.dvd_refl _)]
            · have h1 : (p + f).tmod (m + 1) = p + f := by
                rw [show p + f = -(-(p + f)) by omega, Int.neg_tmod, Int.tmod_eq_emod_of_nonneg (by omega), Int.emod_eq_of_lt (by omega) (by omega)]
              rw [h1, Int.tmod_eq_emod_of_nonneg (by omega), Int.add_emod_right]
          have h2 : -(m + 1) < (p + f).tmod (m + 1) ∧ (p + f).tmod (m + 1) < m + 1 := by
            constructor
            · exact Int.lt_tmod_of_pos _ (by omega)
            · exact Int.tmod_lt_of_pos _ (by omega)
          obtain ⟨g, hg⟩ : ∃ g, (p + f).tmod (m + 1) = g := ⟨_, rfl⟩
          rw [hg] at h1 h2
          rw [hd] at HA
          clear hd hpe hfe hir hU hv hgk hlen
          have hmz : ¬ (m + 1 = 0) := by omega
          have hw1 : IntKind.i64.wrap (p + f) = p + f := IntWalk.i64_in _ (by omega)
          have hw2 : IntKind.i64.wrap (g + (m + 1)) = g + (m + 1) := IntWalk.i64_in _ (by omega)
          have q3 := hbx.cell 3
          have hownd : wr.drew.ownsRow W1.heap.size 3 1 (.slice A2 k c2) k (i64s px) := hown
          simp only [List.getElem?_cons_zero, List.getElem?_cons_succ] at q3
          go_wp2
          go_region_law (first
              | (go_simp; go_at_call 59; refine (HP wr.drew HI.out).out.mono ?_; rintro e w1 ⟨rfl, hk1⟩; have hb1 := (Own.drew hbx).below hk1; have k3 := hb1.cell 3; have k3b := (hb1.alloc (.cells #[.int .i64 d] 3)).cell 3; simp only [List.getElem?_cons_zero, List.getElem?_cons_succ] at k3 k3b; have hown1 := hownd.keeps hk1; have hz : W1.heap.size ≤ w1.heap.size := Nat.le_trans hsz hk1.size; go_simp)
              | (go_simp; go_at_call 60; refine (HUF _).out.mono ?_; rintro e w2 ⟨rfl, rfl⟩; go_simp)
              | (refine step_append_news (by rfl) _ _ 23 (by rfl) W1.heap.size 3 i0 (.int .i64 0) 1 8 Try.underlying23 hi hz0 hz1 hz2 rfl (by decide) (.slice A2 k c2) k (i64s px) (by rfl) (hown1.alloc (.cells #[.int .i64 d] 3)) ⟨w2.heap.size, 0, none⟩ 1 1 [.int .i64 d] (by rfl) rfl (cell_one_new _ _ _) (by simp [Value.oneCell']) (by simp only [maxLen]; omega) (by omega) (by simp; omega) ?_; intro v' w3 hown3 hgrow; obtain ⟨A3, c3, rfl, -⟩ := hown3.sl; have hb3 := (hb1.alloc (.cells #[.int .i64 d] 3)).grown hgrow (by intro e; have := hown1.lo W0.heap.size (by rw [blkOf, ← e]; simp); have := HS1.out; omega); have k4 := hb3.cell 3; have f4 := hb3.frozen 3; simp only [List.getElem?_cons_zero, List.getElem?_cons_succ] at k4; have hk3 : Keeps W0 w3 := ((Keeps.trans' (Below.drew hk) hk1).trans' ((Below.refl w2.heap.size w2).alloc (Nat.le_refl _) (.cells #[.int .i64 d] 3))).grown hgrow (by have := HS1.out; simp; omega) (fun b e => by have := (hown1.lt b e).1; have := HS1.out; omega)))
          all_goals
            clear hw1 hw2 h1 h2 hmz k3 k3b k4 f4 q3
            have hown4 := hown3.far (p := ⟨W0.heap.size, 3, none⟩) (by have := HS1.out; show W0.heap.size < W1.heap.size; omega) (.slice A3 (k + 1) c3)
            have hb4 := hb3.set 3 (.slice A3 (k + 1) c3)
            have hk4 := hk3.set (p := ⟨W0.heap.size, 3, none⟩) (Nat.le_refl _) (.slice A3 (k + 1) c3)
            have hz4 : W1.heap.size ≤ (w3.setCell ⟨W0.heap.size, 3, none⟩ (.slice A3 (k + 1) c3)).heap.size := by have := hgrow.size; simp [World.setCell] at this ⊢; omega
            go_wp2
            go_roundw
            case rel => exact ⟨k + 1, _, by omega, by go_num, by rw [HU.out, HA.out, i64s_snoc]; exact hown4, hb4, hk4, hz4⟩
            case measure => simp [intOf]; omega
        · obtain rfl : k = l.length := by omega
          have hR : Hid (restI W m l = restU W m l l.length) := Lib.hid rfl
          generalize restU W m l l.length = px at *
          have q0 := hbx.cell 0
          have q1 := hbx.cell 1
          have q2 := hbx.cell 2
          have q3 := hbx.cell 3
          have hb9 := hb.keep hk (by have := HS0.out; omega)
          have f0 := hb9.frozen 0
          have f1 := hb9.frozen 1
          have f2 := hb9.frozen 2
          have f3 := hb9.frozen 3
          have s0 := hb9.cell 0
          have s1 := hb9.cell 1
          have s2 := hb9.cell 2
          have s3 := hb9.cell 3
          simp only [List.getElem?_cons_zero, List.getElem?_cons_succ] at q0 q1 q2 q3 s0 s1 s2 s3
          go_wp2
          have hb10 := hb9.four (.int .i64 (W : Nat)) (.int .i64 H) (.int .i64 m) (.slice A2 l.length c2)
          have r0 := hb10.cell 0
          have r1 := hb10.cell 1
          have r2 := hb10.cell 2
          have r3 := hb10.cell 3
          simp only [List.getElem?_cons_zero, List.getElem?_cons_succ] at r0 r1 r2 r3
          refine bodyPost_ret (v := .tuple #[rasV W H m (.slice A2 l.length c2), .int .i64 0]) (by simp [results, Try.results24, go_sem, r0, r1, r2, r3]) rfl ?_
          refine ⟨_, rfl, ?_, Keeps.four (hk0.trans' hk) (Nat.le_refl _) _ _ _ _⟩
          rw [hR.out]
          unfold IOwn
          rw [hlen]
          exact (hown.four (by have := HS0.out; have := HS1.out; omega) _ _ _ _).down (by have := HS0.out; have := HS1.out; omega)
end Go.Proofs.Ytbkcnhbdjllojaa
