/- The walk of the reference's Root. -/
import Derived.Test.YtmochehkkadjnaaGreatDoorMgFNear
import Derived.Test.YtmochehkkadjnaaGreatDoorRDivide
import Derived.Test.YtmochehkkadjnaaGreatDoorMgNumsT
import Derived.Test.YtmochehkkadjnaaGreatDoorMgNums
namespace Go.Proofs.YtmochehkkadjnaaGreatDoor
open Go.RowKit Go.Shelf

theorem rlog_s {w : World} {V : Value} {x s : Int} (h : IntNum w V x) (e : log2 x.natAbs = s) : Calls Tryz.prog 154 #[V] w fun e w' => e = .returned (.int .i64 s) ∧ Keeps w w' := by subst e; exact rlog_num x V w h
theorem dgs_two : dgs 2 = 1 := by
  unfold dgs
  rw [if_neg (by omega), Lib.nDigits_small (by omega)]
/-- a power of two, of an exponent that is not too great -/
theorem rpower_two {w : World} {V : Value} {L : Int} (h : IntRep w V 2) (h0 : 0 ≤ L) (h1 : L ≤ 6000) : Calls Tryz.prog 153 #[V, .int .i64 (L / 2 + 1)] w fun e w' => ∃ Q, e = .returned (.tuple #[Q, .int .i64 0]) ∧ IntRep w' Q (2 ^ (L / 2 + 1).toNat) ∧ Keeps w w' := by
  have hl : (dig (2 : Int).natAbs).length ≤ 1 := dig_length_le (by decide)
  have := rpower_any _ _ V (L / 2 + 1) w h.arg (by omega) (by omega) (by omega)
  rw [cnt_rep] at this
  have hc : powC 2 (L / 2 + 1) = 0 := by
    unfold powC
    rw [if_neg (by omega), show dgs (2 : Int).natAbs = 1 from dgs_two, if_neg (by omega)]
  rwa [hc, show powZ 2 (L / 2 + 1) = 2 ^ (L / 2 + 1).toNat from if_pos hc] at this
/-- a power of two above the root -/
theorem start_high (z : Int) (hz : 0 ≤ z) (L : Int) (hL : log2 z.natAbs = L) (h : 0 < L) : z < 2 ^ (L / 2 + 1).toNat * 2 ^ (L / 2 + 1).toNat := by
  obtain ⟨m, rfl⟩ := Int.eq_ofNat_of_zero_le hz
  have hm : m ≠ 0 := by intro e; subst e; simp [log2] at hL; omega
  rw [show ((m : Int)).natAbs = m from rfl, log2_pos hm] at hL
  have h2 := Nat.lt_log2_self (n := m)
  obtain ⟨k, rfl⟩ := Int.eq_ofNat_of_zero_le (show 0 ≤ L by omega)
  have hk : Nat.log2 m = k := by omega
  rw [hk] at h2
  rw [← Int.pow_add]
  have h3 : m < 2 ^ ((k : Int) / 2 + 1).toNat * 2 ^ ((k : Int) / 2 + 1).toNat := by
    rw [← Nat.pow_add]
    exact Nat.lt_of_lt_of_le h2 (Nat.pow_le_pow_right (by omega) (by omega))
  rw [← Nat.pow_add] at h3
  exact_mod_cast h3

theorem rcompare_s {w : World} {V1 V2 : Value} {x y s : Int} (h1 : IntNum w V1 x) (h2 : IntNum w V2 y) (e : (x - y).sign = s) : Calls Tryz.prog 44 #[V1, V2] w fun e w' => e = .returned (.int .i64 s) ∧ Keeps w w' := by subst e; exact rcompare_num h1 h2
theorem rdivide_two {w : World} {V1 V2 : Value} {y : Int} (h1 : IntRep w V1 y) (h2 : IntRep w V2 2) (hl : lenI y ≤ 300000) :
    Calls Tryz.prog 117 #[V1, V2] w fun e w' => ∃ Q R, e = .returned (.tuple #[Q, R, .int .i64 0]) ∧ IntRep w' Q (y.fdiv 2) ∧ IntRep w' R (y.fmod 2) ∧ Keeps w w' := by
  have hl2 : (dig (2 : Int).natAbs).length ≤ 1 := dig_length_le (by decide)
  unfold lenI at hl
  have := rdivide_any _ _ _ _ V1 V2 w h1.arg h2.arg (by omega) (by omega)
  rwa [cnt_rep, cnt_rep] at this
theorem sign_pos_iff (x : Int) : (0 < x ∧ x.sign = 1) ∨ (x ≤ 0 ∧ x.sign ≤ 0) := by
  rcases Int.lt_trichotomy x 0 with h | h | h
  · exact .inr ⟨by omega, by rw [Int.sign_eq_neg_one_of_neg h]; omega⟩
  · exact .inr ⟨by omega, by rw [h]; simp⟩
  · exact .inl ⟨h, Int.sign_eq_one_of_pos h⟩
theorem lenI_lt {x y : Int} (h0 : 0 ≤ x) (h : x ≤ y) : lenI x ≤ lenI y := dig_length_mono (by omega)

def rr4Φ (z : Int) (Vx : Value) (k : Nat) : Nat → Value → World → Prop
  | 0, v, w => IntRep w v (0)
  | 1, v, _ => v = Vx
  | 2, v, w => IntRep w v (1)
  | 3, v, w => IntRep w v (z + 1)
  | 4, v, w => ∃ b, v = .pointer (some ⟨b, 0, none⟩) ∧ k ≤ b ∧ Own w b 24 [.bool false, .slice none 0 0]
  | 5, v, w => ∃ b, v = .pointer (some ⟨b, 0, none⟩) ∧ k ≤ b ∧ Own w b 24 [.bool false, .slice none 0 0]
  | _, _, _ => True
/-- behind the region that makes the power of two -/
def PowCut (W wx : World) (t : TypeId) (P : Int) (p : Value) : Prop := ∃ d9 bp Ap np cp, p = .pointer (some ⟨d9, 0, none⟩) ∧ W.heap.size ≤ d9 ∧ Own wx d9 t [.bool bp, .slice Ap np cp] ∧ IntRep wx (.agg #[.bool bp, .slice Ap np cp]) P ∧
  (∀ b vs, b < W.heap.size → Own W b t vs → Own wx b t vs) ∧ Same32 W wx ∧ (∀ w0 : World, w0.heap.size ≤ W.heap.size → Keeps w0 W → Keeps w0 wx)
theorem PowCut.new {W w3 : World} {t : TypeId} {P : Int} {bp : Bool} {Ap : Option Addr} {np cp : Nat} (hk : Keeps W w3) (hq : IntRep w3 (.agg #[.bool bp, .slice Ap np cp]) P) :
    PowCut W (w3.alloc (.cells #[.bool bp, .slice Ap np cp] t)) t P (.pointer (some ⟨w3.heap.size, 0, none⟩)) :=
  ⟨w3.heap.size, bp, Ap, np, cp, rfl, hk.size, Own.new w3 t [.bool bp, .slice Ap np cp], hq.below (box2 _ _), fun _ _ _ h => (h.below hk).alloc _, fun _ _ h => (h.below hk).below (box2 _ _), fun _ _ h => (h.trans' hk).trans' (box2 _ _)⟩
theorem PowCut.of {W w3 : World} {t : TypeId} {P : Int} {d9 : Nat} {bp : Bool} {Ap : Option Addr} {np cp : Nat} (hk : Keeps W w3) (hd : W.heap.size ≤ d9) (hO : Own w3 d9 t [.bool false, .slice none 0 0]) (hq : IntRep w3 (.agg #[.bool bp, .slice Ap np cp]) P) :
    PowCut W ((w3.setCell ⟨d9, 0, none⟩ (.bool bp)).setCell ⟨d9, 1, none⟩ (.slice Ap np cp)) t P (.pointer (some ⟨d9, 0, none⟩)) :=
  ⟨d9, bp, Ap, np, cp, rfl, hd, hO.two _ _, hq.two hO rfl rfl rfl, fun b vs hb h => (h.below hk).far2 (by omega), fun v xs h => (h.below hk).two hO rfl rfl rfl, fun w0 hs h => ((h.trans' hk).set (p := ⟨d9, 0, none⟩) (by simp only; omega) _).set (p := ⟨d9, 1, none⟩) (by simp only; omega) _⟩
set_option maxRecDepth 100000 in
set_option maxHeartbeats 4000000 in
theorem rroot_any (neg : Bool) (xs : List Nat) (V : Value) (w : World) (h : IntArg w V neg xs) (hm : xs.length ≤ 200) :
    Calls Tryz.prog 99 #[V] w (RootRes (cnt neg xs) w) := by
  obtain ⟨v, rfl, hv⟩ := h
  have hml := lenI_cnt neg xs
  have hkk := keep2 w (.cells #[.bool neg, v] 24) (.cells #[.bool false, .slice none 0 0] 24)
  have hG := Lib.hid (rvalue_any neg xs (.agg #[.bool neg, v]) _ ⟨v, rfl, hv.below hkk⟩ (by omega))
  have hR := own2 w (.cells #[.bool neg, v] 24) 24 [.bool false, .slice none 0 0]
  have hA := (Own.new w 24 [.bool neg, v]).alloc (.cells #[.bool false, .slice none 0 0] 24)
  have hnv := hv.noU
  generalize cnt neg xs = z at *
  have hlz : lenI z ≤ 200 := by omega
  go_enter Tryz.func99, Tryz.ntmps99
  go_wp2_with fail
  refine hG.out.mono ?_
  rintro e w1 ⟨V2, rfl, hr2, hk1⟩
  obtain ⟨A2, n2, c2, rfl, hv2'⟩ := hr2.open_
  have hA1 := hA.below hk1
  have hR1 := hR.below hk1
  have k1 := hkk.trans' hk1
  have f0 := hA1.frozen 0
  have f1 := hA1.frozen 1
  have a0 := hA1.c0
  have a1 := hA1.c1
  have r0 := hR1.c0
  have r1 := hR1.c1
  have q0 := hR1.frozen 0
  have q1 := hR1.frozen 1
  have hx2 := hr2.two (x' := .bool (decide (z < 0))) (y' := .slice A2 n2 c2) hA1 rfl hnv rfl
  generalize hb2 : decide (z < 0) = b2 at *
  have hA2 := hA1.two (.bool b2) (.slice A2 n2 c2)
  have hR2 := hR1.far2 (R := w.heap.size) (by omega) (x := .bool b2) (y := .slice A2 n2 c2)
  have k2 := (k1.set (p := ⟨w.heap.size, 0, none⟩) (by simp) (.bool b2)).set (p := ⟨w.heap.size, 1, none⟩) (by simp) (.slice A2 n2 c2)
  have HB := Lib.hid hb2
  clear hG hk1 hkk hA hR hv hml hv2' hr2 k1 hb2
  cases b2 with
  | true =>
    have hz : z < 0 := by simpa using HB.out
    have HCC := Lib.hid (show (if z < 0 then (2 : Int) else 0) = 2 from if_pos hz)
    have HZ := Lib.hid hz
    clear hz hA1 hR1 hA2
    have kE := (k2.set (p := ⟨w.heap.size + 1, 0, none⟩) (by simp only; omega) (.bool false)).set (p := ⟨w.heap.size + 1, 1, none⟩) (by simp only; omega) (.slice none 0 0)
    go_wp2
    have hR4 := hR2.two (.bool false) (.slice none 0 0)
    refine bodyPost_ret (v := .tuple #[.agg #[.bool false, .slice none 0 0], .int .i64 2]) (by simp [results, Tryz.results99, go_sem, hR4.cell 0, hR4.cell 1]) rfl ?_
    exact ⟨_, 0, by rw [HCC.out], IntRep.zero _, IsRoot.neg HZ.out, kE⟩
  | false =>
    have hz : 0 ≤ z := by have := HB.out; simp at this; omega
    have HCC := Lib.hid (show (if z < 0 then (2 : Int) else 0) = 0 from if_neg (by omega))
    have HZ := Lib.hid hz
    go_wp2_with fail
    generalize hW : (w1.setCell ⟨w.heap.size, 0, none⟩ (.bool false)).setCell ⟨w.heap.size, 1, none⟩ (.slice A2 n2 c2) = W at *
    clear hW hA1 hR1 a0 a1 r0 r1 f0 f1 q0 q1 hz
    replace hA2 := hA2.drew
    have hv2 : IntNum W.drew (.agg #[.bool false, .slice A2 n2 c2]) z := hx2.num (by omega)
    have l0 : lenI 1 ≤ 1 := dig_length_le (n := (1 : Int).natAbs) (k := 1) (by decide)
    have hWs : w.heap.size + 1 < W.heap.size := hR2.lt
    refine wp_region_steps (m := 6) rfl (by kernel_rfl) (rr4Φ z (.agg #[.bool false, .slice A2 n2 c2]) W.heap.size) [4, 5] ?_ ?_ ?_
    · intro i v w w' hi h hk
      match i, hi with
      | 1, _ => exact h
      | 0, _ => exact IntRep.below h hk
      | 2, _ => exact IntRep.below h hk
      | 3, _ => exact IntRep.below h hk
      | 4, _ => exact h.elim fun b ⟨h1, h2, h3⟩ => ⟨b, h1, h2, h3.below hk⟩
      | 5, _ => exact h.elim fun b ⟨h1, h2, h3⟩ => ⟨b, h1, h2, h3.below hk⟩
      | i + 6, hi => exact absurd hi (by omega)
    · intro i hi vs w3 hk3 hd
      have hA3 := hA2.below hk3
      have hv3 := hv2.below hk3
      have a0 := hA3.c0
      have a1 := hA3.c1
      match i, hi with
      | 0, _ =>
        refine step_yes (o := ⟨some 16, Op.call { callee := Callee.value (Operand.func 137), args := #[Operand.const (Value.int IntKind.i64 0)], argTypes := #[3] }, 24, "ref.go:342", #[], none⟩) [] (by kernel_rfl) (by kernel_rfl) fun K hK => ?_
        simp only [frD] at hK ⊢
        refine ⟨by rfl, ?_⟩
        go_simp
        refine (rof_any 0 _ (by omega) (by omega)).mono ?_
        rintro e w4 ⟨U, rfl, hr, hk4⟩
        exact hK _ _ ⟨hk4, hr, by simp⟩
      | 1, _ =>
        refine step_yes (o := ⟨some 17, Op.load 24 (Operand.tmp 1), 24, "ref.go:342", #[], none⟩) [] (by kernel_rfl) (by kernel_rfl) fun K hK => ?_
        simp only [frD] at hK ⊢
        refine ⟨by rfl, ?_⟩
        go_simp
        exact hK _ _ ⟨Below.refl _ _, rfl, by simp⟩
      | 2, _ =>
        have h0 : IntRep w3 (vs 0) (0) := hd 0 (List.contains_iff_mem.1 (by kernel_rfl))
        refine step_yes (o := ⟨some 18, Op.call { callee := Callee.value (Operand.func 137), args := #[Operand.const (Value.int IntKind.i64 1)], argTypes := #[3] }, 24, "ref.go:342", #[{ on := 0, ground := Ground.chain }], none⟩) [(0, some 16)] (by kernel_rfl) (by kernel_rfl) fun K hK => ?_
        simp only [frD] at hK ⊢
        refine ⟨by rfl, ?_⟩
        go_simp
        refine (rof_any 1 _ (by omega) (by omega)).mono ?_
        rintro e w4 ⟨U, rfl, hr, hk4⟩
        exact hK _ _ ⟨hk4, hr, by simp⟩
      | 3, _ =>
        have e1 : vs 1 = (.agg #[.bool false, .slice A2 n2 c2]) := hd 1 (List.contains_iff_mem.1 (by kernel_rfl))
        have h2 : IntRep w3 (vs 2) (1) := hd 2 (List.contains_iff_mem.1 (by kernel_rfl))
        refine step_yes (o := ⟨some 19, Op.call { callee := Callee.value (Operand.func 101), args := #[Operand.tmp 17, Operand.tmp 18], argTypes := #[24, 24] }, 24, "ref.go:342", #[{ on := 1, ground := Ground.data }, { on := 2, ground := Ground.data }, { on := 2, ground := Ground.chain }], none⟩) [(1, some 17), (2, some 18)] (by kernel_rfl) (by kernel_rfl) fun K hK => ?_
        simp only [frD, e1] at hK ⊢
        refine ⟨by rfl, ?_⟩
        go_simp
        refine (radd_num hv3 (h2.num (by omega))).mono ?_
        rintro e w4 ⟨U, rfl, hr, hk4⟩
        exact hK _ _ ⟨hk4, hr, by simp⟩
      | 4, _ =>
        refine step_yes (o := ⟨some 4, Op.alloc 24, 0, "ref.go:342", #[], none⟩) [] (by kernel_rfl) (by kernel_rfl) fun K hK => ?_
        simp only [frD] at hK ⊢
        refine ⟨by rfl, ?_⟩
        go_simp
        exact hK _ _ ⟨(Below.refl _ _).alloc (Nat.le_refl _) _, ⟨_, rfl, hk3.size, Own.new w3 _ _⟩, fun _ => ⟨rfl, by simp⟩⟩
      | 5, _ =>
        refine step_yes (o := ⟨some 5, Op.alloc 24, 0, "ref.go:342", #[], none⟩) [] (by kernel_rfl) (by kernel_rfl) fun K hK => ?_
        simp only [frD] at hK ⊢
        refine ⟨by rfl, ?_⟩
        go_simp
        exact hK _ _ ⟨(Below.refl _ _).alloc (Nat.le_refl _) _, ⟨_, rfl, hk3.size, Own.new w3 _ _⟩, fun _ => ⟨rfl, by simp⟩⟩
      | i + 6, hi => exact absurd hi (by omega)
    · intro vs w3 hk3 hΦ hne
      simp only [List.drop_succ_cons, List.drop_zero]
      rw [fr_frD, show (List.range 6).map _ = [(0, some 16), (1, some 17), (2, some 18), (3, some 19), (4, some 4), (5, some 5)] by kernel_rfl]
      have p0 := hΦ 0 (by omega)
      have p1 := hΦ 1 (by omega)
      have p2 := hΦ 2 (by omega)
      have p3 := hΦ 3 (by omega)
      have p4 := hΦ 4 (by omega)
      have p5 := hΦ 5 (by omega)
      simp only [rr4Φ] at p0 p1 p2 p3 p4 p5
      clear hΦ
      obtain ⟨d4, q4, hl4, hO4⟩ := p4
      obtain ⟨d5, q5, hl5, hO5⟩ := p5
      have n4_5 : d4 ≠ d5 := fun e => hne 4 5 (by omega) (by omega) (by decide) (by decide) (by decide) (by rw [q4, q5, e])
      clear hne
      simp only [frD, p1, q4, q5]
      generalize vs 0 = U0 at p0 ⊢
      clear p1
      generalize vs 2 = U2 at p2 ⊢
      generalize vs 3 = U3 at p3 ⊢
      clear q4
      clear q5
      have hX3 := hA2.below hk3
      have hR3 := hR2.drew.below hk3
      have hx3 := hv2.below hk3
      have k3 := Keeps.trans' (w1 := W.drew) (Below.drew k2) hk3
      obtain ⟨Al, nl, cl, rfl, -⟩ := p0.open_
      obtain ⟨Ah, nh, ch, rfl, -⟩ := p3.open_
      generalize decide ((0 : Int) < 0) = bl at *
      generalize decide (z + 1 < 0) = bh at *
      clear p2 hk3 hA2 hR2 hv2 k2 hx2
      have r40 := hO4.c0
      have r41 := hO4.c1
      have r42 := hO4.frozen 0
      have r43 := hO4.frozen 1
      have r50 := hO5.c0
      have r51 := hO5.c1
      have r52 := hO5.frozen 0
      have r53 := hO5.frozen 1
      have m4_5 := n4_5.symm
      go_upto_region 5 with fail
      obtain ⟨W4, hW4⟩ : ∃ W4, W4 = (w3.setCell ⟨d4, 0, none⟩ (.bool bl)).setCell ⟨d4, 1, none⟩ (.slice Al nl cl) := ⟨_, rfl⟩
      rw [← hW4]
      obtain ⟨gL, gO, gS, gK⟩ := one_box hO4 rfl rfl rfl hW4
      obtain ⟨W5, hW5⟩ : ∃ W5, W5 = (W4.setCell ⟨d5, 0, none⟩ (.bool bh)).setCell ⟨d5, 1, none⟩ (.slice Ah nh ch) := ⟨_, rfl⟩
      rw [← hW5]
      obtain ⟨jH, jO, jS, jK⟩ := one_box (gO _ _ m4_5 hO5) rfl rfl rfl hW5
      have hX := jO _ _ (by omega) (gO _ _ (by omega) hX3)
      have hRR := jO _ _ (by omega) (gO _ _ (by omega) hR3)
      have hL := jO _ _ n4_5 gL
      have hx := (hx3.map gS).map jS
      have rl := (p0.map gS).map jS
      have rh := (p3.map gS).map jS
      have k5 := jK w (by omega) (gK w (by omega) k3)
      clear gL gO gS gK jO jS jK hW4 hW5 r40 r41 r42 r43 r50 r51 r52 r53 hX3 hR3 hx3 p0 p3 k3 hO4 hO5
      have hsz4 : w.heap.size + 1 < d4 := by omega
      have hsz5 : w.heap.size + 1 < d5 := by omega
      clear hl4 hl5 hWs
      clear W
      obtain ⟨L, hL0⟩ : ∃ L, log2 z.natAbs = L := ⟨_, rfl⟩
      have hlen := log2_len z.natAbs
      unfold lenI at hlz
      rw [hL0] at hlen
      have hL6 : L ≤ 6000 := by omega
      have HLG := Lib.hid hL0
      have a0 := hX.c0
      have a1 := hX.c1
      have hlog := Lib.hid (rlog_s hx hL0)
      clear hlen hL0
      by_cases hpos : 0 < L
      · have hd : decide (0 < L) = true := decide_eq_true hpos
        have hst := Lib.hid (start_high z HZ.out L HLG.out hpos)
        have hP0 := Lib.hid (show (0 : Int) ≤ L by omega)
        have hP1 := Lib.hid hL6
        go_wp2_with fail
        refine hlog.out.mono ?_
        rintro e w6 ⟨rfl, hk⟩
        obtain ⟨W, rfl⟩ : ∃ W : World, W = w6 := ⟨_, rfl⟩
        replace hX := hX.below hk
        replace hRR := hRR.below hk
        replace hL := hL.below hk
        replace jH := jH.below hk
        replace hx := hx.below hk
        replace rl := rl.below hk
        replace k5 := k5.trans' hk
        clear hlog hk a0 a1 rh
        have a0 := hX.c0
        have a1 := hX.c1
        have H0P := Lib.hid (show (0 : Int) < 2 ^ (L / 2 + 1).toNat from Int.pow_pos (by omega))
        have H0Z := hst
        have H0L := Lib.hid (show lenI (2 ^ (L / 2 + 1).toNat) ≤ 2300 from lenI_pow 2 _ (L / 2 + 1).toNat (Nat.le_refl _) (by rw [show dgs (2 : Int).natAbs = 1 from dgs_two]; omega))
        have hs5 := jH.lt
        have hs4 := hL.lt
        go_wp2_with fail
        have hA4 := hX.drew
        have hA4a := hA4.alloc (.cells #[.bool false, .slice none 0 0] 24)
        have hA4b := (hX.alloc (.cells #[.bool false, .slice none 0 0] 24)).drew
        have neA : w.heap.size ≠ W.drew.heap.size := Nat.ne_of_lt hA4.lt
        have neA' : w.heap.size ≠ W.heap.size := neA
        have hLogA := Lib.hid (fun W' (k : Keeps W.drew W') => rlog_s (hx.drew.below k) HLG.out)
        have HP0 := hP0
        have HP1 := hP1
        have wr0 : L.tdiv 2 = L / 2 := Int.tdiv_eq_ediv_of_nonneg (by omega)
        have wr1 : IntKind.i64.wrap (L / 2) = L / 2 := IntWalk.i64_in _ (by omega)
        have wr2 : IntKind.i64.wrap (L / 2 + 1) = L / 2 + 1 := IntWalk.i64_in _ (by omega)
        obtain ⟨E, hE⟩ : ∃ E, L / 2 + 1 = E := ⟨_, rfl⟩
        have hPw := Lib.hid (fun W' (V : Value) (h : IntRep W' V 2) => rpower_two (L := L) h HP0.out HP1.out)
        generalize hPP : (2 : Int) ^ (L / 2 + 1).toNat = P at *
        clear hPP
        rw [hE] at wr2 hPw
        go_cut [6] (fun p wx => PowCut W wx 24 P p)
        case first =>
          go_region_held3 (fun w' => w'.cell? ⟨w.heap.size, 0, none⟩ = some (.bool false) ∧ w'.cell? ⟨w.heap.size, 1, none⟩ = some (.slice A2 n2 c2))
            (first
              | (with_reducible exact ⟨hA4.c0, hA4.c1⟩)
              | (with_reducible exact ⟨hA4a.c0, hA4a.c1⟩)
              | (with_reducible exact ⟨hA4b.c0, hA4b.c1⟩)
              | (with_reducible exact ⟨hA5.c0, hA5.c1⟩)
              | (with_reducible exact ⟨hA5a.c0, hA5a.c1⟩)
              | (with_reducible exact ⟨hA6.c0, hA6.c1⟩)
              | (with_reducible exact ⟨hA6a.c0, hA6a.c1⟩)
              | (with_reducible exact ⟨hA7.c0, hA7.c1⟩)
              | (with_reducible exact ⟨hA7a.c0, hA7a.c1⟩)
              | (with_reducible exact ⟨(hA7.far2 neA).c0, (hA7.far2 neA).c1⟩)
              | (with_reducible exact ⟨(hA7.far2 neB).c0, (hA7.far2 neB).c1⟩)
              | (with_reducible exact ⟨(hA7.far2 neC).c0, (hA7.far2 neC).c1⟩)
              | (with_reducible exact ⟨(hA7.far2 neA').c0, (hA7.far2 neA').c1⟩)
              | (with_reducible exact ⟨(hA7.alloc _).c0, (hA7.alloc _).c1⟩)
              | fail)
            (first
              | (go_at_call 137; refine (rof_any 2 _ (by omega) (by omega)).mono ?_; rintro e w1 ⟨V1, rfl, hr1, hk1⟩; have kk1 : Keeps W.drew w1 := (by first | exact hk1 | exact Keeps.trans' (box2 _ _) hk1); have hA5 := hA4.below kk1; have hA5a := hA5.alloc (.cells #[.bool false, .slice none 0 0] 24); have neB : w.heap.size ≠ w1.heap.size := Nat.ne_of_lt hA5.lt; (first | (have hN1 := (Own.new W 24 [.bool false, .slice none 0 0]).drew.below hk1) | skip))
              | (go_at_call 154; refine (hLogA.out _ (by first | exact kk1 | exact kk1.trans' (box2 _ _))).mono ?_; rintro e w2 ⟨rfl, hk2⟩; have k12 : Keeps w1 w2 := (by first | exact hk2 | exact Keeps.trans' (box2 _ _) hk2); have hA6 := hA5.below k12; have hA6a := hA6.alloc (.cells #[.bool false, .slice none 0 0] 24); have neC : w.heap.size ≠ w2.heap.size := Nat.ne_of_lt hA6.lt; (first | (have hN2 := hN1.below k12) | (have hN2 := (Own.new w1 24 [.bool false, .slice none 0 0]).below hk2) | skip))
              | (go_at_call 153; refine (hPw.out _ _ (hr1.below (by first | exact k12 | exact k12.trans' (box2 _ _)))).mono ?_; rintro e w3 ⟨Q, rfl, hq, hk3⟩; obtain ⟨Ap, np, cp, rfl, -⟩ := hq.open_; have k23 : Keeps w2 w3 := (by first | exact hk3 | exact Keeps.trans' (box2 _ _) hk3); have hA7 := hA6.below k23; have hA7a := hA7.alloc (.cells #[.bool false, .slice none 0 0] 24); have neD : w.heap.size ≠ w3.heap.size := Nat.ne_of_lt hA7.lt; have hN4 := Own.new w3 24 [.bool false, .slice none 0 0]; have y0 := hN4.c0; have y1 := hN4.c1; have y2 := hN4.frozen 0; have y3 := hN4.frozen 1; (first | (have hN3 := hN2.below k23) | (have hN3 := (Own.new w2 24 [.bool false, .slice none 0 0]).below hk3) | skip); (try (have z0 := hN3.c0; have z1 := hN3.c1; have z2 := hN3.frozen 0; have z3 := hN3.frozen 1))))
          all_goals
            go_wp2_with fail
            go_meet
            have kW : Keeps W w3 := Keeps.trans' (w1 := W.drew) (Below.drew (Below.refl _ _)) ((kk1.trans' k12).trans' k23)
            have s1 : W.heap.size ≤ w1.heap.size := kk1.size
            have s2 : W.heap.size ≤ w2.heap.size := (kk1.trans' k12).size
            first
              | (with_reducible exact PowCut.of kW (Nat.le_refl _) hN3 hq)
              | (with_reducible exact PowCut.of kW s1 hN3 hq)
              | (with_reducible exact PowCut.of kW s2 hN3 hq)
              | (with_reducible exact PowCut.new kW hq)
        case rest =>
          obtain ⟨d9, bp, Ap, np, cp, rfl, hl9, gP, p7, gO, gS, gK⟩ := hcut
          replace hX := gO _ _ (by omega) hX
          replace hRR := gO _ _ (by omega) hRR
          replace hL := gO _ _ (by omega) hL
          replace jH := gO _ _ (by omega) jH
          replace hx := hx.map gS
          replace rl := rl.map gS
          replace k5 := gK w (by omega) k5
          clear gO gS gK hA4 hA4a hA4b neA hLogA hPw wr0 wr1 wr2 hE a0 a1
          have r90 := gP.c0
          have r91 := gP.c1
          have r50 := jH.c0
          have r51 := jH.c1
          have r52 := jH.frozen 0
          have r53 := jH.frozen 1
          go_wp2_with fail
          obtain ⟨W8, hW8⟩ : ∃ W8, W8 = (wc.setCell ⟨d5, 0, none⟩ (.bool bp)).setCell ⟨d5, 1, none⟩ (.slice Ap np cp) := ⟨_, rfl⟩
          rw [← hW8]
          obtain ⟨jH2, gO, gS, gK⟩ := one_box jH rfl rfl rfl hW8
          replace hX := gO _ _ (by omega) hX
          replace hRR := gO _ _ (by omega) hRR
          replace hL := gO _ _ n4_5 hL
          replace hx := hx.map gS
          replace rl := rl.map gS
          have rh := p7.map gS
          replace k5 := gK w (by omega) k5
          clear hW8 gO gS gK r90 r91 r50 r51 r52 r53 gP p7 hd
          have jH := jH2
          clear jH2
          obtain ⟨bh, hbh⟩ : ∃ b, b = bp := ⟨_, rfl⟩
          obtain ⟨Ah, hAh⟩ : ∃ A, A = Ap := ⟨_, rfl⟩
          obtain ⟨nh, hnh⟩ : ∃ A, A = np := ⟨_, rfl⟩
          obtain ⟨ch, hch⟩ : ∃ A, A = cp := ⟨_, rfl⟩
          subst hbh hAh hnh hch
          go_loopg [] (P).toNat (fun k wr => ∃ (l h : Int) (bl : Bool) (Al : Option Addr) (nl cl : Nat) (bh : Bool) (Ah : Option Addr) (nh ch : Nat), (h - l).toNat = k ∧ 0 ≤ l ∧ l < h ∧ l * l ≤ z ∧ z < h * h ∧ lenI h ≤ 2300 ∧ Own wr w.heap.size 24 [.bool false, .slice A2 n2 c2] ∧
              Own wr (w.heap.size + 1) 24 [.bool false, .slice none 0 0] ∧ Own wr d4 24 [.bool bl, .slice Al nl cl] ∧ Own wr d5 24 [.bool bh, .slice Ah nh ch] ∧ IntNum wr (.agg #[.bool false, .slice A2 n2 c2]) z ∧ IntRep wr (.agg #[.bool bl, .slice Al nl cl]) l ∧ IntRep wr (.agg #[.bool bh, .slice Ah nh ch]) h ∧ Keeps w wr)
          case atStart => exact ⟨0, P, bl, Al, nl, cl, bh, Ah, nh, ch, by omega, by omega, H0P.out, by have := HZ.out; omega, H0Z.out, H0L.out, hX, hRR, hL, jH, hx, rl, rh, k5⟩
          case round =>
            clear hX hRR hL jH hx rl rh k5
            obtain ⟨l, h, bl, Al, nl, cl, bh, Ah, nh, ch, rfl, hl0, hlh, hll, hhh, hlen, hX, hRR, hL, jH, hx, rl, rh, k5⟩ := hrel
            have hlenl := lenI_lt hl0 (Int.le_of_lt hlh)
            have hsub := lenI_sub h l
            have hadd := lenI_add l h
            have r40 := hL.c0
            have r41 := hL.c1
            have r50 := jH.c0
            have r51 := jH.c1
            obtain ⟨s, hs⟩ : ∃ s, (h - l - 1).sign = s := ⟨_, rfl⟩
            have hsp := sign_pos_iff (h - l - 1)
            rw [hs] at hsp
            have HS := Lib.hid hs
            have HL0 := Lib.hid hl0
            have HLH := Lib.hid hlh
            have HLL := Lib.hid hll
            have HHH := Lib.hid hhh
            clear hs hl0 hlh hll hhh
            rcases hsp with ⟨hgt, hs1⟩ | ⟨hle, hs1⟩
            · subst hs1
              have hm1 : l < (l + h).fdiv 2 ∧ (l + h).fdiv 2 < h := by rw [Int.fdiv_eq_ediv_of_nonneg _ (by omega)]; omega
              obtain ⟨mid, hmid⟩ : ∃ m, (l + h).fdiv 2 = m := ⟨_, rfl⟩
              rw [hmid] at hm1
              have hlm := lenI_lt (x := mid) (y := h) (by have := HL0.out; omega) (by omega)
              have hmm := lenI_mul mid mid
              have HMID := Lib.hid hmid
              have HM1 := Lib.hid hm1
              obtain ⟨s2, hs2⟩ : ∃ s, (mid * mid - z).sign = s := ⟨_, rfl⟩
              have hsp2 := sign_pos_iff (mid * mid - z)
              rw [hs2] at hsp2
              have HS2 := Lib.hid hs2
              clear hs2 hm1 hmid hgt
              go_wp2_with fail
              refine (rsub_num (rh.num (by omega)) (rl.num (by omega))).mono ?_
              rintro e w7 ⟨V7, rfl, hr7, hk7⟩
              go_wp2_with fail
              refine (rof_any 1 w7 (by omega) (by omega)).mono ?_
              rintro e w8 ⟨V8, rfl, hr8, hk8⟩
              go_wp2_with fail
              refine (rcompare_s ((hr7.below hk8).num (by omega)) (hr8.num (by omega)) HS.out).mono ?_
              rintro e w9 ⟨rfl, hk9⟩
              have kk := (hk7.trans' hk8).trans' hk9
              clear hr7 hr8 hk7 hk8 hk9 r40 r41 r50 r51
              replace hX := hX.below kk
              replace hRR := hRR.below kk
              replace hL := hL.below kk
              replace jH := jH.below kk
              replace hx := hx.below kk
              replace rl := rl.below kk
              replace rh := rh.below kk
              replace k5 := k5.trans' kk
              clear kk
              have r40 := hL.c0
              have r41 := hL.c1
              have r50 := jH.c0
              have r51 := jH.c1
              go_wp2_with fail
              refine (radd_num (rl.num (by omega)) (rh.num (by omega))).mono ?_
              rintro e w10 ⟨V10, rfl, hr10, hk10⟩
              go_wp2_with fail
              refine (rof_any 2 w10 (by omega) (by omega)).mono ?_
              rintro e w11 ⟨V11, rfl, hr11, hk11⟩
              go_wp2_with fail
              refine (rdivide_two (hr10.below hk11) hr11 (by omega)).mono ?_
              rintro e w12 ⟨Q, R, rfl, hq, hrr, hk12⟩
              rw [HMID.out] at hq
              obtain ⟨Am, nm, cm, rfl, -⟩ := hq.open_
              obtain ⟨Ar, nr, cr, rfl, -⟩ := hrr.open_
              generalize decide (mid < 0) = bm at *
              generalize decide ((l + h).fmod 2 < 0) = br at *
              have kb := keep2 w12 (.cells #[.bool bm, .slice Am nm cm] 24) (.cells #[.bool br, .slice Ar nr cr] 24)
              have kk := ((hk10.trans' hk11).trans' hk12).trans' kb
              have hM := (Own.new w12 24 [.bool bm, .slice Am nm cm]).alloc (.cells #[.bool br, .slice Ar nr cr] 24)
              replace hq := hq.below kb
              replace hX := hX.below kk
              replace hRR := hRR.below kk
              replace hL := hL.below kk
              replace jH := jH.below kk
              replace hx := hx.below kk
              replace rl := rl.below kk
              replace rh := rh.below kk
              replace k5 := k5.trans' kk
              clear kk kb hrr hr10 hr11 hk10 hk11 hk12 r40 r41 r50 r51
              go_wp2_with fail
              generalize (w12.alloc (.cells #[.bool bm, .slice Am nm cm] 24)).alloc (.cells #[.bool br, .slice Ar nr cr] 24) = W13 at *
              generalize w12.heap.size = dm at *
              replace hM := hM.drew
              replace hq := hq.drew
              replace hX := hX.drew
              replace hRR := hRR.drew
              replace hL := hL.drew
              replace jH := jH.drew
              replace hx := hx.drew
              replace rl := rl.drew
              replace rh := rh.drew
              replace k5 : Keeps w W13.drew := Below.drew k5
              go_region_held3 (fun w' => w'.cell? ⟨dm, 0, none⟩ = some (.bool bm) ∧ w'.cell? ⟨dm, 1, none⟩ = some (.slice Am nm cm) ∧ w'.cell? ⟨w.heap.size, 0, none⟩ = some (.bool false) ∧ w'.cell? ⟨w.heap.size, 1, none⟩ = some (.slice A2 n2 c2))
                (exact ⟨hM.c0, hM.c1, hX.c0, hX.c1⟩)
                (first
                  | (go_at_call 120; refine (rmul_num (hq.num (by omega)) (hq.num (by omega))).mono ?_; rintro e w14 ⟨V14, rfl, hp, kk⟩; replace hM := hM.below kk; replace hq := hq.below kk; replace hX := hX.below kk; replace hRR := hRR.below kk; replace hL := hL.below kk; replace jH := jH.below kk; replace hx := hx.below kk; replace rl := rl.below kk; replace rh := rh.below kk; replace k5 := k5.trans' kk)
                  | (go_at_call 44; refine (rcompare_s (hp.num (by omega)) hx HS2.out).mono ?_; rintro e w15 ⟨rfl, kk⟩; replace hM := hM.below kk; replace hq := hq.below kk; replace hX := hX.below kk; replace hRR := hRR.below kk; replace hL := hL.below kk; replace jH := jH.below kk; replace hx := hx.below kk; replace rl := rl.below kk; replace rh := rh.below kk; replace k5 := k5.trans' kk))
              clear kk hp
              have d0 := hM.c0
              have d1 := hM.c1
              rcases hsp2 with ⟨hz2, hs2⟩ | ⟨hz2, hs2⟩
              · have hd4 : decide (s2 ≤ 0) = false := decide_eq_false (by omega)
                have hd5 : 0 < s2 := by omega
                have hd6 : ¬ s2 ≤ 0 := by omega
                have f0 := jH.frozen 0
                have f1 := jH.frozen 1
                have r50 := jH.c0
                have r51 := jH.c1
                have HZ2 := Lib.hid hz2
                clear hz2 hs2
                obtain ⟨gH, gO, gS, gK⟩ := one_box (x4 := .bool bm) (y4 := .slice Am nm cm) jH rfl rfl rfl rfl
                have m4_5 := n4_5.symm
                go_wp2
                go_roundg (mid - l).toNat
                case measure => have := HM1.out; omega
                case rel => exact ⟨l, mid, bl, Al, nl, cl, bm, Am, nm, cm, rfl, HL0.out, HM1.out.1, HLL.out, by have := HZ2.out; omega, by omega, gO _ _ (by omega) hX, gO _ _ (by omega) hRR, gO _ _ n4_5 hL, gH, hx.map gS, rl.map gS, hq.map gS, gK w (by omega) k5⟩
              · have hd4 : decide (s2 ≤ 0) = true := decide_eq_true hs2
                have f0 := hL.frozen 0
                have f1 := hL.frozen 1
                have r40 := hL.c0
                have r41 := hL.c1
                have HZ2 := Lib.hid hz2
                have hd5 : s2 ≤ 0 := hs2
                have hd6 : ¬ 0 < s2 := by omega
                clear hz2 hs2
                obtain ⟨gH, gO, gS, gK⟩ := one_box (x4 := .bool bm) (y4 := .slice Am nm cm) hL rfl rfl rfl rfl
                go_wp2
                go_roundg (h - mid).toNat
                case measure => have := HM1.out; omega
                case rel => exact ⟨mid, h, bm, Am, nm, cm, bh, Ah, nh, ch, rfl, by have := HM1.out; have := HL0.out; omega, HM1.out.2, by have := HZ2.out; omega, HHH.out, hlen, gO _ _ (by omega) hX, gO _ _ (by omega) hRR, gH, gO _ _ (Ne.symm n4_5) jH, hx.map gS, hq.map gS, rh.map gS, gK w (by omega) k5⟩
            · have hd3 : decide (0 < s) = false := decide_eq_false (by omega)
              have HLE := Lib.hid hle
              clear hle hs1
              go_wp2_with fail
              refine (rsub_num (rh.num (by omega)) (rl.num (by omega))).mono ?_
              rintro e w7 ⟨V7, rfl, hr7, hk7⟩
              go_wp2_with fail
              refine (rof_any 1 w7 (by omega) (by omega)).mono ?_
              rintro e w8 ⟨V8, rfl, hr8, hk8⟩
              go_wp2_with fail
              refine (rcompare_s ((hr7.below hk8).num (by omega)) (hr8.num (by omega)) HS.out).mono ?_
              rintro e w9 ⟨rfl, hk9⟩
              have kk := (hk7.trans' hk8).trans' hk9
              have hL9 := hL.below kk
              have hR9 := hRR.below kk
              clear r40 r41 r50 r51
              have r40 := hL9.c0
              have r41 := hL9.c1
              have f0 := hR9.frozen 0
              have f1 := hR9.frozen 1
              have q0 := hR9.c0
              have q1 := hR9.c1
              go_wp2
              have hR4 := hR9.two (.bool bl) (.slice Al nl cl)
              refine bodyPost_ret (v := .tuple #[.agg #[.bool bl, .slice Al nl cl], .int .i64 0]) (by simp [results, Tryz.results99, go_sem, hR4.cell 0, hR4.cell 1]) rfl ?_
              refine ⟨_, l.toNat, by rw [HCC.out], ?_, ?_, ((k5.trans' kk).set (p := ⟨w.heap.size + 1, 0, none⟩) (by simp only; omega) _).set (p := ⟨w.heap.size + 1, 1, none⟩) (by simp only; omega) _⟩
              · rw [Int.toNat_of_nonneg HL0.out]; exact (rl.below kk).two hR9 rfl rfl rfl
              · unfold IsRoot
                rw [if_neg (by have := HZ.out; omega), Int.toNat_of_nonneg HL0.out]
                refine ⟨HLL.out, ?_⟩
                have e : h = l + 1 := by have := HLE.out; have := HLH.out; omega
                have := HHH.out
                rwa [e] at this
      · have hd : decide (0 < L) = false := decide_eq_false hpos
        go_wp2_with fail
        refine hlog.out.mono ?_
        rintro e w6 ⟨rfl, hk⟩
        go_wp2_with fail
        replace hX := hX.below hk
        replace hRR := hRR.below hk
        replace hL := hL.below hk
        replace jH := jH.below hk
        replace hx := hx.below hk
        replace rl := rl.below hk
        replace rh := rh.below hk
        replace k5 := k5.trans' hk
        have H0P := Lib.hid (show (0 : Int) < z + 1 by have := HZ.out; omega)
        have H0Z := Lib.hid (show z < (z + 1) * (z + 1) by have := HZ.out; have h := Int.mul_nonneg this this; grind)
        have H0L := Lib.hid (show lenI (z + 1) ≤ 2300 by have h := lenI_add z 1; unfold lenI at h l0 ⊢; omega)
        clear hlog hk hd a0 a1
        go_loopg [] (z + 1).toNat (fun k wr => ∃ (l h : Int) (bl : Bool) (Al : Option Addr) (nl cl : Nat) (bh : Bool) (Ah : Option Addr) (nh ch : Nat), (h - l).toNat = k ∧ 0 ≤ l ∧ l < h ∧ l * l ≤ z ∧ z < h * h ∧ lenI h ≤ 2300 ∧ Own wr w.heap.size 24 [.bool false, .slice A2 n2 c2] ∧
            Own wr (w.heap.size + 1) 24 [.bool false, .slice none 0 0] ∧ Own wr d4 24 [.bool bl, .slice Al nl cl] ∧ Own wr d5 24 [.bool bh, .slice Ah nh ch] ∧ IntNum wr (.agg #[.bool false, .slice A2 n2 c2]) z ∧ IntRep wr (.agg #[.bool bl, .slice Al nl cl]) l ∧ IntRep wr (.agg #[.bool bh, .slice Ah nh ch]) h ∧ Keeps w wr)
        case atStart => exact ⟨0, z + 1, bl, Al, nl, cl, bh, Ah, nh, ch, by omega, by omega, H0P.out, by have := HZ.out; omega, H0Z.out, H0L.out, hX, hRR, hL, jH, hx, rl, rh, k5⟩
        case round =>
          clear hX hRR hL jH hx rl rh k5
          obtain ⟨l, h, bl, Al, nl, cl, bh, Ah, nh, ch, rfl, hl0, hlh, hll, hhh, hlen, hX, hRR, hL, jH, hx, rl, rh, k5⟩ := hrel
          have hlenl := lenI_lt hl0 (Int.le_of_lt hlh)
          have hsub := lenI_sub h l
          have hadd := lenI_add l h
          have r40 := hL.c0
          have r41 := hL.c1
          have r50 := jH.c0
          have r51 := jH.c1
          obtain ⟨s, hs⟩ : ∃ s, (h - l - 1).sign = s := ⟨_, rfl⟩
          have hsp := sign_pos_iff (h - l - 1)
          rw [hs] at hsp
          have HS := Lib.hid hs
          have HL0 := Lib.hid hl0
          have HLH := Lib.hid hlh
          have HLL := Lib.hid hll
          have HHH := Lib.hid hhh
          clear hs hl0 hlh hll hhh
          rcases hsp with ⟨hgt, hs1⟩ | ⟨hle, hs1⟩
          · subst hs1
            have hm1 : l < (l + h).fdiv 2 ∧ (l + h).fdiv 2 < h := by rw [Int.fdiv_eq_ediv_of_nonneg _ (by omega)]; omega
            obtain ⟨mid, hmid⟩ : ∃ m, (l + h).fdiv 2 = m := ⟨_, rfl⟩
            rw [hmid] at hm1
            have hlm := lenI_lt (x := mid) (y := h) (by have := HL0.out; omega) (by omega)
            have hmm := lenI_mul mid mid
            have HMID := Lib.hid hmid
            have HM1 := Lib.hid hm1
            obtain ⟨s2, hs2⟩ : ∃ s, (mid * mid - z).sign = s := ⟨_, rfl⟩
            have hsp2 := sign_pos_iff (mid * mid - z)
            rw [hs2] at hsp2
            have HS2 := Lib.hid hs2
            clear hs2 hm1 hmid hgt
            go_wp2_with fail
            refine (rsub_num (rh.num (by omega)) (rl.num (by omega))).mono ?_
            rintro e w7 ⟨V7, rfl, hr7, hk7⟩
            go_wp2_with fail
            refine (rof_any 1 w7 (by omega) (by omega)).mono ?_
            rintro e w8 ⟨V8, rfl, hr8, hk8⟩
            go_wp2_with fail
            refine (rcompare_s ((hr7.below hk8).num (by omega)) (hr8.num (by omega)) HS.out).mono ?_
            rintro e w9 ⟨rfl, hk9⟩
            have kk := (hk7.trans' hk8).trans' hk9
            clear hr7 hr8 hk7 hk8 hk9 r40 r41 r50 r51
            replace hX := hX.below kk
            replace hRR := hRR.below kk
            replace hL := hL.below kk
            replace jH := jH.below kk
            replace hx := hx.below kk
            replace rl := rl.below kk
            replace rh := rh.below kk
            replace k5 := k5.trans' kk
            clear kk
            have r40 := hL.c0
            have r41 := hL.c1
            have r50 := jH.c0
            have r51 := jH.c1
            go_wp2_with fail
            refine (radd_num (rl.num (by omega)) (rh.num (by omega))).mono ?_
            rintro e w10 ⟨V10, rfl, hr10, hk10⟩
            go_wp2_with fail
            refine (rof_any 2 w10 (by omega) (by omega)).mono ?_
            rintro e w11 ⟨V11, rfl, hr11, hk11⟩
            go_wp2_with fail
            refine (rdivide_two (hr10.below hk11) hr11 (by omega)).mono ?_
            rintro e w12 ⟨Q, R, rfl, hq, hrr, hk12⟩
            rw [HMID.out] at hq
            obtain ⟨Am, nm, cm, rfl, -⟩ := hq.open_
            obtain ⟨Ar, nr, cr, rfl, -⟩ := hrr.open_
            generalize decide (mid < 0) = bm at *
            generalize decide ((l + h).fmod 2 < 0) = br at *
            have kb := keep2 w12 (.cells #[.bool bm, .slice Am nm cm] 24) (.cells #[.bool br, .slice Ar nr cr] 24)
            have kk := ((hk10.trans' hk11).trans' hk12).trans' kb
            have hM := (Own.new w12 24 [.bool bm, .slice Am nm cm]).alloc (.cells #[.bool br, .slice Ar nr cr] 24)
            replace hq := hq.below kb
            replace hX := hX.below kk
            replace hRR := hRR.below kk
            replace hL := hL.below kk
            replace jH := jH.below kk
            replace hx := hx.below kk
            replace rl := rl.below kk
            replace rh := rh.below kk
            replace k5 := k5.trans' kk
            clear kk kb hrr hr10 hr11 hk10 hk11 hk12 r40 r41 r50 r51
            go_wp2_with fail
            generalize (w12.alloc (.cells #[.bool bm, .slice Am nm cm] 24)).alloc (.cells #[.bool br, .slice Ar nr cr] 24) = W13 at *
            generalize w12.heap.size = dm at *
            replace hM := hM.drew
            replace hq := hq.drew
            replace hX := hX.drew
            replace hRR := hRR.drew
            replace hL := hL.drew
            replace jH := jH.drew
            replace hx := hx.drew
            replace rl := rl.drew
            replace rh := rh.drew
            replace k5 : Keeps w W13.drew := Below.drew k5
            go_region_held3 (fun w' => w'.cell? ⟨dm, 0, none⟩ = some (.bool bm) ∧ w'.cell? ⟨dm, 1, none⟩ = some (.slice Am nm cm) ∧ w'.cell? ⟨w.heap.size, 0, none⟩ = some (.bool false) ∧ w'.cell? ⟨w.heap.size, 1, none⟩ = some (.slice A2 n2 c2))
              (exact ⟨hM.c0, hM.c1, hX.c0, hX.c1⟩)
              (first
                | (go_at_call 120; refine (rmul_num (hq.num (by omega)) (hq.num (by omega))).mono ?_; rintro e w14 ⟨V14, rfl, hp, kk⟩; replace hM := hM.below kk; replace hq := hq.below kk; replace hX := hX.below kk; replace hRR := hRR.below kk; replace hL := hL.below kk; replace jH := jH.below kk; replace hx := hx.below kk; replace rl := rl.below kk; replace rh := rh.below kk; replace k5 := k5.trans' kk)
                | (go_at_call 44; refine (rcompare_s (hp.num (by omega)) hx HS2.out).mono ?_; rintro e w15 ⟨rfl, kk⟩; replace hM := hM.below kk; replace hq := hq.below kk; replace hX := hX.below kk; replace hRR := hRR.below kk; replace hL := hL.below kk; replace jH := jH.below kk; replace hx := hx.below kk; replace rl := rl.below kk; replace rh := rh.below kk; replace k5 := k5.trans' kk))
            clear kk hp
            have d0 := hM.c0
            have d1 := hM.c1
            rcases hsp2 with ⟨hz2, hs2⟩ | ⟨hz2, hs2⟩
            · have hd4 : decide (s2 ≤ 0) = false := decide_eq_false (by omega)
              have hd5 : 0 < s2 := by omega
              have hd6 : ¬ s2 ≤ 0 := by omega
              have f0 := jH.frozen 0
              have f1 := jH.frozen 1
              have r50 := jH.c0
              have r51 := jH.c1
              have HZ2 := Lib.hid hz2
              clear hz2 hs2
              obtain ⟨gH, gO, gS, gK⟩ := one_box (x4 := .bool bm) (y4 := .slice Am nm cm) jH rfl rfl rfl rfl
              have m4_5 := n4_5.symm
              go_wp2
              go_roundg (mid - l).toNat
              case measure => have := HM1.out; omega
              case rel => exact ⟨l, mid, bl, Al, nl, cl, bm, Am, nm, cm, rfl, HL0.out, HM1.out.1, HLL.out, by have := HZ2.out; omega, by omega, gO _ _ (by omega) hX, gO _ _ (by omega) hRR, gO _ _ n4_5 hL, gH, hx.map gS, rl.map gS, hq.map gS, gK w (by omega) k5⟩
            · have hd4 : decide (s2 ≤ 0) = true := decide_eq_true hs2
              have f0 := hL.frozen 0
              have f1 := hL.frozen 1
              have r40 := hL.c0
              have r41 := hL.c1
              have HZ2 := Lib.hid hz2
              have hd5 : s2 ≤ 0 := hs2
              have hd6 : ¬ 0 < s2 := by omega
              clear hz2 hs2
              obtain ⟨gH, gO, gS, gK⟩ := one_box (x4 := .bool bm) (y4 := .slice Am nm cm) hL rfl rfl rfl rfl
              go_wp2
              go_roundg (h - mid).toNat
              case measure => have := HM1.out; omega
              case rel => exact ⟨mid, h, bm, Am, nm, cm, bh, Ah, nh, ch, rfl, by have := HM1.out; have := HL0.out; omega, HM1.out.2, by have := HZ2.out; omega, HHH.out, hlen, gO _ _ (by omega) hX, gO _ _ (by omega) hRR, gH, gO _ _ (Ne.symm n4_5) jH, hx.map gS, hq.map gS, rh.map gS, gK w (by omega) k5⟩
          · have hd3 : decide (0 < s) = false := decide_eq_false (by omega)
            have HLE := Lib.hid hle
            clear hle hs1
            go_wp2_with fail
            refine (rsub_num (rh.num (by omega)) (rl.num (by omega))).mono ?_
            rintro e w7 ⟨V7, rfl, hr7, hk7⟩
            go_wp2_with fail
            refine (rof_any 1 w7 (by omega) (by omega)).mono ?_
            rintro e w8 ⟨V8, rfl, hr8, hk8⟩
            go_wp2_with fail
            refine (rcompare_s ((hr7.below hk8).num (by omega)) (hr8.num (by omega)) HS.out).mono ?_
            rintro e w9 ⟨rfl, hk9⟩
            have kk := (hk7.trans' hk8).trans' hk9
            have hL9 := hL.below kk
            have hR9 := hRR.below kk
            clear r40 r41 r50 r51
            have r40 := hL9.c0
            have r41 := hL9.c1
            have f0 := hR9.frozen 0
            have f1 := hR9.frozen 1
            have q0 := hR9.c0
            have q1 := hR9.c1
            go_wp2
            have hR4 := hR9.two (.bool bl) (.slice Al nl cl)
            refine bodyPost_ret (v := .tuple #[.agg #[.bool bl, .slice Al nl cl], .int .i64 0]) (by simp [results, Tryz.results99, go_sem, hR4.cell 0, hR4.cell 1]) rfl ?_
            refine ⟨_, l.toNat, by rw [HCC.out], ?_, ?_, ((k5.trans' kk).set (p := ⟨w.heap.size + 1, 0, none⟩) (by simp only; omega) _).set (p := ⟨w.heap.size + 1, 1, none⟩) (by simp only; omega) _⟩
            · rw [Int.toNat_of_nonneg HL0.out]; exact (rl.below kk).two hR9 rfl rfl rfl
            · unfold IsRoot
              rw [if_neg (by have := HZ.out; omega), Int.toNat_of_nonneg HL0.out]
              refine ⟨HLL.out, ?_⟩
              have e : h = l + 1 := by have := HLE.out; have := HLH.out; omega
              have := HHH.out
              rwa [e] at this
end Go.Proofs.YtmochehkkadjnaaGreatDoor
