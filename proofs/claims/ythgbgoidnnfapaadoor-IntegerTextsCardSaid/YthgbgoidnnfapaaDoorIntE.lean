/- The walks of Sign, Neg, Abs, Of. -/
import Derived.Test.YthgbgoidnnfapaaDoorIntD
import Derived.Deep.RegionHeld3
namespace Go.Proofs.YthgbgoidnnfapaaDoor
open Go.RowKit

theorem U32.open_ {w : World} {v : Value} {xs : List Nat} (h : U32 w v xs) : ∃ A n c, v = .slice A n c ∧ xs.length = n ∧ n ≤ c ∧ c ≤ maxLen ∧ (A = none → c = 0) ∧ Row w A n (u32 xs) := by
  obtain ⟨A, c, rfl, h1, h2, h3, h4⟩ := h
  exact ⟨A, _, c, rfl, rfl, h1, h2, h3, h4⟩
theorem IntRep.open_ {w : World} {V : Value} {z : Int} (h : IntRep w V z) : ∃ A n c, V = .agg #[.bool (decide (z < 0)), .slice A n c] ∧ U32 w (.slice A n c) (dig z.natAbs) := by
  obtain ⟨v, rfl, hv⟩ := h
  obtain ⟨A, n, c, rfl, -⟩ := hv.open_
  exact ⟨A, n, c, rfl, hv⟩
/-- a store of a struct's two cells into a result's cell -/
theorem IntRep.two {w : World} {V : Value} {z : Int} {R : Nat} {t : TypeId} {x y x' y' : Value} (h : IntRep w V z) (hR : Own w R t [x, y]) (hx : noU32 x = true) (hy : noU32 y = true) (hx' : noU32 x' = true) :
    IntRep ((w.setCell ⟨R, 0, none⟩ x').setCell ⟨R, 1, none⟩ y') V z := by
  obtain ⟨v, rfl, hv⟩ := h
  refine ⟨v, rfl, (hv.put hR (by simp [hx, hy]) 0 x').put (hR.set 0 x') (by simp [hx', hy]) 1 y'⟩
theorem sgn_zero (neg : Bool) : sgn neg 0 = 0 := by cases neg <;> rfl
theorem sgn_natAbs (neg : Bool) (m : Nat) : (sgn neg m).natAbs = m := by cases neg <;> simp [sgn]
theorem sgn_neg (neg : Bool) (m : Nat) : sgn (!neg) m = -sgn neg m := by cases neg <;> simp [sgn]
theorem sgn_sign (neg : Bool) (m : Nat) (h : 0 < m) : (sgn neg m).sign = if neg then -1 else 1 := by
  cases neg
  · exact Int.sign_eq_one_of_pos (by simp [sgn]; omega)
  · exact Int.sign_eq_neg_one_of_neg (by simp [sgn]; omega)
theorem ret_int {k : IntKind} {a b : Int} (h : b = a) : Ending.returned (.int k a) = .returned (.int k b) := by rw [h]
theorem box2 (w : World) (o : Obj) : Keeps w (w.alloc o) := (Below.refl _ _).alloc (Nat.le_refl _) _

/-- made, of a slice value that reads as a list -/
theorem made_u (neg : Bool) (v : Value) (xs : List Nat) (w : World) (h : U32 w v xs) (ha : AllB xs) :
    Calls Tryd.prog 50 #[.bool neg, v] w fun e w' => ∃ V, e = .returned V ∧ IntRep w' V (sgn neg (val xs)) ∧ Keeps w w' := by
  obtain ⟨A, n, c, rfl, e, hc, hm, h0, hr⟩ := h.open_
  exact made_any neg A n c xs w e hr ha hc hm h0
theorem made_d (neg : Bool) (v : Value) (m : Nat) (w : World) (h : U32 w v (dig m)) :
    Calls Tryd.prog 50 #[.bool neg, v] w fun e w' => ∃ V, e = .returned V ∧ IntRep w' V (sgn neg m) ∧ Keeps w w' := by
  have := made_u neg v (dig m) w h (AllB.dig m)
  rwa [val_dig] at this
theorem clone_u (v : Value) (xs : List Nat) (w : World) (h : U32 w v xs) (hm : xs.length ≤ 1000000) :
    Calls Tryd.prog 65 #[v] w fun e w' => ∃ v, e = .returned v ∧ U32 w' v xs ∧ Keeps w w' := by
  obtain ⟨A, n, c, rfl, e, hc, _, h0, hr⟩ := h.open_
  exact clone_any A n c xs w e hr hc (by omega) h0
theorem mag_length (neg : Bool) (xs : List Nat) : (dig (mag neg xs)).length ≤ xs.length := by
  cases h : validB neg xs with
  | true => rw [dig_mag h]; exact Nat.le_refl _
  | false => rw [dig_mag_not h]; simp

set_option maxRecDepth 100000 in
set_option maxHeartbeats 400000 in
theorem sign_any (neg : Bool) (xs : List Nat) (V : Value) (w : World) (h : IntArg w V neg xs) (hm : xs.length ≤ 1000000) :
    Calls Tryd.prog 26 #[V] w fun e w' => e = .returned (.int .i64 (cnt neg xs).sign) ∧ Keeps w w' := by
  obtain ⟨v, rfl, hv⟩ := h
  have hkk : Keeps w (w.alloc (.cells #[.bool neg, v] 24)) := box2 _ _
  have hG := Lib.hid (groups_any neg xs (.agg #[.bool neg, v]) _ ⟨v, rfl, hv.below hkk⟩ hm)
  rcases Nat.eq_zero_or_pos (mag neg xs) with h0 | h0
  · have H0 := Lib.hid h0
    clear h0
    go_enter Tryd.func26, Tryd.ntmps26
    go_wp2_with fail
    refine hG.out.mono ?_
    rintro e w1 ⟨v1, rfl, hv1, hk1⟩
    rw [H0.out, dig_zero] at hv1
    obtain ⟨A, n, c, rfl, e1, -, -, -, -⟩ := hv1.open_
    obtain rfl : n = 0 := by simpa using e1.symm
    obtain ⟨hc1, hf1⟩ := bcell hk1
    go_wp2
    go_ret
    exact ⟨by unfold cnt; rw [H0.out, sgn_zero]; rfl, hkk.trans (hk1.mono (by simp))⟩
  · have H0 := Lib.hid h0
    clear h0
    cases neg
    all_goals
      go_enter Tryd.func26, Tryd.ntmps26
      go_wp2_with fail
      refine hG.out.mono ?_
      rintro e w1 ⟨v1, rfl, hv1, hk1⟩
      obtain ⟨A, n, c, rfl, e1, -, -, -, -⟩ := hv1.open_
      have hn : ((n : Int) == 0) = false := by
        have := dig_length_pos.2 (Nat.pos_iff_ne_zero.1 H0.out)
        rw [e1] at this
        simp; omega
      clear e1
      obtain ⟨hc1, hf1⟩ := bcell hk1
      go_wp2
      go_ret
      exact ⟨ret_int (by rw [cnt, sgn_sign _ _ H0.out]; rfl), hkk.trans (hk1.mono (by simp))⟩

set_option maxRecDepth 100000 in
set_option maxHeartbeats 400000 in
theorem abs_any (neg : Bool) (xs : List Nat) (V : Value) (w : World) (h : IntArg w V neg xs) (hm : xs.length ≤ 1000000) :
    Calls Tryd.prog 33 #[V] w fun e w' => ∃ V, e = .returned V ∧ IntRep w' V (cnt neg xs).natAbs ∧ Keeps w w' := by
  obtain ⟨v, rfl, hv⟩ := h
  have hml := mag_length neg xs
  have hkk := keep2 w (.cells #[.bool neg, v] 24) (.cells #[.bool false, .slice none 0 0] 24)
  have hG := Lib.hid (groups_any neg xs (.agg #[.bool neg, v]) _ ⟨v, rfl, hv.below hkk⟩ hm)
  have hR := own2 w (.cells #[.bool neg, v] 24) 24 [.bool false, .slice none 0 0]
  go_enter Tryd.func33, Tryd.ntmps33
  go_wp2_with fail
  refine hG.out.mono ?_
  rintro e w1 ⟨v1, rfl, hv1, hk1⟩
  go_wp2_with fail
  refine (clone_u v1 _ _ hv1 (by omega)).mono ?_
  rintro e w2 ⟨v2, rfl, hv2, hk2⟩
  go_wp2_with fail
  refine (made_d false v2 _ _ hv2).mono ?_
  rintro e w3 ⟨V3, rfl, hr3, hk3⟩
  obtain ⟨A3, n3, c3, rfl, hv3⟩ := hr3.open_
  have hR3 := ((hR.below hk1).below hk2).below hk3
  have hk := ((hkk.trans' hk1).trans' hk2).trans' hk3
  have r0 := hR3.c0
  have r1 := hR3.c1
  have f0 := hR3.frozen 0
  have f1 := hR3.frozen 1
  go_wp2
  have hR4 := hR3.two (.bool (decide (sgn false (mag neg xs) < 0))) (.slice A3 n3 c3)
  refine bodyPost_ret (v := .agg #[.bool (decide (sgn false (mag neg xs) < 0)), .slice A3 n3 c3]) (by simp [results, Tryd.results33, go_sem, hR4.c0, hR4.c1]) rfl ?_
  refine ⟨_, rfl, ?_, (hk.set (by simp) _).set (by simp) _⟩
  have e1 : ((cnt neg xs).natAbs : Int) = sgn false (mag neg xs) := by unfold cnt; rw [sgn_natAbs]; rfl
  rw [e1]
  exact hr3.two hR3 rfl rfl rfl

set_option maxRecDepth 100000 in
set_option maxHeartbeats 400000 in
theorem neg_any (neg : Bool) (xs : List Nat) (V : Value) (w : World) (h : IntArg w V neg xs) (hm : xs.length ≤ 1000000) :
    Calls Tryd.prog 31 #[V] w fun e w' => ∃ V, e = .returned V ∧ IntRep w' V (-cnt neg xs) ∧ Keeps w w' := by
  obtain ⟨v, rfl, hv⟩ := h
  have hml := mag_length neg xs
  have hkk := keep2 w (.cells #[.bool neg, v] 24) (.cells #[.bool false, .slice none 0 0] 24)
  have hG := Lib.hid (fun W (hW : IntArg W (.agg #[.bool neg, v]) neg xs) => groups_any neg xs (.agg #[.bool neg, v]) W hW hm)
  have hA := own2 w (.cells #[.bool neg, v] 24) 24 [.bool false, .slice none 0 0]
  have hB : Own ((w.alloc (.cells #[.bool neg, v] 24)).alloc (.cells #[.bool false, .slice none 0 0] 24)) w.heap.size 24 [.bool neg, v] := (Own.new w 24 [.bool neg, v]).alloc _
  go_enter Tryd.func31, Tryd.ntmps31
  go_wp2_with fail
  have hv1 := hv.below hkk
  generalize (w.alloc (.cells #[.bool neg, v] 24)).alloc (.cells #[.bool false, .slice none 0 0] 24) = W at *
  have b0 := hB.c0
  have b1 := hB.c1
  go_region_held3 (fun w' => w'.cell? ⟨w.heap.size, 0, none⟩ = some (.bool neg) ∧ w'.cell? ⟨w.heap.size, 1, none⟩ = some v)
    (first | exact ⟨b0, b1⟩ | exact ⟨hB1.c0, hB1.c1⟩ | exact ⟨hB2.c0, hB2.c1⟩ | exact ⟨hB3.c0, hB3.c1⟩ | exact ⟨hB4.c0, hB4.c1⟩)
    (first
      | (go_at_call 52; refine (hG.out W.drew ⟨v, rfl, hv1⟩).mono ?_; rintro e w1 ⟨v1, rfl, hu1, hk1⟩; have hB1 := hB.drew.below hk1)
      | (go_at_call 65; refine (clone_u v1 _ _ hu1 (by omega)).mono ?_; rintro e w2 ⟨v2, rfl, hu2, hk2⟩; have hB2 := hB1.below hk2)
      | (go_at_call 50; refine (made_d (!neg) v2 _ _ hu2).mono ?_; rintro e w3 ⟨V3, rfl, hr3, hk3⟩; obtain ⟨A3, n3, c3, rfl, hv3⟩ := hr3.open_; have hB3 := hB2.below hk3; have hR3 := ((hA.drew.below hk1).below hk2).below hk3; have r0 := hR3.c0; have r1 := hR3.c1; have f0 := hR3.frozen 0; have f1 := hR3.frozen 1; have hB4 := (hB3.far (p := ⟨w.heap.size + 1, 0, none⟩) (by simp) (.bool (decide (sgn (!neg) (mag neg xs) < 0)))).far (p := ⟨w.heap.size + 1, 1, none⟩) (by simp) (.slice A3 n3 c3)))
  go_wp2
  have hR4 := hR3.two (.bool (decide (sgn (!neg) (mag neg xs) < 0))) (.slice A3 n3 c3)
  refine bodyPost_ret (v := .agg #[.bool (decide (sgn (!neg) (mag neg xs) < 0)), .slice A3 n3 c3]) (by simp [results, Tryd.results31, go_sem, hR4.c0, hR4.c1]) rfl ?_
  have hk := ((Keeps.trans' (Below.drew hkk) hk1).trans' hk2).trans' hk3
  refine ⟨_, rfl, ?_, (hk.set (by simp) _).set (by simp) _⟩
  have e1 : -cnt neg xs = sgn (!neg) (mag neg xs) := by unfold cnt; rw [sgn_neg]
  rw [e1]
  exact hr3.two hR3 rfl rfl rfl
end Go.Proofs.YthgbgoidnnfapaaDoor
