/- The law's helper known; Text in the common form. -/
import Derived.Test.YthgbgoidnnfapaaDoorLawB
import Derived.Test.YthgbgoidnnfapaaDoorText
namespace Go.Proofs.YthgbgoidnnfapaaDoor
open Go.RowKit Go.Shelf

def KnownAt (w : World) : Prop := Calls Tryd.prog 11 #[] w fun e w' => e = .returned (.bool true) ∧ Keeps w w'

theorem text_num {w : World} {V : Value} {z : Int} (h : IntNum w V z) (ht : PowTab w) : Calls Tryd.prog 35 #[V] w fun e w' => e = .returned (.string ⟨(textL z).toArray⟩) ∧ Keeps w w' := by
  obtain ⟨n, xs, h, rfl, l⟩ := h
  exact text_any n xs V w h l ht
theorem valid_num (neg : Bool) (xs : List Nat) (V : Value) (w : World) (h : IntArg w V neg xs) (hm : xs.length ≤ 900000) : Calls Tryd.prog 28 #[V] w fun e w' => e = .returned (.bool (validB neg xs)) ∧ Keeps w w' := by
  obtain ⟨v, rfl, hv⟩ := h
  obtain ⟨A, n, c, rfl, e, -, -, -, hr⟩ := hv.open_
  exact valid_any neg A n c xs w e hr (by omega)
theorem Own.u32s {w : World} {b : Nat} {t : TypeId} {xs : List Nat} (h : Own w b t (u32s xs)) (hm : xs.length ≤ 1000000) : U32 w (.slice (some ⟨b, 0, none⟩) xs.length xs.length) xs :=
  U32.mk h.row (Nat.le_refl _) (by unfold maxLen; omega) (by intro e; cases e)


theorem rep_of_any {w : World} {b : Bool} {v : Value} {z : Int} (h : IntRep w (.agg #[.bool b, v]) z) : b = decide (z < 0) := by
  obtain ⟨v', e, -⟩ := h
  simp only [Value.agg.injEq, Array.mk.injEq, List.cons.injEq, Value.bool.injEq, and_true] at e
  exact e.1
theorem rep_of {w w' : World} {b : Bool} {v : Value} {z : Int} (h : IntRep w (.agg #[.bool b, v]) z) (hu : U32 w' v (dig z.natAbs)) : IntRep w' (.agg #[.bool b, v]) z := by
  obtain ⟨v', e, -⟩ := h
  simp only [Value.agg.injEq, Array.mk.injEq, List.cons.injEq, and_true] at e
  exact ⟨v, by rw [e.1], hu⟩
theorem known_cnt : cnt true [999999999] * cnt false [1, 1] = -(999999999999999999 : Nat) := by
  have h1 : cnt true [999999999] = -(999999999 : Nat) := by
    unfold cnt mag
    rw [if_pos (by simp [validB, ix])]
    rfl
  have h2 : cnt false [1, 1] = ((1000000001 : Nat) : Int) := by
    unfold cnt mag
    rw [if_pos (by simp [validB, ix])]
    rfl
  rw [h1, h2]
  rfl
theorem known_text : textL (-(999999999999999999 : Nat)) = [45, 57, 57, 57, 57, 57, 57, 57, 57, 57, 57, 57, 57, 57, 57, 57, 57, 57, 57] := by
  have e : Lib.decDigits 999999999999999999 = [57, 57, 57, 57, 57, 57, 57, 57, 57, 57, 57, 57, 57, 57, 57, 57, 57, 57] := by
    rw [Lib.decDigits_eq, Lib.nDigits_unique 17 _ (by decide) (by decide)]
    decide
  unfold textL
  rw [if_neg (by decide), if_pos (by decide), show (-((999999999999999999 : Nat) : Int)).natAbs = 999999999999999999 from rfl, e]
  rfl
set_option maxRecDepth 100000 in
set_option maxHeartbeats 400000 in
theorem known_any (w : World) (ht : PowTab w) : KnownAt w := by
  unfold KnownAt
  have o1 := (Own.new w 48 (u32s [999999999])).alloc (.cells #[.int .u32 1, .int .u32 1] 48)
  have o2 := own2 w (.cells #[.int .u32 999999999] 48) 48 (u32s [1, 1])
  have hM := Lib.hid (mul_any true false [999999999] [1, 1] _ _ _ ⟨_, rfl, o1.u32s (by decide)⟩ ⟨_, rfl, o2.u32s (by decide)⟩ (by decide) (by decide))
  rw [known_cnt] at hM
  have kk := keep2 w (.cells #[.int .u32 999999999] 48) (.cells #[.int .u32 1, .int .u32 1] 48)
  have hl : lenI (-(999999999999999999 : Nat)) ≤ 900000 := by
    unfold lenI
    have := dig_length_le (n := (-((999999999999999999 : Nat) : Int)).natAbs) (k := 2) (by decide)
    omega
  have KT := Lib.hid known_text
  clear o1 o2
  go_enter Tryd.func11, Tryd.ntmps11
  go_wp2_with fail
  refine hM.out.mono ?_
  rintro e w1 ⟨V, rfl, hr, hk1⟩
  clear hM
  obtain ⟨B1, u1, y1, rfl, hu1⟩ := hr.open_
  have hb : decide (-((999999999999999999 : Nat) : Int) < 0) = true := rfl
  rw [hb] at hr ⊢
  clear hb
  have kw1 := kk.trans' hk1
  have k3 := kw1.trans' (box2 w1 (.cells #[.bool true, .slice B1 u1 y1] 24))
  have hr3 := hr.below (box2 w1 (.cells #[.bool true, .slice B1 u1 y1] 24))
  have hT := Lib.hid (text_num (hr3.num hl) (ht.keep k3))
  rw [known_text] at hT
  clear hr hr3 hu1 hk1
  go_wp2_with fail
  refine hT.out.mono ?_
  rintro e w2 ⟨rfl, hk2⟩
  clear hT
  have o4 := Own.new w2 48 (u32s [1000000000])
  have hV := Lib.hid (valid_num false [1000000000] _ _ ⟨_, rfl, o4.u32s (by decide)⟩ (by decide))
  rw [show validB false [1000000000] = false by simp [validB, ix]] at hV
  clear o4
  go_wp2_with fail
  refine hV.out.mono ?_
  rintro e w3 ⟨rfl, hk3⟩
  go_wp2
  go_ret
  exact ⟨rfl, (k3.trans' hk2).trans' ((box2 _ _).trans' hk3)⟩
end Go.Proofs.YthgbgoidnnfapaaDoor
