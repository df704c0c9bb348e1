/- The contracts once more, in one form: an api.Int that counts z. -/
import Derived.Test.YthgbgoidnnfapaaDoorLawA
namespace Go.Proofs.YthgbgoidnnfapaaDoor
open Go.RowKit Go.Shelf

/-- an api.Int of a bearable length that counts z -/
def IntNum (w : World) (V : Value) (z : Int) : Prop := ∃ neg xs, IntArg w V neg xs ∧ cnt neg xs = z ∧ xs.length ≤ 900000
def lenI (z : Int) : Nat := (dig z.natAbs).length
theorem IntNum.below {w w' : World} {V : Value} {z : Int} (h : IntNum w V z) (hk : Keeps w w') : IntNum w' V z := by
  obtain ⟨neg, xs, h, e, hl⟩ := h
  exact ⟨neg, xs, h.below hk, e, hl⟩
theorem IntRep.num {w : World} {V : Value} {z : Int} (h : IntRep w V z) (hl : lenI z ≤ 900000) : IntNum w V z := ⟨_, _, h.arg, cnt_rep z, hl⟩
theorem IntRep.drew {w : World} {V : Value} {z : Int} (h : IntRep w V z) : IntRep w.drew V z := h
theorem IntNum.drew {w : World} {V : Value} {z : Int} (h : IntNum w V z) : IntNum w.drew V z := h
theorem lenI_add (a b : Int) : lenI (a + b) ≤ max (lenI a) (lenI b) + 1 := rep_add_length a b
theorem lenI_sub (a b : Int) : lenI (a - b) ≤ max (lenI a) (lenI b) + 1 := rep_sub_length a b
theorem lenI_mul (a b : Int) : lenI (a * b) ≤ lenI a + lenI b := by
  unfold lenI
  rw [Int.natAbs_mul]
  exact dig_length_mul _ _
theorem lenI_neg (a : Int) : lenI (-a) = lenI a := by unfold lenI; rw [Int.natAbs_neg]
theorem lenI_cnt (neg : Bool) (xs : List Nat) : lenI (cnt neg xs) ≤ xs.length := cnt_length neg xs

section
variable {V1 V2 : Value} {x y : Int} {w : World}
def Gives (z : Int) (w : World) (e : Ending) (w' : World) : Prop := ∃ V, e = .returned V ∧ IntRep w' V z ∧ Keeps w w'
theorem add_num (h1 : IntNum w V1 x) (h2 : IntNum w V2 y) : Calls Tryd.prog 18 #[V1, V2] w (Gives (x + y) w) := by
  obtain ⟨n1, xs, h1, rfl, l1⟩ := h1
  obtain ⟨n2, ys, h2, rfl, l2⟩ := h2
  exact add_any n1 n2 xs ys V1 V2 w h1 h2 (by omega) (by omega)
theorem sub_num (h1 : IntNum w V1 x) (h2 : IntNum w V2 y) : Calls Tryd.prog 19 #[V1, V2] w (Gives (x - y) w) := by
  obtain ⟨n1, xs, h1, rfl, l1⟩ := h1
  obtain ⟨n2, ys, h2, rfl, l2⟩ := h2
  exact sub_any n1 n2 xs ys V1 V2 w h1 h2 (by omega) (by omega)
theorem mul_num (h1 : IntNum w V1 x) (h2 : IntNum w V2 y) : Calls Tryd.prog 20 #[V1, V2] w (Gives (x * y) w) := by
  obtain ⟨n1, xs, h1, rfl, l1⟩ := h1
  obtain ⟨n2, ys, h2, rfl, l2⟩ := h2
  exact mul_any n1 n2 xs ys V1 V2 w h1 h2 (by omega) (by omega)
theorem radd_num (h1 : IntNum w V1 x) (h2 : IntNum w V2 y) : Calls Tryd.prog 21 #[V1, V2] w (Gives (x + y) w) := by
  obtain ⟨n1, xs, h1, rfl, l1⟩ := h1
  obtain ⟨n2, ys, h2, rfl, l2⟩ := h2
  exact radd_any n1 n2 xs ys V1 V2 w h1 h2 (by omega) (by omega)
theorem rsub_num (h1 : IntNum w V1 x) (h2 : IntNum w V2 y) : Calls Tryd.prog 22 #[V1, V2] w (Gives (x - y) w) := by
  obtain ⟨n1, xs, h1, rfl, l1⟩ := h1
  obtain ⟨n2, ys, h2, rfl, l2⟩ := h2
  exact rsub_any n1 n2 xs ys V1 V2 w h1 h2 (by omega) (by omega)
theorem rmul_num (h1 : IntNum w V1 x) (h2 : IntNum w V2 y) : Calls Tryd.prog 23 #[V1, V2] w (Gives (x * y) w) := by
  obtain ⟨n1, xs, h1, rfl, l1⟩ := h1
  obtain ⟨n2, ys, h2, rfl, l2⟩ := h2
  exact rmul_any n1 n2 xs ys V1 V2 w h1 h2 (by omega) (by omega)
theorem rvalue_num (h1 : IntNum w V1 x) : Calls Tryd.prog 24 #[V1] w (Gives x w) := by
  obtain ⟨n1, xs, h1, rfl, l1⟩ := h1
  exact rvalue_any n1 xs V1 w h1 (by omega)
theorem neg_num (h1 : IntNum w V1 x) : Calls Tryd.prog 31 #[V1] w (Gives (-x) w) := by
  obtain ⟨n1, xs, h1, rfl, l1⟩ := h1
  exact neg_any n1 xs V1 w h1 (by omega)
theorem rneg_num (h1 : IntNum w V1 x) : Calls Tryd.prog 32 #[V1] w (Gives (-x) w) := by
  obtain ⟨n1, xs, h1, rfl, l1⟩ := h1
  exact rneg_any n1 xs V1 w h1 (by omega)
theorem abs_num (h1 : IntNum w V1 x) : Calls Tryd.prog 33 #[V1] w (Gives x.natAbs w) := by
  obtain ⟨n1, xs, h1, rfl, l1⟩ := h1
  exact abs_any n1 xs V1 w h1 (by omega)
theorem rabs_num (h1 : IntNum w V1 x) : Calls Tryd.prog 34 #[V1] w (Gives x.natAbs w) := by
  obtain ⟨n1, xs, h1, rfl, l1⟩ := h1
  exact rabs_any n1 xs V1 w h1 (by omega)
theorem sign_num (h1 : IntNum w V1 x) : Calls Tryd.prog 26 #[V1] w fun e w' => e = .returned (.int .i64 x.sign) ∧ Keeps w w' := by
  obtain ⟨n1, xs, h1, rfl, l1⟩ := h1
  exact sign_any n1 xs V1 w h1 (by omega)
theorem rsign_num (h1 : IntNum w V1 x) : Calls Tryd.prog 30 #[V1] w fun e w' => e = .returned (.int .i64 x.sign) ∧ Keeps w w' := by
  obtain ⟨n1, xs, h1, rfl, l1⟩ := h1
  exact rsign_any n1 xs V1 w h1 (by omega)
theorem rcompare_num (h1 : IntNum w V1 x) (h2 : IntNum w V2 y) : Calls Tryd.prog 27 #[V1, V2] w fun e w' => e = .returned (.int .i64 (x - y).sign) ∧ Keeps w w' := by
  obtain ⟨n1, xs, h1, rfl, l1⟩ := h1
  obtain ⟨n2, ys, h2, rfl, l2⟩ := h2
  exact rcompare_any n1 n2 xs ys V1 V2 w h1 h2 (by omega) (by omega)
theorem compare_num (h1 : IntNum w V1 x) (h2 : IntNum w V2 y) : Calls Tryd.prog 25 #[V1, V2] w fun e w' => e = .returned (.int .i64 (x - y).sign) ∧ Keeps w w' := by
  obtain ⟨n1, xs, h1, rfl, l1⟩ := h1
  obtain ⟨n2, ys, h2, rfl, l2⟩ := h2
  exact compareI_any n1 n2 xs ys V1 V2 w h1 h2 (by omega) (by omega)
theorem same_num (h1 : IntRep w V1 x) (h2 : IntRep w V2 y) (e : x = y) (hl : lenI x ≤ 900000) : Calls Tryd.prog 15 #[V1, V2] w fun e w' => e = .returned (.bool true) ∧ Keeps w w' := by
  subst e
  exact lsame_eq V1 V2 x w h1 h2 (by unfold lenI at hl; omega)
end
end Go.Proofs.YthgbgoidnnfapaaDoor
