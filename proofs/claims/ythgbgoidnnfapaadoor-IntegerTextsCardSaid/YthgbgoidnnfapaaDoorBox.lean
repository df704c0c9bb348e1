/- Boxes of integers and integers, listed. -/
import Derived.Test.YthgbgoidnnfapaaDoorLawC
import Derived.Test.YthgbgoidnnfapaaDoorPhi
namespace Go.Proofs.YthgbgoidnnfapaaDoor
open Go.RowKit Go.Shelf

/-- boxes of two cells -/
def Boxes (w : World) (t : TypeId) : List (Nat × Value × Value) → Prop
  | [] => True
  | p :: l => Own w p.1 t [p.2.1, p.2.2] ∧ Boxes w t l
theorem Boxes.below {w w' : World} {t : TypeId} (hk : Keeps w w') : ∀ {l : List (Nat × Value × Value)}, Boxes w t l → Boxes w' t l
  | [], _ => trivial
  | _ :: _, h => ⟨h.1.below hk, Boxes.below hk h.2⟩
theorem Boxes.drew {w : World} {t : TypeId} : ∀ {l : List (Nat × Value × Value)}, Boxes w t l → Boxes w.drew t l
  | [], _ => trivial
  | _ :: _, h => ⟨h.1, Boxes.drew h.2⟩
theorem Boxes.o {w : World} {t : TypeId} {b : Nat} {x y : Value} {l : List (Nat × Value × Value)} (h : Boxes w t ((b, x, y) :: l)) : Own w b t [x, y] := h.1
theorem Boxes.c0 {w : World} {t : TypeId} {b : Nat} {x y : Value} {l : List (Nat × Value × Value)} (h : Boxes w t ((b, x, y) :: l)) : w.cell? ⟨b, 0, none⟩ = some x := h.1.c0
theorem Boxes.c1 {w : World} {t : TypeId} {b : Nat} {x y : Value} {l : List (Nat × Value × Value)} (h : Boxes w t ((b, x, y) :: l)) : w.cell? ⟨b, 1, none⟩ = some y := h.1.c1
theorem Boxes.tl {w : World} {t : TypeId} {p : Nat × Value × Value} {l : List (Nat × Value × Value)} (h : Boxes w t (p :: l)) : Boxes w t l := h.2
/-- integers of a bearable length -/
def Ints (w : World) : List (Value × Int) → Prop
  | [] => True
  | p :: l => IntNum w p.1 p.2 ∧ Ints w l
theorem Ints.below {w w' : World} (hk : Keeps w w') : ∀ {l : List (Value × Int)}, Ints w l → Ints w' l
  | [], _ => trivial
  | _ :: _, h => ⟨h.1.below hk, Ints.below hk h.2⟩
theorem Ints.drew {w : World} : ∀ {l : List (Value × Int)}, Ints w l → Ints w.drew l
  | [], _ => trivial
  | _ :: _, h => ⟨h.1.drew, Ints.drew h.2⟩
theorem Ints.h {w : World} {V : Value} {z : Int} {l : List (Value × Int)} (h : Ints w ((V, z) :: l)) : IntNum w V z := h.1
theorem Ints.tl {w : World} {p : Value × Int} {l : List (Value × Int)} (h : Ints w (p :: l)) : Ints w l := h.2
theorem gives_eq {P : Program} {F : FuncId} {args : Array Value} {w : World} {z z' : Int} (h : Calls P F args w (Gives z w)) (e : z = z') : Calls P F args w (Gives z' w) := by subst e; exact h
theorem sign_s {w : World} {V : Value} {x s : Int} (h : IntNum w V x) (e : x.sign = s) : Calls Tryd.prog 26 #[V] w fun e w' => e = .returned (.int .i64 s) ∧ Keeps w w' := by subst e; exact sign_num h
theorem rsign_s {w : World} {V : Value} {x s : Int} (h : IntNum w V x) (e : x.sign = s) : Calls Tryd.prog 30 #[V] w fun e w' => e = .returned (.int .i64 s) ∧ Keeps w w' := by subst e; exact rsign_num h
theorem icompare_s {w : World} {V1 V2 : Value} {x y s : Int} (h1 : IntNum w V1 x) (h2 : IntNum w V2 y) (e : (x - y).sign = s) : Calls Tryd.prog 25 #[V1, V2] w fun e w' => e = .returned (.int .i64 s) ∧ Keeps w w' := by subst e; exact compare_num h1 h2
theorem lenI_abs (x : Int) : lenI (x.natAbs : Int) = lenI x := by unfold lenI; rw [Int.natAbs_natCast]
theorem lenI_mono {x y : Int} (h : x.natAbs ≤ y.natAbs) : lenI x ≤ lenI y := dig_length_mono h
end Go.Proofs.YthgbgoidnnfapaaDoor
