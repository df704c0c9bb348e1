/- The laws' helpers short, same, Zero; the reference's Abs, Divide. The walk of fraction.Abs. -/
import Derived.Test.YtmochehkkadjnaaGreatDoorKnown
import Derived.Test.YtmochehkkadjnaaGreatDoorMgSt2
namespace Go.Proofs.YtmochehkkadjnaaGreatDoor
open Go.RowKit Go.Shelf

theorem RatArg.open2 {w : World} {V : Value} {n1 n2 : Bool} {xs ys : List Nat} (h : RatArg w V n1 xs n2 ys) : ∃ A c B d, V = .agg #[.bool n1, .slice A xs.length c, .bool n2, .slice B ys.length d] := by
  obtain ⟨x, v, y, u, rfl, ⟨v1, e1, h1⟩, ⟨v2, e2, h2⟩⟩ := h
  cases e1; cases e2
  obtain ⟨A, n, c, rfl, rfl, -⟩ := h1.open_
  obtain ⟨B, m, d, rfl, rfl, -⟩ := h2.open_
  exact ⟨A, c, B, d, rfl⟩
def RatS (w : World) (V : Value) (q : Rat) (b : Bool) : Prop :=
  ∃ n1 xs n2 ys, RatArg w V n1 xs n2 ys ∧ rcnt n1 xs n2 ys = q ∧ decide (xs.length + ys.length ≤ 8) = b ∧ xs.length ≤ 35184372088832 ∧ ys.length ≤ 35184372088832
section
variable {w w' w0 : World} {V : Value} {q : Rat} {b : Bool} {bs : List Bx} {ps : List (World → Prop)}
theorem RatArg.map {n1 n2 : Bool} {xs ys : List Nat} (h : RatArg w V n1 xs n2 ys) (hs : Same32 w w') : RatArg w' V n1 xs n2 ys := by
  obtain ⟨x, v, y, u, rfl, ⟨v1, e1, h1⟩, ⟨v2, e2, h2⟩⟩ := h
  exact ⟨_, _, _, _, rfl, ⟨v1, e1, hs _ _ h1⟩, ⟨v2, e2, hs _ _ h2⟩⟩
theorem RatS.map (h : RatS w V q b) (hs : Same32 w w') : RatS w' V q b := by
  obtain ⟨n1, xs, n2, ys, h, r⟩ := h
  exact ⟨n1, xs, n2, ys, h.map hs, r⟩
theorem RatS.num (h : RatS w V q true) : RatNum w V q := by
  obtain ⟨n1, xs, n2, ys, h, e, hb, -, -⟩ := h
  have := of_decide_eq_true hb
  exact ⟨n1, xs, n2, ys, h, e, by omega, by omega⟩
theorem RatS.sz (h : RatS w V q true) : szR q ≤ 8 := by
  obtain ⟨n1, xs, n2, ys, h, rfl, hb, -, -⟩ := h
  have := of_decide_eq_true hb
  have := szR_rcnt (n1 := n1) (xs := xs) (n2 := n2) (ys := ys)
  omega
theorem RatS.open_ (h : RatS w V q b) : ∃ b A n c d B m e, V = .agg #[.bool b, .slice A n c, .bool d, .slice B m e] := by
  obtain ⟨n1, xs, n2, ys, h, -⟩ := h
  obtain ⟨A, c, B, d, rfl⟩ := h.open2
  exact ⟨_, _, _, _, _, _, _, _, rfl⟩
end
set_option maxRecDepth 100000 in
theorem rdigs_any {w : World} {b d : Bool} {A B : Option Addr} {n m c e : Nat} (hn : n ≤ 35184372088832) (hm : m ≤ 35184372088832) :
    Calls Tryz.prog 91 #[.agg #[.bool b, .slice A n c, .bool d, .slice B m e]] w fun e w' => e = .returned (.int .i64 ((n : Int) + (m : Int))) ∧ Keeps w w' := by
  have S := (St.start w).alloc 28 [.bool b, .slice A n c, .bool d, .slice B m e]
  go_enter Tryz.func91, Tryz.ntmps91
  go_upto_region 1 with fail
  obtain ⟨W1, eW, S⟩ := S.pack
  rw [eW]
  clear eW
  have r0_1 := S.c 0 1 rfl rfl
  have r0_3 := S.c 0 3 rfl rfl
  go_wp2
  go_ret
  exact ⟨rfl, S.k⟩
end Go.Proofs.YtmochehkkadjnaaGreatDoor

namespace Go.Proofs.YtmochehkkadjnaaGreatDoor
open Go.RowKit Go.Shelf

end Go.Proofs.YtmochehkkadjnaaGreatDoor
