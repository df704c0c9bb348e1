/- The law FractionMakes: raw fractions; too long arguments. -/
import Derived.Test.YtmochehkkadjnaaGreatDoorGRest
import Derived.Test.YtmochehkkadjnaaGreatDoorMgStab
import Derived.Test.YtmochehkkadjnaaGreatDoorStab2
namespace Go.Proofs.YtmochehkkadjnaaGreatDoor
open Go.RowKit Go.Shelf

theorem lenI_w64 {z : Int} (h : -9223372036854775808 ≤ z ∧ z ≤ 9223372036854775807) : lenI z ≤ 3 := dig_length_le (n := z.natAbs) (k := 3) (by omega)
theorem IntArg.open2 {w : World} {V : Value} {neg : Bool} {xs : List Nat} (h : IntArg w V neg xs) : ∃ A c, V = .agg #[.bool neg, .slice A xs.length c] := by
  obtain ⟨v, rfl, h1⟩ := h
  obtain ⟨A, n, c, rfl, rfl, -⟩ := h1.open_
  exact ⟨A, c, rfl⟩
theorem IntArg.n4 {w : World} {V : Value} {neg : Bool} {xs : List Nat} (h : IntArg w V neg xs) (hl : xs.length ≤ 400000) : IntNum4 w V (cnt neg xs) := ⟨neg, xs, h, rfl, hl⟩
/-- any api.Rat of a bearable length: what it counts as, and whether it is valid -/
def RatV (w : World) (V : Value) (q : Rat) (b : Bool) : Prop := ∃ n1 xs n2 ys, RatArg w V n1 xs n2 ys ∧ rcnt n1 xs n2 ys = q ∧ rvalidB n1 xs n2 ys = b ∧ xs.length ≤ 100000 ∧ ys.length ≤ 100000
section
variable {w w' w0 : World} {V x v y u : Value} {q : Rat} {b n1 n2 : Bool} {xs ys : List Nat} {bs : List Bx} {ps : List (World → Prop)}
theorem RatV.map (h : RatV w V q b) (hs : Same32 w w') : RatV w' V q b := by
  obtain ⟨n1, xs, n2, ys, h, r⟩ := h
  exact ⟨n1, xs, n2, ys, h.map hs, r⟩
theorem RatV.num (h : RatV w V q b) : RatNum w V q := by
  obtain ⟨n1, xs, n2, ys, h, e, -, l1, l2⟩ := h
  exact ⟨n1, xs, n2, ys, h, e, l1, l2⟩
theorem RatV.mk (h1 : IntArg w (.agg #[x, v]) n1 xs) (h2 : IntArg w (.agg #[y, u]) n2 ys) (e1 : rcnt n1 xs n2 ys = q) (e2 : rvalidB n1 xs n2 ys = b) (l1 : xs.length ≤ 100000) (l2 : ys.length ≤ 100000) : RatV w (.agg #[x, v, y, u]) q b :=
  ⟨n1, xs, n2, ys, ⟨x, v, y, u, rfl, h1, h2⟩, e1, e2, l1, l2⟩
theorem St.addV (S : St w0 w bs ps) (h : RatV w V q b) : St w0 w bs ((fun w => RatV w V q b) :: ps) := S.add (fun _ _ hs h => h.map hs) h
theorem St.vi (S : St w0 w bs ps) (i : Nat) (h : ps[i]? = some (fun w => RatV w V q b)) : RatV w V q b := S.p.get h
end
theorem fvalid_v {w : World} {V : Value} {q : Rat} {b : Bool} (h : RatV w V q b) : Calls Tryz.prog 24 #[V] w fun e w' => e = .returned (.bool b) ∧ Keeps w w' := by
  obtain ⟨n1, xs, n2, ys, h, -, rfl, l1, l2⟩ := h
  exact fvalid_any h l1 l2
theorem gvalid_v {w : World} {V : Value} {q : Rat} {b : Bool} (h : RatV w V q b) : Calls Tryz.prog 25 #[V] w fun e w' => e = .returned (.bool b) ∧ Keeps w w' := by
  obtain ⟨n1, xs, n2, ys, h, -, rfl, l1, l2⟩ := h
  exact gvalid_any h l1 l2
set_option maxRecDepth 100000 in
set_option maxHeartbeats 1000000 in
theorem mk_long {w : World} {V1 V2 : Value} {na nb : Bool} {xs ys : List Nat} {n0 n1 : Int} (h1 : IntArg w V1 na xs) (h2 : IntArg w V2 nb ys) (ht : PowTab w) (l1 : 8 < xs.length + ys.length) (l2 : xs.length ≤ 35184372088832) (l3 : ys.length ≤ 35184372088832) : Calls Tryz.prog 3 #[V1, V2, .agg #[.int .i64 n0, .int .i64 n1]] w (fun e w' => e = .returned (.bool true) ∧ Keeps w w') := by
  obtain ⟨A3, c3, rfl⟩ := h1.open2
  obtain ⟨A4, c4, rfl⟩ := h2.open2
  have q0 : IntKind.i64.wrap ((xs.length : Int) + (ys.length : Int)) = (xs.length : Int) + (ys.length : Int) := IntWalk.i64_in _ (by omega)
  have t1 : decide (8 < (xs.length : Int) + (ys.length : Int)) = true := decide_eq_true (by omega)
  clear l1 l2 l3
  have S := (((St.start w).addA h1).addA h2)
  clear h1 h2
  go_enter Tryz.func3, Tryz.ntmps3
  go_wp2_with fail
  replace S := (((S.alloc 24 [.bool na, .slice A3 xs.length c3]).alloc 24 [.bool nb, .slice A4 ys.length c4]).alloc 25 [.int .i64 n0, .int .i64 n1])
  simp only [World.size_alloc] at S
  obtain ⟨W1, eW, S⟩ := S.pack
  rw [eW]
  clear eW
  refine ((known_any _ (ht.keep S.k))).mono ?_
  rintro e W2 ⟨rfl, hk⟩
  replace S := S.below hk
  clear hk
  have r0_0 := S.c 2 0 rfl rfl
  have r0_1 := S.c 2 1 rfl rfl
  have r1_0 := S.c 1 0 rfl rfl
  have r1_1 := S.c 1 1 rfl rfl
  go_wp2
  go_ret
  exact ⟨rfl, S.k⟩
end Go.Proofs.YtmochehkkadjnaaGreatDoor
