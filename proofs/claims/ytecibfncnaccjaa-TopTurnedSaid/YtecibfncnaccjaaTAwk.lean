/- dTurnedAwake: walked. -/
import Derived.Test.YtecibfncnaccjaaTEq
import Derived.Test.YtecibfncnaccjaaTOff
namespace Go.Proofs.Ytecibfncnaccjaa
open Go.RowKit Go.Shelf
theorem row_of_own {w : World} {b : Nat} {t : TypeId} {l : List Int} (h : Own w b t (l.map (fun x => Value.int .i64 x))) : IRow w (some ⟨b, 0, none⟩) l := fun hp => by
  refine ⟨b, 0, rfl, h.lt, fun j hj => ?_⟩
  rw [Nat.zero_add, h.cell j]
  simp [iv, List.getD, hj]
set_option maxRecDepth 100000 in
set_option maxHeartbeats 2000000 in
theorem awake_any (w : World) : Calls Try.prog 4 #[] w fun e w' => e = .returned (.bool true) ∧ Keeps w w' := by
  obtain ⟨W1, hW1⟩ : ∃ W1, w.alloc (.cells #[.int .i64 1, .int .i64 2] 3) = W1 := ⟨_, rfl⟩
  have hk1 : Keeps w W1 := hW1 ▸ box2 w _
  have q1 : Own W1 w.heap.size 3 ([1, 2].map (fun x => Value.int .i64 x)) := hW1 ▸ Own.new w 3 [.int .i64 1, .int .i64 2]
  have hv : rasC ((2 : Nat) : Int) ((1 : Nat) : Int) 9 [1, 2] = 0 := by decide
  have HT : Hid (Calls Try.prog 8 #[.agg #[.int .i64 2, .int .i64 1, .int .i64 9, .slice (some ⟨w.heap.size, 0, none⟩) 2 2]] W1 (GivesRas0 1 2 9 [2, 1] W1)) := Lib.hid (turn_any (c := 2) (W := 2) (H := 1) (row_of_own q1) hv)
  have hv2 : rasC ((1 : Nat) : Int) ((2 : Nat) : Int) 9 [2, 1] = 0 := by decide
  clear q1 hv
  go_enter Try.func4, Try.ntmps4
  go_wp2_with fail
  refine HT.out.mono ?_
  rintro e w2 ⟨A, c, rfl, hr2, hk2, -⟩
  obtain ⟨W3, hW3⟩ : ∃ W3, w2.alloc (.cells #[.int .i64 1, .int .i64 2, .int .i64 9, .slice A 2 c] 24) = W3 := ⟨_, rfl⟩
  have hk3 : Keeps w2 W3 := hW3 ▸ box2 w2 _
  have q3 : Own W3 w2.heap.size 24 [.int .i64 1, .int .i64 2, .int .i64 9, .slice A 2 c] := hW3 ▸ Own.new w2 _ _
  have HS : Hid (Calls Try.prog 6 #[.agg #[.int .i64 1, .int .i64 2, .int .i64 9, .slice A 2 c]] W3 fun e w' => ∃ A c, e = .returned (.tuple #[.slice A 2 c, .int .i64 0]) ∧ Keeps W3 w') := Lib.hid (by
    refine (scoresC_any (c := c) (W := 1) (H := 2) (hr2.below hk3) hv2 (by decide)).mono ?_
    rintro e w' ⟨A', c', rfl, -, hk⟩
    exact ⟨A', c', by rw [show (scoL 1 2 [2, 1]).length = 2 from madeL_length _ _ _], hk⟩)
  have HR2 := Lib.hid (hr2.below hk3)
  clear hr2 hv2
  have x0 := q3.cell 0
  have x1 := q3.cell 1
  have x2 := q3.cell 2
  have x3 := q3.cell 3
  simp only [List.getElem?_cons_zero, List.getElem?_cons_succ] at x0 x1 x2 x3
  go_wp2_with fail
  refine HS.out.mono ?_
  rintro e w4 ⟨A4, c4, rfl, hk4⟩
  have q4 := q3.below hk4
  have y3 := q4.cell 3
  simp only [List.getElem?_cons_zero, List.getElem?_cons_succ] at y3
  obtain ⟨W5, hW5⟩ : ∃ W5, w4.alloc (.cells #[.int .i64 2, .int .i64 1] 3) = W5 := ⟨_, rfl⟩
  have hk5 : Keeps w4 W5 := hW5 ▸ box2 w4 _
  have q5 : Own W5 w4.heap.size 3 ([2, 1].map (fun x => Value.int .i64 x)) := hW5 ▸ Own.new w4 3 [.int .i64 2, .int .i64 1]
  have HE := Lib.hid (equalQ_any (c := c) (d := 2) (HR2.out.below (hk4.trans' hk5)) (row_of_own q5) (n := 2) (m := 2) rfl rfl (by decide) (by decide))
  rw [show decide ([2, 1] = [2, (1 : Int)]) = true from rfl] at HE
  clear x0 x1 x2 x3 q3 q4 q5
  go_wp2_with fail
  refine HE.out.mono ?_
  rintro e w6 ⟨rfl, q, rfl⟩
  go_wp2
  go_ret
  exact ⟨rfl, below_drewN ((((hk1.trans' hk2).trans' hk3).trans' hk4).trans' hk5) _⟩
end Go.Proofs.Ytecibfncnaccjaa
