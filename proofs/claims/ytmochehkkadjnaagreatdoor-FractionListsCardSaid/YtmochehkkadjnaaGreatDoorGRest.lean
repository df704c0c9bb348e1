/- The walks of the reference's Abs, Divide, Floor, Ceil, Zero; of the laws' helper same. -/
import Derived.Test.YtmochehkkadjnaaGreatDoorMgLawF
namespace Go.Proofs.YtmochehkkadjnaaGreatDoor
open Go.RowKit Go.Shelf

set_option maxRecDepth 100000 in
theorem gzero_s {w : World} : Calls Tryz.prog 39 #[.agg #[.bool false, .slice none 0 0, .bool false, .slice none 0 0]] w fun e w' => e = .returned (.bool true) ∧ Keeps w w' := by
  have S := (St.start w).alloc 28 [.bool false, .slice none 0 0, .bool false, .slice none 0 0]
  go_enter Tryz.func39, Tryz.ntmps39
  go_upto_region 1 with fail
  obtain ⟨W1, eW, S⟩ := S.pack
  rw [eW]
  clear eW
  have r0_0 := S.c 0 0 rfl rfl
  have r0_1 := S.c 0 1 rfl rfl
  have r0_2 := S.c 0 2 rfl rfl
  have r0_3 := S.c 0 3 rfl rfl
  go_wp2
  go_ret
  exact ⟨rfl, S.k⟩
set_option maxRecDepth 100000 in
set_option maxHeartbeats 1000000 in
theorem lsame_ok {w : World} {V1 V2 : Value} {x y : Rat} (h1 : RatRep w V1 x) (h2 : RatRep w V2 y) (zl : szR x + szR y ≤ 99999) (hxy : decide (x = y) = true) : Calls Tryz.prog 20 #[V1, .int .i64 0, V2, .int .i64 0] w (fun e w' => e = .returned (.bool true) ∧ Keeps w w') := by
  obtain ⟨b3, A3, n3, c3, d3, B3, m3, e3, rfl⟩ := h1.open_
  obtain ⟨b4, A4, n4, c4, d4, B4, m4, e4, rfl⟩ := h2.open_
  have HXY := Lib.hid hxy
  clear hxy
  have S := (((St.start w).addQ h1).addQ h2)
  clear h1 h2
  go_enter Tryz.func20, Tryz.ntmps20
  go_upto_region 1 with fail
  replace S := ((S.alloc 28 [.bool b3, .slice A3 n3 c3, .bool d3, .slice B3 m3 e3]).alloc 28 [.bool b4, .slice A4 n4 c4, .bool d4, .slice B4 m4 e4])
  simp only [World.size_alloc] at S
  obtain ⟨W1, eW, S⟩ := S.pack
  rw [eW]
  clear eW
  have r0_0 := S.c 1 0 rfl rfl
  have r0_1 := S.c 1 1 rfl rfl
  have r0_2 := S.c 1 2 rfl rfl
  have r0_3 := S.c 1 3 rfl rfl
  have r1_0 := S.c 0 0 rfl rfl
  have r1_1 := S.c 0 1 rfl rfl
  have r1_2 := S.c 0 2 rfl rfl
  have r1_3 := S.c 0 3 rfl rfl
  go_wp2_with fail
  refine ((gsame_s (b := true) (S.qi 1 rfl) (S.qi 0 rfl) (by omega) HXY.out)).mono ?_
  rintro e W2 ⟨rfl, hk⟩
  replace S := S.below hk
  clear hk
  clear r0_0 r0_1 r0_2 r0_3 r1_0 r1_1 r1_2 r1_3
  go_wp2
  go_ret
  exact ⟨rfl, S.k⟩
set_option maxRecDepth 100000 in
set_option maxHeartbeats 1000000 in
theorem lsame_err {w : World} {c : Int} (hc : c ≠ 0) : Calls Tryz.prog 20 #[.agg #[.bool false, .slice none 0 0, .bool false, .slice none 0 0], .int .i64 c, .agg #[.bool false, .slice none 0 0, .bool false, .slice none 0 0], .int .i64 c] w (fun e w' => e = .returned (.bool true) ∧ Keeps w w') := by
  have t1 : (c == 0) = false := by simpa using hc
  have t2 : (c != 0) = true := by simpa using hc
  have S := (St.start w)
  go_enter Tryz.func20, Tryz.ntmps20
  go_upto_region 1 with fail
  replace S := ((S.alloc 28 [.bool false, .slice none 0 0, .bool false, .slice none 0 0]).alloc 28 [.bool false, .slice none 0 0, .bool false, .slice none 0 0])
  simp only [World.size_alloc] at S
  obtain ⟨W1, eW, S⟩ := S.pack
  rw [eW]
  clear eW
  have r0_0 := S.c 1 0 rfl rfl
  have r0_1 := S.c 1 1 rfl rfl
  have r0_2 := S.c 1 2 rfl rfl
  have r0_3 := S.c 1 3 rfl rfl
  go_wp2_with fail
  refine ((gzero_s)).mono ?_
  rintro e W2 ⟨rfl, hk⟩
  replace S := S.below hk
  clear hk
  clear r0_0 r0_1 r0_2 r0_3
  go_wp2
  go_ret
  exact ⟨rfl, S.k⟩
end Go.Proofs.YtmochehkkadjnaaGreatDoor
