/- The walk of the reference's tens. -/
import Derived.Test.YtmochehkkadjnaaGreatDoorGRest
import Derived.Test.YtmochehkkadjnaaGreatDoorMgStab
import Derived.Test.YtmochehkkadjnaaGreatDoorMgFNear
namespace Go.Proofs.YtmochehkkadjnaaGreatDoor
open Go.RowKit Go.Shelf

theorem rpower_small {w : World} {V : Value} {z : Int} {n : Int} (h : IntRep w V z) (hn : 0 ≤ n) (hn2 : n ≤ 4096) (hd : n * (dgs z.natAbs : Nat) ≤ 20000) (hl : lenI z ≤ 900000) :
    Calls Tryz.prog 153 #[V, .int .i64 n] w fun e w' => ∃ Q, e = .returned (.tuple #[Q, .int .i64 0]) ∧ IntRep w' Q (z ^ n.toNat) ∧ Keeps w w' := by
  have := rpower_any _ _ V n w h.arg hl (by omega) (by omega)
  rw [cnt_rep] at this
  have hc : powC z n = 0 := by
    unfold powC
    rw [if_neg (by omega), if_neg (by omega)]
  rwa [hc, show powZ z n = z ^ n.toNat from if_pos hc] at this
set_option maxRecDepth 100000 in
set_option maxHeartbeats 1000000 in
theorem gtens_num {w : World} (n : Int) (h0 : 0 ≤ n) (h1 : n ≤ 100) : Calls Tryz.prog 113 #[.int .i64 n] w (Gives (10 ^ n.toNat) w) := by
  have S := (St.start w)
  go_enter Tryz.func113, Tryz.ntmps113
  go_wp2_with fail
  replace S := (S.alloc 24 [.bool false, .slice none 0 0])
  obtain ⟨W1, eW, S⟩ := S.pack
  rw [eW]
  clear eW
  refine ((whole_int 10 (by omega) (by omega))).mono ?_
  rintro e W2 ⟨U2, rfl, hp, hk⟩
  obtain ⟨b3, A3, n3, c3, rfl⟩ := hp.open3
  replace S := (S.below hk).addI hp
  clear hk hp
  go_wp2_with fail
  refine ((rpower_small (S.ii 0 rfl) h0 (by omega) (by rw [show (10 : Int).natAbs = 10 from rfl, dgs_ten2]; omega) (Nat.le_trans (dig_length_le (n := (10 : Int).natAbs) (k := 1) (by decide)) (by omega)))).mono ?_
  rintro e W3 ⟨U3, rfl, hp, hk⟩
  obtain ⟨b4, A4, n4, c4, rfl⟩ := hp.open3
  replace S := (S.below hk).addI hp
  clear hk hp
  go_upto_region 2 with fail
  replace S := (S.alloc 24 [.bool b4, .slice A4 n4 c4])
  obtain ⟨W4, eW, S⟩ := S.pack
  rw [eW]
  clear eW
  generalize W3.heap.size = P1 at *
  have r0_0 := S.c 1 0 rfl rfl
  have f0_0 := S.f 1 0 rfl
  have r0_1 := S.c 1 1 rfl rfl
  have f0_1 := S.f 1 1 rfl
  have r1_0 := S.c 0 0 rfl rfl
  have r1_1 := S.c 0 1 rfl rfl
  go_wp2
  replace S := (S.put2 1 rfl rfl rfl (x' := .bool b4) (y' := .slice A4 n4 c4))
  refine bodyPost_ret (v := .agg #[.bool b4, .slice A4 n4 c4]) (by simp [results, Tryz.results113, go_sem, S.c 1 0 rfl rfl, S.c 1 1 rfl rfl]) rfl ?_
  exact ⟨_, rfl, S.ii 0 rfl, S.k⟩
end Go.Proofs.YtmochehkkadjnaaGreatDoor
