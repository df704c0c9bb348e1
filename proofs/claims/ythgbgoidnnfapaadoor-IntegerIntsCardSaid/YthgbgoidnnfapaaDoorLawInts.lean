/- The walk of the law IntegerInts. -/
import Derived.Test.YthgbgoidnnfapaaDoorLawC
import Derived.Test.YthgbgoidnnfapaaDoorRSmall
namespace Go.Proofs.YthgbgoidnnfapaaDoor
open Go.RowKit Go.Shelf

theorem same_rep {w : World} {V1 V2 : Value} {z : Int} (h1 : IntRep w V1 z) (h2 : IntRep w V2 z) (hl : lenI z ≤ 900000) : Calls Tryd.prog 15 #[V1, V2] w fun e w' => e = .returned (.bool true) ∧ Keeps w w' := same_num h1 h2 rfl hl
theorem small_num {w : World} {V : Value} {z : Int} (h : IntNum w V z) : Calls Tryd.prog 14 #[V] w fun e w' => e = .returned (smallV z) ∧ Keeps w w' := by
  obtain ⟨n, xs, h, rfl, l⟩ := h
  exact small_any n xs V w h (by omega)
/-- Small's answer, as a pair -/
theorem smallV_pair (z : Int) : ∃ (m : Int) (b : Bool), smallV z = .tuple #[.int .i64 m, .bool b] := by
  unfold smallV; split
  · exact ⟨_, _, rfl⟩
  · exact ⟨_, _, rfl⟩

set_option maxRecDepth 100000 in
set_option maxHeartbeats 2000000 in
theorem ints_walk (i : Int) (n1 : Bool) (xs : List Nat) (V1 : Value) (w : World) (hkn : ∀ W, Keeps w W → KnownAt W) (h1 : IntArg w V1 n1 xs) (hi1 : -9223372036854775808 ≤ i) (hi2 : i ≤ 9223372036854775807)
    (hm1 : xs.length ≤ 9223372036854775807) :
    Calls Tryd.prog 3 #[.int .i64 i, V1] w fun e w' => e = .returned (.bool true) ∧ Keeps w w' := by
  obtain ⟨v1, rfl, hv1⟩ := h1
  have hkk := box2 w (.cells #[.bool n1, v1] 24)
  have hA := Own.new w 24 [.bool n1, v1]
  have hkn0 := Lib.hid (hkn _ hkk)
  have HO := Lib.hid (fun W => of_any i W hi1 hi2)
  have HR := Lib.hid (fun W => rof_any i W hi1 hi2)
  have HI := Lib.hid (And.intro hi1 hi2)
  clear hkn hi1 hi2
  go_enter Tryd.func3, Tryd.ntmps3
  go_wp2_with fail
  have g1 := hv1.below hkk
  generalize w.alloc (.cells #[.bool n1, v1] 24) = W at *
  refine (hkn0.out).mono ?_
  rintro e w1 ⟨rfl, hk1⟩
  have hA1 := hA.below hk1
  have a0 := hA1.c0
  have a1 := hA1.c1
  have k1 := hkk.trans' hk1
  have g1 := g1.below hk1
  obtain ⟨A1, p1, q1, rfl, e1, -⟩ := g1.open_
  have hsh := Lib.hid (short1 n1 A1 p1 q1 _ _ (Own.new w1 24 [.bool n1, .slice A1 p1 q1]) (by omega))
  cases hS : shortB [p1] with
  | false =>
    rw [hS] at hsh
    clear hS e1
    go_wp2_with fail
    refine hsh.out.mono ?_
    rintro e w2 ⟨rfl, hk2⟩
    go_wp2
    go_ret
    exact ⟨rfl, (k1.trans' (box2 _ _)).trans' hk2⟩
  | true =>
    rw [hS] at hsh
    have hl1 : xs.length ≤ 12 := by simp [shortB] at hS; omega
    clear hS e1
    go_wp2_with fail
    refine hsh.out.mono ?_
    rintro e w2 ⟨rfl, hk2⟩
    have hk2' : Keeps w1 w2 := (box2 _ _).trans' hk2
    have hA2 := hA1.below hk2'
    have f1 := g1.below hk2'
    have k2 := k1.trans' hk2'
    clear a0 a1
    go_wp2_with fail
    have hv : IntNum w2 (.agg #[.bool n1, .slice A1 p1 q1]) (cnt n1 xs) := ⟨_, _, ⟨_, rfl, f1⟩, rfl, by omega⟩
    clear f1 hsh hA1 k1 hk1 hkk hkn0 hA g1 hv1 hk2 hk2'
    generalize cnt n1 xs = x at *
    refine (HO.out _).mono ?_
    rintro e w3 ⟨V3, rfl, hr3, hk3⟩
    obtain ⟨A3, n3, c3, rfl, hv3⟩ := hr3.open_
    have kb := box2 w3 (.cells #[.bool (decide (i < 0)), .slice A3 n3 c3] 24)
    have hs := Lib.hid (small_num ((hr3.below kb).num (lenI_int HI.out)))
    rw [smallV_in HI.out] at hs
    have hY := Own.new w3 24 [.bool (decide (i < 0)), .slice A3 n3 c3]
    have hA3 := (hA2.below hk3).below kb
    have hv' := (hv.below hk3).below kb
    have k3 := (k2.trans' hk3).trans' kb
    have hr3' := hr3.below kb
    clear hv hA2 hv3 k2 hk3 kb hr3
    generalize decide (i < 0) = b at *
    go_wp2_with fail
    refine hs.out.mono ?_
    rintro e w4 ⟨rfl, hk4⟩
    have hY4 := hY.below hk4
    have hA4 := hA3.below hk4
    have hv4 := hv'.below hk4
    have hr4 := hr3'.below hk4
    have k4 := k3.trans' hk4
    clear hY hA3 hv' k3 hk4 hr3' hs
    have y0 := hY4.c0
    have y1 := hY4.c1
    have hne : (i != i) = false := by simp
    go_wp2
    replace hY4 := hY4.drew
    replace hA4 := hA4.drew
    replace hv4 := hv4.drew
    replace hr4 := hr4.drew
    replace k4 : Keeps w w4.drew := Below.drew k4
    have HLI := Lib.hid (lenI_int HI.out)
    go_region_held3 (fun w' => w'.cell? ⟨w3.heap.size, 0, none⟩ = some (.bool b) ∧ w'.cell? ⟨w3.heap.size, 1, none⟩ = some (.slice A3 n3 c3))
      (exact ⟨hY4.c0, hY4.c1⟩)
      (first
        | (go_at_call 16; refine (HR.out _).mono ?_; rintro e W5 ⟨V5, rfl, hr5, hk⟩; replace hY4 := hY4.below hk; replace hA4 := hA4.below hk; replace hv4 := hv4.below hk; replace hr4 := hr4.below hk; replace k4 := k4.trans' hk)
        | (go_at_call 15; refine (same_rep hr4 hr5 HLI.out).mono ?_; rintro e W6 ⟨rfl, hk⟩; replace hY4 := hY4.below hk; replace hA4 := hA4.below hk; replace hv4 := hv4.below hk; replace hr4 := hr4.below hk; replace k4 := k4.trans' hk))
    have a0 := hA4.c0
    have a1 := hA4.c1
    have hs1 := Lib.hid (small_num hv4)
    obtain ⟨m5, b5, e5⟩ := smallV_pair x
    rw [e5] at hs1
    have HE5 := Lib.hid e5
    clear e5
    go_wp2_with fail
    refine hs1.out.mono ?_
    rintro e w7 ⟨rfl, hk7⟩
    have hA7 := hA4.below hk7
    have hv7 := hv4.below hk7
    have k7 := k4.trans' hk7
    have hs2 := Lib.hid (rsmall_num _ _ _ hv7)
    rw [HE5.out] at hs2
    clear a0 a1 hY4 hA4 hv4 hr4 k4 hk7 hs1
    have a0 := hA7.c0
    have a1 := hA7.c1
    go_wp2_with fail
    refine hs2.out.mono ?_
    rintro e w8 ⟨rfl, hk8⟩
    have k8 := k7.trans' hk8
    have q1 : (m5 == m5) = true := by simp
    have q2 : (b5 == b5) = true := by simp
    go_wp2
    go_ret
    exact ⟨rfl, k8⟩
end Go.Proofs.YthgbgoidnnfapaaDoor
