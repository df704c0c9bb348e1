/- mul and sub of the reports' laws: the walks. ReportChecks' test of a spot, and of a list of spots: the walks. -/
import Derived.Test.YtgcigdahjabimaaGreatDoorPk44
import Derived.Test.YtgcigdahjabimaaGreatDoorPk32
import Derived.Test.YtgcigdahjabimaaGreatDoorPk39
import Derived.Test.YtgcigdahjabimaaGreatDoorPk34
import Derived.Test.YtgcigdahjabimaaGreatDoorPk40
namespace Go.Proofs.YtgcigdahjabimaaGreatDoor
open Go.RowKit Go.Shelf
set_option maxRecDepth 100000 in
set_option maxHeartbeats 1000000 in
theorem lmul_num {w : World} {V0 V1 : Value} {x y : Rat} (h0 : RatNum w V0 x) (h1 : RatNum w V1 y) : Calls Tryz.prog 17 #[V0, V1] w (RGives (x * y) w) := by
 obtain ⟨b3, A3, n3, c3, d3, B3, m3, e3, rfl⟩ := h0.open_
 have z0 := h0.sz
 obtain ⟨b4, A4, n4, c4, d4, B4, m4, e4, rfl⟩ := h1.open_
 have z1 := h1.sz
 have y0 := szR_mul x y
 have S := (((St.start w).addR h0).addR h1)
 clear h0 h1
 go_enter Tryz.func17, Tryz.ntmps17
 go_upto_region 1 with fail
 replace S := (((S.alloc 31 [.bool b3, .slice A3 n3 c3, .bool d3, .slice B3 m3 e3]).alloc 31 [.bool b4, .slice A4 n4 c4, .bool d4, .slice B4 m4 e4]).alloc 31 [.bool false, .slice none 0 0, .bool false, .slice none 0 0])
 simp only [World.size_alloc] at S
 obtain ⟨W1, eW, S⟩ := S.pack
 rw [eW]
 clear eW
 obtain ⟨r0_0, r0_1, r0_2, r0_3⟩ := S.cc4 2 rfl
 obtain ⟨r1_0, r1_1, r1_2, r1_3⟩ := S.cc4 1 rfl
 go_wp2_with fail
 refine ((gmul_num (S.ri 1 rfl) (S.ri 0 rfl))).mono ?_
 rintro e W2 ⟨U2, rfl, hp, hk⟩
 obtain ⟨b5, A5, n5, c5, d5, B5, m5, e5, rfl⟩ := hp.open_
 replace S := (S.below hk).addQ hp
 clear hk hp
 clear r0_0 r0_1 r0_2 r0_3 r1_0 r1_1 r1_2 r1_3
 have r2_0 := S.c 0 0 rfl rfl
 have f2_0 := S.f 0 0 rfl
 have r2_1 := S.c 0 1 rfl rfl
 have f2_1 := S.f 0 1 rfl
 have r2_2 := S.c 0 2 rfl rfl
 have f2_2 := S.f 0 2 rfl
 have r2_3 := S.c 0 3 rfl rfl
 have f2_3 := S.f 0 3 rfl
 go_wp2
 replace S := (S.put4 0 rfl rfl rfl (x' := .bool b5) (y' := .slice A5 n5 c5) (z' := .bool d5) (u' := .slice B5 m5 e5))
 refine bodyPost_ret (v := .agg #[.bool b5, .slice A5 n5 c5, .bool d5, .slice B5 m5 e5]) (by simp [results, Tryz.results17, go_sem, S.c 0 0 rfl rfl, S.c 0 1 rfl rfl, S.c 0 2 rfl rfl, S.c 0 3 rfl rfl]) rfl ?_
 exact ⟨_, rfl, S.qi 0 rfl, S.k⟩
set_option maxRecDepth 100000 in
set_option maxHeartbeats 1000000 in
theorem lsub_num {w : World} {V0 V1 : Value} {x y : Rat} (h0 : RatNum w V0 x) (h1 : RatNum w V1 y) : Calls Tryz.prog 15 #[V0, V1] w (RGives (x - y) w) := by
 obtain ⟨b3, A3, n3, c3, d3, B3, m3, e3, rfl⟩ := h0.open_
 have z0 := h0.sz
 obtain ⟨b4, A4, n4, c4, d4, B4, m4, e4, rfl⟩ := h1.open_
 have z1 := h1.sz
 have y0 := szR_sub x y
 have S := (((St.start w).addR h0).addR h1)
 clear h0 h1
 go_enter Tryz.func15, Tryz.ntmps15
 go_upto_region 1 with fail
 replace S := (((S.alloc 31 [.bool b3, .slice A3 n3 c3, .bool d3, .slice B3 m3 e3]).alloc 31 [.bool b4, .slice A4 n4 c4, .bool d4, .slice B4 m4 e4]).alloc 31 [.bool false, .slice none 0 0, .bool false, .slice none 0 0])
 simp only [World.size_alloc] at S
 obtain ⟨W1, eW, S⟩ := S.pack
 rw [eW]
 clear eW
 obtain ⟨r0_0, r0_1, r0_2, r0_3⟩ := S.cc4 2 rfl
 obtain ⟨r1_0, r1_1, r1_2, r1_3⟩ := S.cc4 1 rfl
 go_wp2_with fail
 refine ((gsub_num (S.ri 1 rfl) (S.ri 0 rfl))).mono ?_
 rintro e W2 ⟨U2, rfl, hp, hk⟩
 obtain ⟨b5, A5, n5, c5, d5, B5, m5, e5, rfl⟩ := hp.open_
 replace S := (S.below hk).addQ hp
 clear hk hp
 clear r0_0 r0_1 r0_2 r0_3 r1_0 r1_1 r1_2 r1_3
 have r2_0 := S.c 0 0 rfl rfl
 have f2_0 := S.f 0 0 rfl
 have r2_1 := S.c 0 1 rfl rfl
 have f2_1 := S.f 0 1 rfl
 have r2_2 := S.c 0 2 rfl rfl
 have f2_2 := S.f 0 2 rfl
 have r2_3 := S.c 0 3 rfl rfl
 have f2_3 := S.f 0 3 rfl
 go_wp2
 replace S := (S.put4 0 rfl rfl rfl (x' := .bool b5) (y' := .slice A5 n5 c5) (z' := .bool d5) (u' := .slice B5 m5 e5))
 refine bodyPost_ret (v := .agg #[.bool b5, .slice A5 n5 c5, .bool d5, .slice B5 m5 e5]) (by simp [results, Tryz.results15, go_sem, S.c 0 0 rfl rfl, S.c 0 1 rfl rfl, S.c 0 2 rfl rfl, S.c 0 3 rfl rfl]) rfl ?_
 exact ⟨_, rfl, S.qi 0 rfl, S.k⟩
def farT (x y z : Int) : Bool := [x, y, z].any farB
theorem farT_max {x y z : Int} : farT x y z = (decide (1048576 < max (max x y) z) || decide (min (min x y) z < -1048576)) := by
 unfold farT farB
 rw [Bool.eq_iff_iff]
 simp only [List.any_cons, List.any_nil, Bool.or_false, Bool.or_eq_true, decide_eq_true_eq]
 omega
theorem run_min3s (P : Program) (u : World) (ts : Array TypeId) (t : TypeId) (x y z : Int) : (Builtin.min_ ts t #[.int .i64 x, .int .i64 y, .int .i64 z]).run P u = .ok (.int .i64 (min (min x y) z)) u := by
 have h1 : (if y < x then y else x) = min x y := by split <;> omega
 have h2 : ∀ a : Int, (if z < a then z else a) = min a z := fun a => by split <;> omega
 simp [Builtin.min_, Builtin.min2, h1, h2]
theorem run_max3s (P : Program) (u : World) (ts : Array TypeId) (t : TypeId) (x y z : Int) : (Builtin.max_ ts t #[.int .i64 x, .int .i64 y, .int .i64 z]).run P u = .ok (.int .i64 (max (max x y) z)) u := by
 have h1 : (if x < y then y else x) = max x y := by split <;> omega
 have h2 : ∀ a : Int, (if a < z then z else a) = max a z := fun a => by split <;> omega
 simp [Builtin.max_, Builtin.max2, h1, h2]
set_option maxRecDepth 100000 in
set_option maxHeartbeats 1000000 in
theorem far_any (u : World) (x y z : Int) : Calls Tryz.prog 10 #[.agg #[.int .i64 x, .int .i64 y, .int .i64 z]] u fun e u' => e = .returned (.bool (farT x y z)) ∧ Keeps u u' := by
 have S := (St.start u).alloc 25 [.int .i64 x, .int .i64 y, .int .i64 z]
 obtain ⟨W0, hW0, S⟩ := S.pack
 have HF := Lib.hid (farT_max (x := x) (y := y) (z := z))
 have r0 := S.c 0 0 rfl rfl
 have r1 := S.c 0 1 rfl rfl
 have r2 := S.c 0 2 rfl rfl
 have hmx := fun u ts t => run_max3s Tryz.prog u ts t x y z
 have hmn := fun u ts t => run_min3s Tryz.prog u ts t x y z
 obtain ⟨M, hM⟩ : ∃ M, max (max x y) z = M := ⟨_, rfl⟩
 obtain ⟨L, hL⟩ : ∃ M, min (min x y) z = M := ⟨_, rfl⟩
 rw [hM] at HF hmx
 rw [hL] at HF hmn
 clear hM hL
 go_enter Tryz.func10, Tryz.ntmps10
 by_cases h1 : 1048576 < M
 ·have t1 : decide (1048576 < M) = true := decide_eq_true h1
  have HG : Hid (farT x y z = true) := Lib.hid (by rw [HF.out, t1]; rfl)
  go_wp2
  go_ret
  exact ⟨by rw [HG.out]; rfl, S.k⟩
 ·have t1 : decide (1048576 < M) = false := decide_eq_false h1
  by_cases h2 : L < -1048576
  ·have t2 : decide (L < -1048576) = true := decide_eq_true h2
   have HG : Hid (farT x y z = true) := Lib.hid (by rw [HF.out, t1, t2]; rfl)
   go_wp2
   go_ret
   exact ⟨by rw [HG.out]; rfl, S.k⟩
  ·have t2 : decide (L < -1048576) = false := decide_eq_false h2
   have HG : Hid (farT x y z = false) := Lib.hid (by rw [HF.out, t1, t2]; rfl)
   go_wp2
   go_ret
   exact ⟨by rw [HG.out]; rfl, S.k⟩
theorem spot_at {w : World} {A : Option Addr} {sp : List Int} {m : Nat} (hs : IRow w A sp) (hl : sp.length = 3 * m) {k : Nat} (hk : k < m) : ∃ B o, A = some ⟨B, o, none⟩ ∧ ∀ u, Keeps w u →
 u.cell? ⟨B, o + k * 3, none⟩ = some (.int .i64 (sp.getD (3 * k) 0)) ∧ u.cell? ⟨B, o + k * 3 + 1, none⟩ = some (.int .i64 (sp.getD (3 * k + 1) 0)) ∧ u.cell? ⟨B, o + k * 3 + 2, none⟩ = some (.int .i64 (sp.getD (3 * k + 2) 0)) := by
 obtain ⟨B, o, rfl, -⟩ := IRow.at hs (j := 3 * k) (by omega)
 refine ⟨B, o, rfl, fun u hu => ?_⟩
 obtain ⟨B0, o0, q0, e0⟩ := IRow.at (hs.below hu) (j := 3 * k) (by omega)
 obtain ⟨B1, o1, q1, e1⟩ := IRow.at (hs.below hu) (j := 3 * k + 1) (by omega)
 obtain ⟨B2, o2, q2, e2⟩ := IRow.at (hs.below hu) (j := 3 * k + 2) (by omega)
 cases q0
 cases q1
 cases q2
 rw [show o + 3 * k = o + k * 3 by omega] at e0
 rw [show o + (3 * k + 1) = o + k * 3 + 1 by omega] at e1
 rw [show o + (3 * k + 2) = o + k * 3 + 2 by omega] at e2
 exact ⟨e0, e1, e2⟩
theorem far_next {sp : List Int} {m k : Nat} (hl : sp.length = 3 * m) (hk : k < m) : (sp.take (3 * (k + 1))).any farB = ((sp.take (3 * k)).any farB || farT (sp.getD (3 * k) 0) (sp.getD (3 * k + 1) 0) (sp.getD (3 * k + 2) 0)) := by
 have h : ∀ j, j < 3 * m → sp[j]? = some (sp.getD j 0) := fun j hj => by rw [List.getD, List.getElem?_eq_getElem (by omega)]; rfl
 rw [show 3 * (k + 1) = 3 * k + 1 + 1 + 1 by omega, List.take_add_one, List.take_add_one, List.take_add_one, h _ (by omega), h _ (by omega), h _ (by omega)]
 simp [farT]
set_option maxRecDepth 100000 in
set_option maxHeartbeats 1000000 in
theorem farI_any {w : World} {A : Option Addr} {n c : Nat} {sp : List Int} (hr : IRow w A sp) (hn : sp.length = 3 * n) (hl : n ≤ 1000) :
 Calls Tryz.prog 48 #[.slice A n c, .func (.func 10) #[] #[]] w fun e w' => ∃ v : Int, e = .returned (.int .i64 v) ∧ decide (0 ≤ v) = sp.any farB ∧ Keeps w w' := by
 have hnI : (n : Int) ≤ 1000 := by omega
 have HR := Lib.hid hr
 have HN := Lib.hid hn
 clear hr hn
 go_enter Tryz.func48, Tryz.ntmps48
 go_wp2
 go_loopw [8] (fun i wr => ∃ k : Nat, k ≤ n ∧ i = .int .i64 (k : Nat) ∧ Hid ((sp.take (3 * k)).any farB = false) ∧ Keeps w wr) (fun i _ => n - (intOf i).toNat)
 case atStart => exact ⟨0, Nat.zero_le _, rfl, Lib.hid (by simp), Below.refl _ _⟩
 case round =>
  obtain ⟨k, hkd, rfl, HA, hk⟩ := hrel
  by_cases hlt : k < n
  ·have hkI : (k : Int) < (n : Int) := by omega
   have t1 : decide ((k : Int) < (n : Int)) = true := decide_eq_true hkI
   obtain ⟨B, o, rfl, hc⟩ := spot_at HR.out HN.out hlt
   obtain ⟨g0, g1, g2⟩ := hc wr hk
   obtain ⟨bb, hbb⟩ : ∃ b, farT (sp.getD (3 * k) 0) (sp.getD (3 * k + 1) 0) (sp.getD (3 * k + 2) 0) = b := ⟨_, rfl⟩
   have hnx := far_next HN.out hlt
   rw [hbb, HA.out, Bool.false_or] at hnx
   have HNX := Lib.hid hnx
   have HX := Lib.hid (far_any wr (sp.getD (3 * k) 0) (sp.getD (3 * k + 1) 0) (sp.getD (3 * k + 2) 0))
   rw [hbb] at HX
   generalize sp.getD (3 * k) 0 = x0 at *
   generalize sp.getD (3 * k + 1) 0 = x1 at *
   generalize sp.getD (3 * k + 2) 0 = x2 at *
   clear hc hnx hbb
   go_wp2_with fail
   refine HX.out.mono ?_
   rintro e w1 ⟨rfl, hk1⟩
   cases bb with
   | true =>
    have HT : Hid (sp.any farB = true) := Lib.hid (by
     obtain ⟨x, hx, h2⟩ := List.any_eq_true.1 HNX.out
     exact List.any_eq_true.2 ⟨x, List.mem_of_mem_take hx, h2⟩)
    go_wp2
    go_ret
    exact ⟨_, rfl, by rw [HT.out]; simp, hk.trans' hk1⟩
   | false =>
    go_wp2
    go_roundw
    case rel => exact ⟨k + 1, by omega, by go_num, HNX, hk.trans' hk1⟩
    case measure => simp [intOf]; omega
  ·have hkI : ¬ (k : Int) < (n : Int) := by omega
   have t1 : decide ((k : Int) < (n : Int)) = false := decide_eq_false hkI
   obtain rfl : k = n := by omega
   go_wp2
   go_ret
   exact ⟨_, rfl, by have := HA.out; rw [List.take_of_length_le (by rw [HN.out]; exact Nat.le_refl _)] at this; rw [this]; rfl, hk⟩
set_option maxRecDepth 100000 in
theorem farC_any {w : World} {A : Option Addr} {n c : Nat} {sp : List Int} (hr : IRow w A sp) (hn : sp.length = 3 * n) (hl : n ≤ 1000) :
 Calls Tryz.prog 12 #[.slice A n c, .func (.func 10) #[] #[]] w fun e w' => e = .returned (.bool (sp.any farB)) ∧ Keeps w w' := by
 have HI := Lib.hid (farI_any (c := c) hr hn hl)
 clear hr hn
 go_enter Tryz.func12, Tryz.ntmps12
 go_wp2_with fail
 refine HI.out.mono ?_
 rintro e w1 ⟨v, rfl, hv, hk⟩
 have HV := Lib.hid hv
 clear hv
 go_wp2
 all_goals (go_ret; exact ⟨by rw [← HV.out]; rfl, hk⟩)
end Go.Proofs.YtgcigdahjabimaaGreatDoor
