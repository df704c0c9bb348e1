/- terrain.opened, checked, Open: the walks. fiducialref02.Int, SameRat: the walks. corner.Find's peak: the walk. The insertion sort of corners: the walk. -/
import Derived.Test.YtecibfncnaccjaaGreatPv50
import Derived.Test.YtecibfncnaccjaaGreatPv49
import Derived.Test.YtecibfncnaccjaaGreatPv42
import Derived.Test.YtecibfncnaccjaaGreatPv34
import Derived.Test.YtecibfncnaccjaaGreatPv28
import Derived.Test.YtecibfncnaccjaaGreatPv51
namespace Go.Proofs.YtecibfncnaccjaaGreat
open Go.RowKit Go.Shelf
section
variable {w : World} {A : Option Addr} {c : Nat} {zs : List Int}
set_option maxRecDepth 100000 in
set_option maxHeartbeats 1000000 in
theorem opened_any (hr : IRow w A zs) (gx gy st : Int) (W H r : Nat) (hW : 2 ≤ W ∧ W ≤ 64) (hH : 2 ≤ H ∧ H ≤ 64) (hrr : r ≤ 8) (hl : zs.length = W * H) :
 Calls Tryz.prog 55 #[grV gx gy st (W : Nat) (H : Nat) A zs.length c, .int .i64 (r : Nat)] w fun e w' => ∃ g, e = .returned (grV gx gy st (W : Nat) (H : Nat) (some ⟨g, 0, none⟩) zs.length zs.length) ∧ w.heap.size ≤ g ∧ Own w' g 3 (i64s (openL W H r zs)) ∧ Keeps w w' := by
 have S := ((St.start w).alloc 24 (grL gx gy st (W : Nat) (H : Nat) A zs.length c)).alloc 24 [.int .i64 0, .int .i64 0, .int .i64 0, .int .i64 0, .int .i64 0, .slice none 0 0]
 simp only [World.size_alloc] at S
 obtain ⟨W0, hW0, S⟩ := S.pack
 have H1 := Lib.hid (filtered_min (c := c) (hr.below S.k) gx gy st W H r hW hH hrr hl)
 have H2 := Lib.hid (fun (u : World) (B : Nat) (h : Own u B 3 (i64s (filtL min W H r zs))) => filtered_max (c := zs.length) (own_irow h) gx gy st W H r hW hH hrr (by rw [filtL_length]; exact hl))
 have HE : Hid (filtL max W H r (filtL min W H r zs) = openL W H r zs) := Lib.hid rfl
 simp only [filtL_length] at H2
 rw [HE.out] at H2
 generalize filtL min W H r zs = es at *
 generalize openL W H r zs = os at *
 generalize zs.length = n at *
 clear hr hW hH hrr hl HE
 obtain ⟨x0, x1, x2, x3, x4, x5⟩ := S.cc6 1 rfl
 go_enter Tryz.func55, Tryz.ntmps55
 go_wp2_with fail
 refine H1.out.mono ?_
 rintro e W1 ⟨g, rfl, hg, hO, hk⟩
 replace S := S.below hk
 clear x0 x1 x2 x3 x4 x5 hW0
 have HG := Lib.hid hg
 have hk1 := S.k
 clear hk hg H1
 go_wp2_with fail
 refine (H2.out _ _ hO).mono ?_
 rintro e W2 ⟨g2, rfl, hg2, hO2, hk2⟩
 replace S := S.box (S.below hk2) hO2 hg2
 clear hk2 hO2 hg2 hk1 hO H2 HG
 obtain ⟨y0, y1, y2, y3, y4, y5⟩ := S.cc6 1 rfl
 obtain ⟨f0, f1, f2, f3, f4, f5⟩ := S.ff6 1 rfl
 have S2 := S.put6 1 rfl rfl rfl (x0 := .int .i64 gx) (x1 := .int .i64 gy) (x2 := .int .i64 st) (x3 := .int .i64 (W : Nat)) (x4 := .int .i64 (H : Nat)) (x5 := .slice (some ⟨g2, 0, none⟩) n n)
 go_wp2
 refine bodyPost_ret (v := .agg #[.int .i64 gx, .int .i64 gy, .int .i64 st, .int .i64 (W : Nat), .int .i64 (H : Nat), .slice (some ⟨g2, 0, none⟩) n n]) (by simp [results, Tryz.results55, go_sem, S2.c 1 0 rfl rfl, S2.c 1 1 rfl rfl, S2.c 1 2 rfl rfl, S2.c 1 3 rfl rfl, S2.c 1 4 rfl rfl, S2.c 1 5 rfl rfl]) rfl ?_
 have hO9 := S2.o (p := (g2, 3, i64s os)) 0 rfl
 exact ⟨g2, rfl, S2.lo (g2, 3, i64s os) List.mem_cons_self, hO9, S2.k⟩
set_option maxRecDepth 100000 in
set_option maxHeartbeats 1000000 in
theorem gchecked_any (hr : IRow w A zs) (gx gy st : Int) (W H r : Nat) (hc : chkG gx gy st (W : Nat) (H : Nat) zs = 0) (hl : zs.length ≤ maxLen) (hrr : r ≤ 8) :
 Calls Tryz.prog 54 #[grV gx gy st (W : Nat) (H : Nat) A zs.length c, .int .i64 (r : Nat)] w fun e w' => e = .returned (.int .i64 0) ∧ Keeps w w' := by
 have S := (St.start w).alloc 24 (grL gx gy st (W : Nat) (H : Nat) A zs.length c)
 obtain ⟨W0, hW0, S⟩ := S.pack
 have HK := Lib.hid (tcheck_any (c := c) (hr.below S.k) gx gy st (W : Nat) (H : Nat) hl)
 rw [hc] at HK
 obtain ⟨x0, x1, x2, x3, x4, x5⟩ := S.cc6 0 rfl
 have d1 : decide ((r : Int) < 0) = false := decide_eq_false (by omega)
 have d2 : decide ((8 : Int) < (r : Int)) = false := decide_eq_false (by omega)
 have hrI : (r : Int) ≤ 8 := by omega
 clear hr hc hl
 go_enter Tryz.func54, Tryz.ntmps54
 go_wp2_with fail
 refine HK.out.mono ?_
 rintro e w1 ⟨rfl, hk⟩
 go_wp2
 all_goals (go_ret; exact ⟨rfl, S.k.trans' hk⟩)
set_option maxRecDepth 100000 in
set_option maxHeartbeats 1000000 in
theorem open_any (hr : IRow w A zs) (gx gy st : Int) (W H r : Nat) (hc : chkG gx gy st (W : Nat) (H : Nat) zs = 0) (hl : zs.length ≤ maxLen) (hrr : r ≤ 8) :
 Calls Tryz.prog 22 #[grV gx gy st (W : Nat) (H : Nat) A zs.length c, .int .i64 (r : Nat)] w fun e w' => ∃ g, e = .returned (.tuple #[grV gx gy st (W : Nat) (H : Nat) (some ⟨g, 0, none⟩) zs.length zs.length, .int .i64 0]) ∧ w.heap.size ≤ g ∧ Own w' g 3 (i64s (openL W H r zs)) ∧ Keeps w w' := by
 obtain ⟨hW, hH, -, hlN, -, -, -⟩ := chkG_ok hc
 have hlN : zs.length = W * H := by exact_mod_cast hlN
 have S := ((St.start w).alloc 24 (grL gx gy st (W : Nat) (H : Nat) A zs.length c)).alloc 24 [.int .i64 0, .int .i64 0, .int .i64 0, .int .i64 0, .int .i64 0, .slice none 0 0]
 simp only [World.size_alloc] at S
 obtain ⟨W0, hW0, S⟩ := S.pack
 have H1 := Lib.hid (gchecked_any (c := c) (hr.below S.k) gx gy st W H r hc hl hrr)
 have H2 := Lib.hid (fun (u : World) (hk : Keeps w u) => opened_any (c := c) (hr.below hk) gx gy st W H r (by omega) (by omega) hrr hlN)
 generalize openL W H r zs = os at *
 generalize zs.length = n at *
 clear hr hW hH hrr hl hlN hc
 obtain ⟨x0, x1, x2, x3, x4, x5⟩ := S.cc6 1 rfl
 go_enter Tryz.func22, Tryz.ntmps22
 go_wp2_with fail
 refine H1.out.mono ?_
 rintro e W1 ⟨rfl, hk⟩
 replace S := S.below hk
 clear hk hW0 x0 x1 x2 x3 x4 x5
 obtain ⟨x0, x1, x2, x3, x4, x5⟩ := S.cc6 1 rfl
 go_wp2_with fail
 refine (H2.out _ S.k).mono ?_
 rintro e W2 ⟨g2, rfl, hg2, hO2, hk2⟩
 replace S := S.box (S.below hk2) hO2 hg2
 clear hk2 hO2 hg2 H1 H2 x0 x1 x2 x3 x4 x5
 obtain ⟨y0, y1, y2, y3, y4, y5⟩ := S.cc6 1 rfl
 obtain ⟨f0, f1, f2, f3, f4, f5⟩ := S.ff6 1 rfl
 have S2 := S.put6 1 rfl rfl rfl (x0 := .int .i64 gx) (x1 := .int .i64 gy) (x2 := .int .i64 st) (x3 := .int .i64 (W : Nat)) (x4 := .int .i64 (H : Nat)) (x5 := .slice (some ⟨g2, 0, none⟩) n n)
 go_wp2
 refine bodyPost_ret (v := .tuple #[.agg #[.int .i64 gx, .int .i64 gy, .int .i64 st, .int .i64 (W : Nat), .int .i64 (H : Nat), .slice (some ⟨g2, 0, none⟩) n n], .int .i64 0]) (by simp [results, Tryz.results22, go_sem, S2.c 1 0 rfl rfl, S2.c 1 1 rfl rfl, S2.c 1 2 rfl rfl, S2.c 1 3 rfl rfl, S2.c 1 4 rfl rfl, S2.c 1 5 rfl rfl]) rfl ?_
 have hO9 := S2.o (p := (g2, 3, i64s os)) 0 rfl
 exact ⟨g2, rfl, S2.lo (g2, 3, i64s os) List.mem_cons_self, hO9, S2.k⟩
end
set_option maxRecDepth 100000 in
set_option maxHeartbeats 1000000 in
theorem gint_num {w : World} (z : Int) (h1 : -9223372036854775808 ≤ z) (h2 : z ≤ 9223372036854775807) : Calls Tryz.prog 14 #[.int .i64 z] w (RGives (z : Rat) w) := by
 have y0 := szR_int z
 have S := (St.start w)
 go_enter Tryz.func14, Tryz.ntmps14
 go_wp2_with fail
 replace S := (S.alloc 35 [.bool false, .slice none 0 0, .bool false, .slice none 0 0])
 obtain ⟨W1, eW, S⟩ := S.pack
 rw [eW]
 clear eW
 refine ((gwhole_num z h1 h2)).mono ?_
 rintro e W2 ⟨U2, rfl, hp, hk⟩
 obtain ⟨b3, A3, n3, c3, d3, B3, m3, e3, rfl⟩ := hp.open_
 replace S := (S.below hk).addQ hp
 clear hk hp
 have r0_0 := S.c 0 0 rfl rfl
 have f0_0 := S.f 0 0 rfl
 have r0_1 := S.c 0 1 rfl rfl
 have f0_1 := S.f 0 1 rfl
 have r0_2 := S.c 0 2 rfl rfl
 have f0_2 := S.f 0 2 rfl
 have r0_3 := S.c 0 3 rfl rfl
 have f0_3 := S.f 0 3 rfl
 go_wp2
 replace S := (S.put4 0 rfl rfl rfl (x' := .bool b3) (y' := .slice A3 n3 c3) (z' := .bool d3) (u' := .slice B3 m3 e3))
 refine bodyPost_ret (v := .agg #[.bool b3, .slice A3 n3 c3, .bool d3, .slice B3 m3 e3]) (by simp [results, Tryz.results14, go_sem, S.c 0 0 rfl rfl, S.c 0 1 rfl rfl, S.c 0 2 rfl rfl, S.c 0 3 rfl rfl]) rfl ?_
 exact ⟨_, rfl, S.qi 0 rfl, S.k⟩
set_option maxRecDepth 100000 in
set_option maxHeartbeats 1000000 in
theorem gsamer_s {w : World} {V1 V2 : Value} {x y : Rat} {b : Bool} (h1 : RatRep w V1 x) (h2 : RatRep w V2 y) (hl : szR x + szR y ≤ 99999) (e : decide (x = y) = b) : Calls Tryz.prog 16 #[V1, V2] w (fun e w' => e = .returned (.bool b) ∧ Keeps w w') := by
 obtain ⟨b3, A3, n3, c3, d3, B3, m3, e3, rfl⟩ := h1.open_
 obtain ⟨b4, A4, n4, c4, d4, B4, m4, e4, rfl⟩ := h2.open_
 have S := (((St.start w).addQ h1).addQ h2)
 clear h1 h2
 go_enter Tryz.func16, Tryz.ntmps16
 go_upto_region 1 with fail
 replace S := ((S.alloc 35 [.bool b3, .slice A3 n3 c3, .bool d3, .slice B3 m3 e3]).alloc 35 [.bool b4, .slice A4 n4 c4, .bool d4, .slice B4 m4 e4])
 simp only [World.size_alloc] at S
 obtain ⟨W1, eW, S⟩ := S.pack
 rw [eW]
 clear eW
 obtain ⟨r0_0, r0_1, r0_2, r0_3⟩ := S.cc4 1 rfl
 obtain ⟨r1_0, r1_1, r1_2, r1_3⟩ := S.cc4 0 rfl
 go_wp2_with fail
 refine ((gsame_s (b := b) (S.qi 1 rfl) (S.qi 0 rfl) (by omega) e)).mono ?_
 rintro e W2 ⟨rfl, hk⟩
 replace S := S.below hk
 clear hk
 clear r0_0 r0_1 r0_2 r0_3 r1_0 r1_1 r1_2 r1_3
 go_wp2
 go_ret
 exact ⟨rfl, S.k⟩
abbrev Cn := Int × Int × Int
def cc (a : Cn) : List Value := [.int .i64 a.1, .int .i64 a.2.1, .int .i64 a.2.2]
end Go.Proofs.YtecibfncnaccjaaGreat
