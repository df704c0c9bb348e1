/- volume.Level: the walk. Boxes in another order; sizes; for the walk of contour.total. No program in sight. contour.total with contour.share and contour.Above$1: the walk. contour.total with contour.Volume$1 and contour.Volume$2: the walk. contour.Above and Volume: the walks. -/
import Derived.Test.YtecibfncnaccjaaGreatPo41
import Derived.Test.YtecibfncnaccjaaGreatPo46
import Derived.Test.YtecibfncnaccjaaGreatPo32
import Derived.BigQuiet
import Derived.Deep.QuietTactic
import Derived.Test.YtecibfncnaccjaaGreatPo43
import Derived.Test.YtecibfncnaccjaaGreatPo44
import Derived.Test.YtecibfncnaccjaaGreatPo45
namespace Go.Proofs.YtecibfncnaccjaaGreat
open Go.RowKit Go.Shelf
def lv6Φ (Vg Vc : Value) (l : List Tri) (pU pD : Rat) : Nat → Value → World → Prop
 | 0, v, _ => v = Vg
 | 1, v, _ => v = Vg
 | 2, v, w => ∃ A c, v = .slice A l.length c ∧ TRow w A l
 | 3, v, _ => v = Vc
 | 4, v, w => TupU pU pD v w
 | 5, v, w => TupU pU pD v w
 | 6, v, w => RatRep w v pU
 | 7, v, w => RatRep w v pD
 | _, _, _ => True
set_option maxRecDepth 100000 in
theorem level1_any {u : World} {A : Option Addr} {c : Nat} {zs : List Int} {gx gy st W H z : Int} {p1 p2 k : Nat} (hr : IRow u A zs) (h1 : Own u p1 24 (grL gx gy st W H A zs.length c)) (h2 : Own u p2 3 [.int .i64 z]) (hk : k < zs.length) (hl : zs.length ≤ 5000)
 (hb : -9000000 ≤ zs.getD k 0 ∧ zs.getD k 0 ≤ 9000000) (hz : -9000000 ≤ z ∧ z ≤ 9000000) :
 HtC Tryz.prog 42 #[.pointer (some ⟨p1, 0, none⟩), .pointer (some ⟨p2, 0, none⟩)] u k (zs.getD k 0 - z) := by
 show Calls Tryz.prog 42 #[.int .i64 (k : Nat), .pointer (some ⟨p1, 0, none⟩), .pointer (some ⟨p2, 0, none⟩)] u _
 obtain ⟨b, o, rfl, c1⟩ := IRow.at hr hk
 have x5 := h1.cell 5
 have y0 := h2.cell 0
 simp only [List.getElem?_cons_zero, List.getElem?_cons_succ] at x5 y0
 have hkI : (k : Int) < zs.length := by omega
 have hlI : (zs.length : Int) ≤ 5000 := by omega
 obtain ⟨v, hv⟩ : ∃ v, zs.getD k 0 = v := ⟨_, rfl⟩
 rw [hv] at c1 hb ⊢
 obtain ⟨b1, b2⟩ := hb
 obtain ⟨z1, z2⟩ := hz
 have hw : IntKind.i64.wrap (v - z) = v - z := by rw [IntKind.wrap_i64]; omega
 obtain ⟨n, hn⟩ : ∃ n, zs.length = n := ⟨_, rfl⟩
 rw [hn] at x5 hkI hlI
 clear hr h1 h2 hv hk hl hn
 go_enter Tryz.func42, Tryz.ntmps42
 go_wp2
 go_quiet (fail)
 go_wp2
 go_ret
 exact ⟨by first | rfl | (rw [hw]; rfl), by first | exact Below.refl _ _ | exact below_drewN bl _ | exact Below.drew bl⟩
theorem chkG_ok {gx gy st W H : Int} {zs : List Int} (h : chkG gx gy st W H zs = 0) : (2 ≤ W ∧ W ≤ 64) ∧ (2 ≤ H ∧ H ≤ 64) ∧ (2 ≤ st ∧ st ≤ 65536 ∧ st.tmod 2 = 0) ∧ (zs.length : Int) = W * H ∧ (∀ z ∈ zs, badZ z = false) ∧ farP gx = false ∧ farP gy = false := by
 unfold chkG at h
 split at h
 ·cases h
 ·rename_i hb
  split at h
  ·cases h
  ·rename_i hl
   split at h
   ·cases h
   ·rename_i ha
    have hb' : badG gx gy st W H = false := by simpa using hb
    unfold badG sideB at hb'
    simp only [Bool.or_eq_false_iff, Bool.not_eq_false', Bool.and_eq_true, decide_eq_true_eq, decide_eq_false_iff_not, ne_eq, Decidable.not_not] at hb'
    obtain ⟨⟨⟨⟨⟨⟨⟨a1, a2⟩, b1, b2⟩, c1⟩, c2⟩, c3⟩, d1⟩, d2⟩ := hb'
    refine ⟨⟨a1, a2⟩, ⟨b1, b2⟩, ⟨by omega, by omega, c3⟩, by simpa using hl, fun z hz => ?_, d1, d2⟩
    cases hc : badZ z with
    | false => rfl
    | true => exact absurd (List.any_eq_true.2 ⟨z, hz, hc⟩) ha
theorem farP_no {z : Int} (h : farP z = false) : -1048576 ≤ z ∧ z ≤ 1048576 := by
 unfold farP at h
 simp only [Bool.or_eq_false_iff, decide_eq_false_iff_not] at h
 omega
theorem isZ_bd {zs : List Int} {k : Nat} (hk : k < zs.length) (hz : ∀ z ∈ zs, badZ z = false) (h : isZ zs k = true) : -1048576 ≤ zs.getD k 0 ∧ zs.getD k 0 ≤ 1048576 := by
 have hm : zs.getD k 0 ∈ zs := by rw [List.getD, List.getElem?_eq_getElem hk]; exact List.getElem_mem hk
 have h1 := hz _ hm
 unfold isZ at h
 unfold badZ at h1
 have h2 : zs.getD k 0 ≠ -2147483648 := by simpa using h
 simp only [h2, ne_eq, not_false_eq_true, decide_true, Bool.true_and] at h1
 exact farP_no h1
theorem triL_bd {zs : List Int} {W H : Nat} {t : Tri} (hl : zs.length = W * H) (hz : ∀ z ∈ zs, badZ z = false) (h : t ∈ triL W H zs) :
 (t.1 < zs.length ∧ t.2.1 < zs.length ∧ t.2.2 < zs.length) ∧ (-1048576 ≤ zs.getD t.1 0 ∧ zs.getD t.1 0 ≤ 1048576) ∧ (-1048576 ≤ zs.getD t.2.1 0 ∧ zs.getD t.2.1 0 ≤ 1048576) ∧ -1048576 ≤ zs.getD t.2.2 0 ∧ zs.getD t.2.2 0 ≤ 1048576 := by
 have h1 := triL_lt h
 rw [← hl] at h1
 have h2 := (List.mem_filter.1 h).2
 unfold hereT at h2
 simp only [Bool.and_eq_true] at h2
 exact ⟨h1, isZ_bd h1.1 hz h2.1.1, isZ_bd h1.2.1 hz h2.1.2, isZ_bd h1.2.2 hz h2.2⟩
def lvUp (st : Int) (W H : Nat) (zs : List Int) (z : Int) : Rat := ((st * st / 2 : Int) : Rat) * sumR ((triL W H zs).map (upI fun k => zs.getD k 0 - z))
def lvDn (st : Int) (W H : Nat) (zs : List Int) (z : Int) : Rat := ((st * st / 2 : Int) : Rat) * sumR ((triL W H zs).map (dnI fun k => zs.getD k 0 - z))
set_option maxRecDepth 100000 in
set_option maxHeartbeats 1500000 in
theorem vlevel_any {w : World} {A : Option Addr} {c : Nat} {zs : List Int} (hr : IRow w A zs) (gx gy st : Int) (W H : Nat) (z : Int) (hc : chkG gx gy st (W : Nat) (H : Nat) zs = 0) (hz : farP z = false) (hlm : zs.length ≤ 1000) :
 Calls Tryz.prog 11 #[grV gx gy st (W : Nat) (H : Nat) A zs.length c, .int .i64 z] w fun e w' => ∃ U V, e = .returned (.tuple #[U, V, .int .i64 0]) ∧ RatRep w' U (lvUp st W H zs z) ∧ RatRep w' V (lvDn st W H zs z) ∧ Keeps w w' := by
 obtain ⟨hW, hH, ⟨hs1, hs2, -⟩, hl, hzs, -, -⟩ := chkG_ok hc
 have hlN : zs.length = W * H := by exact_mod_cast hl
 have hfz := farP_no hz
 have S := (((St.start w).alloc 24 (grL gx gy st (W : Nat) (H : Nat) A zs.length c)).alloc 3 [.int .i64 z]).alloc 35 [.bool false, .slice none 0 0, .bool false, .slice none 0 0]
 replace S := S.alloc 35 [.bool false, .slice none 0 0, .bool false, .slice none 0 0]
 simp only [World.size_alloc] at S
 obtain ⟨W0, hW0, S⟩ := S.pack
 obtain ⟨L, hL⟩ : ∃ L, triL W H zs = L := ⟨_, rfl⟩
 have hLlen : L.length ≤ 3000 := by have := triL_len W H zs; rw [hL, ← hlN] at this; omega
 have HCK := Lib.hid (tcheck_any (c := c) (hr.below S.k) gx gy st (W : Nat) (H : Nat) (by simp only [maxLen]; omega))
 rw [hc] at HCK
 have HFA := Lib.hid (fun u => volume_far u z)
 rw [hz] at HFA
 have HTR := Lib.hid (fun (u : World) (hk : Keeps w u) => vtriangles_any (c := c) (hr.below hk) gx gy st W H (by omega) (by omega) hlN)
 rw [hL] at HTR
 have HTO := Lib.hid (fun (A' : Option Addr) (c' : Nat) (u : World) (hk : Keeps w u) (h1 : Own u w.heap.size 24 (grL gx gy st (W : Nat) (H : Nat) A zs.length c)) (h2 : Own u (w.heap.size + 1) 3 [.int .i64 z]) (hT : TRow u A' L) =>
  vtotal_L (c := c') (gx := gx) (gy := gy) (st := st) (gw := (W : Nat)) (gh := (H : Nat)) (Az := A) (nz := zs.length) (cz := c) (p1 := w.heap.size) (p2 := w.heap.size + 1) (h := fun k => zs.getD k 0 - z) hT hLlen hs1 hs2
   (fun t ht => by
    have hb := (triL_bd hlN hzs (hL ▸ ht)).2
    omega)
   (fun v hv t ht => by
    obtain ⟨hi, hb⟩ := triL_bd hlN hzs (hL ▸ ht)
    have hrv := (hr.below hk).below hv
    exact ⟨level1_any hrv (h1.below hv) (h2.below hv) hi.1 (by omega) (by omega) (by omega), level1_any hrv (h1.below hv) (h2.below hv) hi.2.1 (by omega) (by omega) (by omega), level1_any hrv (h1.below hv) (h2.below hv) hi.2.2 (by omega) (by omega) (by omega)⟩))
 have HUP : Hid (((st * st / 2 : Int) : Rat) * sumR (L.map (upI fun k => zs.getD k 0 - z)) = lvUp st W H zs z) := Lib.hid (by rw [← hL]; rfl)
 have HDN : Hid (((st * st / 2 : Int) : Rat) * sumR (L.map (dnI fun k => zs.getD k 0 - z)) = lvDn st W H zs z) := Lib.hid (by rw [← hL]; rfl)
 obtain ⟨qp, hqp⟩ : ∃ q, ((st * st / 2 : Int) : Rat) * sumR (L.map (upI fun k => zs.getD k 0 - z)) = q := ⟨_, rfl⟩
 obtain ⟨qn, hqn⟩ : ∃ q, ((st * st / 2 : Int) : Rat) * sumR (L.map (dnI fun k => zs.getD k 0 - z)) = q := ⟨_, rfl⟩
 simp only [hqp, hqn] at HTO
 rw [hqp] at HUP
 rw [hqn] at HDN
 rw [← HUP.out, ← HDN.out]
 clear hr hc hz hW hH hs1 hs2 hl hzs hlN hfz hL hLlen hqp hqn HUP HDN hlm
 obtain ⟨x0, x1, x2, x3, x4, x5⟩ := S.cc6 3 rfl
 have y0 := S.c 2 0 rfl rfl
 go_enter Tryz.func11, Tryz.ntmps11
 go_wp2_with fail
 refine HCK.out.mono ?_
 rintro e W1 ⟨rfl, hk⟩
 replace S := S.below hk
 clear hk hW0 x0 x1 x2 x3 x4 x5 y0
 obtain ⟨x0, x1, x2, x3, x4, x5⟩ := S.cc6 3 rfl
 have y0 := S.c 2 0 rfl rfl
 go_wp2_with fail
 refine (HFA.out _).mono ?_
 rintro e W2 ⟨rfl, hk⟩
 replace S := S.below hk
 clear hk x0 x1 x2 x3 x4 x5 y0
 go_upto_region 6 with fail
 refine wp_region_late 7 9 (m := 8) rfl (by kernel_rfl) (lv6Φ (grV gx gy st (W : Nat) (H : Nat) A zs.length c) (.func (.func 42) #[] #[.pointer (some ⟨w.heap.size, 0, none⟩), .pointer (some ⟨w.heap.size + 1, 0, none⟩)]) L qp qn) [] (by simp) ?_ ?_ ?_ ?_
 ·intro i v w w' hi h hk
  match i, hi with
  | 0, _ | 1, _ | 3, _ => exact h
  | 2, _ => exact h.elim fun A ⟨c, h1, h2⟩ => ⟨A, c, h1, h2.below hk⟩
  | 4, _ => exact st_tu _ _ _ h hk
  | 5, _ => exact st_tu _ _ _ h hk
  | 6, _ => exact RatRep.below h hk
  | 7, _ => exact RatRep.below h hk
  | i + 8, hi => exact absurd hi (by omega)
 ·intro i hi vs wph3 hk3 hd
  have S3 := S.drew.below hk3
  obtain ⟨a0, a1, a2, a3, a4, a5⟩ := S3.cc6 3 rfl
  match i, hi with
  | 0, _ =>
   refine step_yes [] rfl (by kernel_rfl) fun K hK => ?_
   simp only [frD] at hK ⊢
   refine ⟨by rfl, ?_⟩
   go_simp
   exact hK _ _ ⟨Below.refl _ _, rfl, by simp⟩
  | 1, _ =>
   refine step_yes [] rfl (by kernel_rfl) fun K hK => ?_
   simp only [frD] at hK ⊢
   refine ⟨by rfl, ?_⟩
   go_simp
   exact hK _ _ ⟨Below.refl _ _, rfl, by simp⟩
  | 2, _ =>
   have e1 : vs 1 = (grV gx gy st (W : Nat) (H : Nat) A zs.length c) := hd 1 (List.contains_iff_mem.1 (by kernel_rfl))
   refine step_yes [(1, some 21)] rfl (by kernel_rfl) fun K hK => ?_
   simp only [frD, e1] at hK ⊢
   refine ⟨by rfl, ?_⟩
   go_simp
   refine (HTR.out _ S3.k).mono ?_
   rintro e wph4 ⟨A', c', rfl, hT, hk4⟩
   exact hK _ _ ⟨hk4, ⟨A', c', rfl, TRow.of_own hT⟩, by simp⟩
  | 3, _ =>
   refine step_yes [] rfl (by kernel_rfl) fun K hK => ?_
   simp only [frD] at hK ⊢
   refine ⟨by rfl, ?_⟩
   go_simp
   exact hK _ _ ⟨Below.refl _ _, rfl, by simp⟩
  | 4, _ =>
   have e0 : vs 0 = (grV gx gy st (W : Nat) (H : Nat) A zs.length c) := hd 0 (List.contains_iff_mem.1 (by kernel_rfl))
   have h2 : ∃ A c, (vs 2) = .slice A L.length c ∧ TRow wph3 A L := hd 2 (List.contains_iff_mem.1 (by kernel_rfl))
   have e3 : vs 3 = (.func (.func 42) #[] #[.pointer (some ⟨w.heap.size, 0, none⟩), .pointer (some ⟨w.heap.size + 1, 0, none⟩)]) := hd 3 (List.contains_iff_mem.1 (by kernel_rfl))
   obtain ⟨A', c', q9, hT⟩ := h2
   refine step_yes [(0, some 20), (2, some 22), (3, some 23)] rfl (by kernel_rfl) fun K hK => ?_
   simp only [frD, e0, e3, q9] at hK ⊢
   refine ⟨by rfl, ?_⟩
   go_simp
   refine (trig_u (HTO.out A' c' _ S3.k (S3.o 3 rfl) (S3.o 2 rfl) hT)).mono ?_
   rintro e wph4 ⟨U, V, rfl, hr1, hr2, hk4⟩
   exact hK _ _ ⟨hk4, ⟨U, V, rfl, hr1, hr2⟩, by simp⟩
  | 5, _ =>
   have h4 : TupU qp qn (vs 4) wph3 := hd 4 (List.contains_iff_mem.1 (by kernel_rfl))
   obtain ⟨Q9, R9, q9, hQ9, hR9⟩ := h4
   refine step_yes [(4, some 24)] rfl (by kernel_rfl) fun K hK => ?_
   simp only [frD, q9] at hK ⊢
   refine ⟨by rfl, ?_⟩
   go_simp
   exact hK _ _ ⟨Below.refl _ _, ⟨Q9, R9, rfl, hQ9, hR9⟩, by simp⟩
  | 6, _ =>
   have h5 : TupU qp qn (vs 5) wph3 := hd 5 (List.contains_iff_mem.1 (by kernel_rfl))
   obtain ⟨Q9, R9, q9, hQ9, hR9⟩ := h5
   refine step_yes [(5, some 19)] rfl (by kernel_rfl) fun K hK => ?_
   simp only [frD, q9] at hK ⊢
   refine ⟨by rfl, ?_⟩
   go_simp
   exact hK _ _ ⟨Below.refl _ _, hQ9, by simp⟩
  | 7, _ =>
   have h5 : TupU qp qn (vs 5) wph3 := hd 5 (List.contains_iff_mem.1 (by kernel_rfl))
   obtain ⟨Q9, R9, q9, hQ9, hR9⟩ := h5
   refine step_yes [(5, some 19)] rfl (by kernel_rfl) fun K hK => ?_
   simp only [frD, q9] at hK ⊢
   refine ⟨by rfl, ?_⟩
   go_simp
   exact hK _ _ ⟨Below.refl _ _, hR9, by simp⟩
  | i + 8, hi => exact absurd hi (by omega)
 ·intro vs wph3 hk3 hd
  have h5 : TupU qp qn (vs 5) wph3 := hd 5 (List.contains_iff_mem.1 (by kernel_rfl))
  obtain ⟨Q9, R9, q9, hQ9, hR9⟩ := h5
  refine pure_at (v := R9) [(5, some 19)] rfl (by kernel_rfl) (by exact hR9) fun wph4 K hK => ?_
  simp only [frD, q9] at hK ⊢
  refine ⟨by rfl, ?_⟩
  go_simp
  exact hK
 ·intro vs wph3 hk3 hΦ _
  simp only [List.drop_succ_cons, List.drop_zero]
  rw [fr_frD, show (List.range 8).map _ = [(0, some 20), (1, some 21), (2, some 22), (3, some 23), (4, some 24), (5, some 19), (6, some 25), (7, some 26)] by kernel_rfl]
  have ph0 := hΦ 0 (by omega)
  have ph1 := hΦ 1 (by omega)
  have ph2 := hΦ 2 (by omega)
  have ph3 := hΦ 3 (by omega)
  have ph4 := hΦ 4 (by omega)
  have ph5 := hΦ 5 (by omega)
  have ph6 := hΦ 6 (by omega)
  have ph7 := hΦ 7 (by omega)
  simp only [lv6Φ] at ph0 ph1 ph2 ph3 ph4 ph5 ph6 ph7
  clear hΦ
  simp only [frD, ph0, ph1, ph3]
  simp only [Act.put, List.setIfInBounds_toArray, List.set_cons_zero, List.set_cons_succ]
  clear ph0
  clear ph1
  generalize vs 2 = U2 at ph2 ⊢
  clear ph3
  generalize vs 4 = U4 at ph4 ⊢
  generalize vs 5 = U5 at ph5 ⊢
  generalize vs 6 = U6 at ph6 ⊢
  generalize vs 7 = U7 at ph7 ⊢
  obtain ⟨b7, A7, n7, c7, d7, B7, m7, e7, rfl⟩ := ph6.open_
  obtain ⟨b8, A8, n8, c8, d8, B8, m8, e8, rfl⟩ := ph7.open_
  replace S := ((S.drew.below hk3).addQ ph6).addQ ph7
  obtain ⟨r7_0, r7_1, r7_2, r7_3⟩ := S.cc4 1 rfl
  obtain ⟨f7_0, f7_1, f7_2, f7_3⟩ := S.ff4 1 rfl
  obtain ⟨r8_0, r8_1, r8_2, r8_3⟩ := S.cc4 0 rfl
  obtain ⟨f8_0, f8_1, f8_2, f8_3⟩ := S.ff4 0 rfl
  go_upto_region 7 with fail
  replace S := (S.put4 1 rfl rfl rfl (x' := .bool b7) (y' := .slice A7 n7 c7) (z' := .bool d7) (u' := .slice B7 m7 e7)).put4 0 rfl rfl rfl (x' := .bool b8) (y' := .slice A8 n8 c8) (z' := .bool d8) (u' := .slice B8 m8 e8)
  obtain ⟨W9, eW, S⟩ := S.pack
  rw [eW]
  clear eW r7_0 r7_1 r7_2 r7_3 f7_0 f7_1 f7_2 f7_3 r8_0 r8_1 r8_2 r8_3 f8_0 f8_1 f8_2 f8_3 hk3 ph2 ph4 ph5 ph6 ph7 HTO HTR HCK HFA
  go_upto_region 7 with fail
  obtain ⟨W31, eX0, T0⟩ := S.drew.pack
  have r90_0 := T0.c 1 0 rfl rfl
  have f90_0 := T0.f 1 0 rfl
  have r90_1 := T0.c 1 1 rfl rfl
  have f90_1 := T0.f 1 1 rfl
  have r90_2 := T0.c 1 2 rfl rfl
  have f90_2 := T0.f 1 2 rfl
  have r90_3 := T0.c 1 3 rfl rfl
  have f90_3 := T0.f 1 3 rfl
  obtain ⟨W32, eX1, T1⟩ := (T0.put4 1 rfl rfl rfl (x' := .bool b7) (y' := .slice A7 n7 c7) (z' := .bool d7) (u' := .slice B7 m7 e7)).pack
  have r91_0 := T1.c 0 0 rfl rfl
  have f91_0 := T1.f 0 0 rfl
  have r91_1 := T1.c 0 1 rfl rfl
  have f91_1 := T1.f 0 1 rfl
  have r91_2 := T1.c 0 2 rfl rfl
  have f91_2 := T1.f 0 2 rfl
  have r91_3 := T1.c 0 3 rfl rfl
  have f91_3 := T1.f 0 3 rfl
  obtain ⟨W33, eX2, T2⟩ := (T1.put4 0 rfl rfl rfl (x' := .bool b8) (y' := .slice A8 n8 c8) (z' := .bool d8) (u' := .slice B8 m8 e8)).pack
  have C0_0 := Lib.hid (fun p => two_all (p := p) (a := 2) (b := 3) (X := fun w' => w'.cell? ⟨w.heap.size + 1 + 1, 0, none⟩ = some (.bool b7)) (T0.c 1 0 rfl rfl) (T1.c 1 0 rfl rfl) (T2.c 1 0 rfl rfl))
  have C0_1 := Lib.hid (fun p => two_all (p := p) (a := 2) (b := 3) (X := fun w' => w'.cell? ⟨w.heap.size + 1 + 1, 1, none⟩ = some (.slice A7 n7 c7)) (T0.c 1 1 rfl rfl) (T1.c 1 1 rfl rfl) (T2.c 1 1 rfl rfl))
  have C0_2 := Lib.hid (fun p => two_all (p := p) (a := 2) (b := 3) (X := fun w' => w'.cell? ⟨w.heap.size + 1 + 1, 2, none⟩ = some (.bool d7)) (T0.c 1 2 rfl rfl) (T1.c 1 2 rfl rfl) (T2.c 1 2 rfl rfl))
  have C0_3 := Lib.hid (fun p => two_all (p := p) (a := 2) (b := 3) (X := fun w' => w'.cell? ⟨w.heap.size + 1 + 1, 3, none⟩ = some (.slice B7 m7 e7)) (T0.c 1 3 rfl rfl) (T1.c 1 3 rfl rfl) (T2.c 1 3 rfl rfl))
  have C1_0 := Lib.hid (fun p => two_all (p := p) (a := 2) (b := 3) (X := fun w' => w'.cell? ⟨w.heap.size + 1 + 1 + 1, 0, none⟩ = some (.bool b8)) (T0.c 0 0 rfl rfl) (T1.c 0 0 rfl rfl) (T2.c 0 0 rfl rfl))
  have C1_1 := Lib.hid (fun p => two_all (p := p) (a := 2) (b := 3) (X := fun w' => w'.cell? ⟨w.heap.size + 1 + 1 + 1, 1, none⟩ = some (.slice A8 n8 c8)) (T0.c 0 1 rfl rfl) (T1.c 0 1 rfl rfl) (T2.c 0 1 rfl rfl))
  have C1_2 := Lib.hid (fun p => two_all (p := p) (a := 2) (b := 3) (X := fun w' => w'.cell? ⟨w.heap.size + 1 + 1 + 1, 2, none⟩ = some (.bool d8)) (T0.c 0 2 rfl rfl) (T1.c 0 2 rfl rfl) (T2.c 0 2 rfl rfl))
  have C1_3 := Lib.hid (fun p => two_all (p := p) (a := 2) (b := 3) (X := fun w' => w'.cell? ⟨w.heap.size + 1 + 1 + 1, 3, none⟩ = some (.slice B8 m8 e8)) (T0.c 0 3 rfl rfl) (T1.c 0 3 rfl rfl) (T2.c 0 3 rfl rfl))
  refine wp_region_det rfl (by kernel_rfl) (fun iF => List.getD [.agg #[.bool b7, .slice A7 n7 c7, .bool d7, .slice B7 m7 e7], .agg #[.bool b8, .slice A8 n8 c8, .bool d8, .slice B8 m8 e8], undef, undef, .int .i64 0] iF undef) (two W31 W32 W33 2 3) eX0.symm (two_cong (by decide) (by decide)) ?_ ?_
  ·intro i hi
   have hi' : i < 5 := hi
   match i, hi' with
   | 0, _ =>
    refine stepDet_at [] (some 27) rfl (by kernel_rfl) rfl (by kernel_rfl) fun p h1 h2 h3 K hK => ?_
    rw [two_other (by decide) (by decide)] at hK
    have c0_0 := C0_0.out p; have c0_1 := C0_1.out p; have c0_2 := C0_2.out p; have c0_3 := C0_3.out p; have c1_0 := C1_0.out p; have c1_1 := C1_1.out p; have c1_2 := C1_2.out p; have c1_3 := C1_3.out p
    simp only [frD, gz, Act.put, List.setIfInBounds_toArray, List.set_cons_zero, List.set_cons_succ] at hK ⊢
    clear h2 h3
    go_simp
    with_reducible exact hK
   | 1, _ =>
    refine stepDet_at [] (some 28) rfl (by kernel_rfl) rfl (by kernel_rfl) fun p h1 h2 h3 K hK => ?_
    rw [two_other (by decide) (by decide)] at hK
    have c0_0 := C0_0.out p; have c0_1 := C0_1.out p; have c0_2 := C0_2.out p; have c0_3 := C0_3.out p; have c1_0 := C1_0.out p; have c1_1 := C1_1.out p; have c1_2 := C1_2.out p; have c1_3 := C1_3.out p
    simp only [frD, gz, gs, Act.put, List.setIfInBounds_toArray, List.set_cons_zero, List.set_cons_succ] at hK ⊢
    clear h2 h3
    go_simp
    with_reducible exact hK
   | 2, _ =>
    refine stepDet_at [(0, some 27)] (none) rfl (by kernel_rfl) rfl (by kernel_rfl) fun p h1 h2 h3 K hK => ?_
    have pb : p 3 = false := by
     cases hc : p 3 with
     | false => rfl
     | true => exact absurd (h3 3 2 hc (List.contains_iff_mem.1 (by kernel_rfl))) (by simp [h1])
    have x := two_a (w0 := W31) (w1 := W32) (w2 := W33) (a := 2) (b := 3) (by decide) h1 pb
    rw [x.1]
    rw [x.2] at hK
    clear x
    simp only [frD, gz, Act.put, List.setIfInBounds_toArray, List.set_cons_zero, List.set_cons_succ] at hK ⊢
    clear h2 h3
    go_simp
    with_reducible exact hK
   | 3, _ =>
    refine stepDet_at [(0, some 27), (1, some 28), (2, none)] (none) rfl (by kernel_rfl) rfl (by kernel_rfl) fun p h1 h2 h3 K hK => ?_
    have pa : p 2 = true := h2 2 (List.contains_iff_mem.1 (by kernel_rfl))
    have x := two_b (w0 := W31) (w1 := W32) (w2 := W33) (a := 2) (b := 3) pa h1
    rw [x.1]
    rw [x.2] at hK
    clear x
    simp only [frD, gz, gs, Act.put, List.setIfInBounds_toArray, List.set_cons_zero, List.set_cons_succ] at hK ⊢
    clear h2 h3
    go_simp
    with_reducible exact hK
   | 4, _ =>
    refine stepDet_at [(0, some 27), (1, some 28), (2, none), (3, none)] (some 6) rfl (by kernel_rfl) rfl (by kernel_rfl) fun p h1 h2 h3 K hK => ?_
    rw [two_other (by decide) (by decide)] at hK
    have c0_0 := C0_0.out p; have c0_1 := C0_1.out p; have c0_2 := C0_2.out p; have c0_3 := C0_3.out p; have c1_0 := C1_0.out p; have c1_1 := C1_1.out p; have c1_2 := C1_2.out p; have c1_3 := C1_3.out p
    simp only [frD, gz, gs, Act.put, List.setIfInBounds_toArray, List.set_cons_zero, List.set_cons_succ] at hK ⊢
    clear h2 h3
    go_simp
    with_reducible exact hK
  ·rw [show two W31 W32 W33 2 3 (fun _ => true) = W33 from rfl, fr_frD, show (List.range _).map _ = [(0, some 27), (1, some 28), (2, none), (3, none), (4, some 6)] by kernel_rfl]
   simp only [frD, gz, gs, Act.put, List.setIfInBounds_toArray, List.set_cons_zero, List.set_cons_succ]
   clear S eX0 eX1 eX2 T0 T1 r90_0 f90_0 r90_1 f90_1 r90_2 f90_2 r90_3 f90_3 r91_0 f91_0 r91_1 f91_1 r91_2 f91_2 r91_3 f91_3
   clear C0_0
   clear C0_1
   clear C0_2
   clear C0_3
   clear C1_0
   clear C1_1
   clear C1_2
   clear C1_3
   have S := T2
   clear T2
   obtain ⟨r0_0, r0_1, r0_2, r0_3⟩ := S.cc4 1 rfl
   obtain ⟨r1_0, r1_1, r1_2, r1_3⟩ := S.cc4 0 rfl
   go_wp2
   refine bodyPost_ret (v := .tuple #[.agg #[.bool b7, .slice A7 n7 c7, .bool d7, .slice B7 m7 e7], .agg #[.bool b8, .slice A8 n8 c8, .bool d8, .slice B8 m8 e8], .int .i64 0]) (by simp [results, Tryz.results11, go_sem, S.c 1 0 rfl rfl, S.c 1 1 rfl rfl, S.c 1 2 rfl rfl, S.c 1 3 rfl rfl, S.c 0 0 rfl rfl, S.c 0 1 rfl rfl, S.c 0 2 rfl rfl, S.c 0 3 rfl rfl]) rfl ?_
   exact ⟨_, _, rfl, S.qi 1 rfl, S.qi 0 rfl, S.k⟩
end Go.Proofs.YtecibfncnaccjaaGreat
namespace Go.Proofs.YtecibfncnaccjaaGreat
open Go.RowKit
theorem Bxs.of_all {w : World} : ∀ {l : List Bx}, (∀ p ∈ l, Own w p.1 p.2.1 p.2.2) → Bxs w l
 | [], _ => trivial
 | p :: _, h => ⟨h p List.mem_cons_self, Bxs.of_all fun q hq => h q (List.mem_cons_of_mem _ hq)⟩
theorem St.perm {w0 w : World} {bs bs' : List Bx} {ps : List (World → Prop)} (S : St w0 w bs ps) (h : bs.Perm bs') : St w0 w bs' ps :=
 ⟨S.k, Bxs.of_all fun _ hp => S.b.mem (h.mem_iff.2 hp), fun p hp => S.lo p (h.mem_iff.2 hp), (h.pairwise_iff (fun h => h.symm)).1 S.d, S.p⟩
theorem szR_cT {tip : Rat → Rat → Rat → Rat} {rest : Rat → Rat → Rat → Rat → Rat} {t : R3} (hz : szR t.1 ≤ 1 ∧ szR t.2.1 ≤ 1 ∧ szR t.2.2 ≤ 1)
 (h1 : ∀ x y z, szR x ≤ 1 → szR y ≤ 1 → szR z ≤ 1 → szR (tip x y z) ≤ 15) (h2 : ∀ x y z t, szR x ≤ 1 → szR y ≤ 1 → szR z ≤ 1 → szR t ≤ 15 → szR (rest x y z t) ≤ 30) : szR (cT tip rest t) ≤ 30 := by
 have h0 := szR_null
 have hf : szR (firstT t).1 ≤ 1 ∧ szR (firstT t).2.1 ≤ 1 ∧ szR (firstT t).2.2 ≤ 1 := by
  obtain ⟨a, b, c⟩ := hz
  unfold firstT
  split
  ·exact ⟨a, b, c⟩
  ·split
   ·exact ⟨b, c, a⟩
   ·exact ⟨c, a, b⟩
 have ht := h1 _ _ _ hf.1 hf.2.1 hf.2.2
 unfold cT
 split
 ·omega
 ·split
  ·exact h2 _ _ _ _ hz.1 hz.2.1 hz.2.2 (by omega)
  ·split
   ·exact h2 _ _ _ _ hf.1 hf.2.1 hf.2.2 ht
   ·omega
theorem szR_shR (x y z : Rat) (h1 : szR x ≤ 1) (h2 : szR y ≤ 1) (h3 : szR z ≤ 1) : szR (shR x y z) ≤ 15 := by
 have := szR_share x y z
 unfold shR
 omega
theorem szR_restA (x y z t : Rat) (_ : szR x ≤ 1) (_ : szR y ≤ 1) (_ : szR z ≤ 1) (h : szR t ≤ 15) : szR (restA x y z t) ≤ 30 := by
 have := szR_one_sub t
 unfold restA
 omega
def hgtT (zs : List Int) (lv : Int) (t : Tri) : R3 := (Rat.divInt (2 * zs.getD t.1 0 - lv) 2, Rat.divInt (2 * zs.getD t.2.1 0 - lv) 2, Rat.divInt (2 * zs.getD t.2.2 0 - lv) 2)
theorem hgt_sz {zs : List Int} {lv : Int} {W H : Nat} {t : Tri} (hl : zs.length = W * H) (hz : ∀ z ∈ zs, badZ z = false) (h : t ∈ triL W H zs) (hlv : -3000000 ≤ lv ∧ lv ≤ 3000000) : szR (hgtT zs lv t).1 ≤ 1 ∧ szR (hgtT zs lv t).2.1 ≤ 1 ∧ szR (hgtT zs lv t).2.2 ≤ 1 := by
 obtain ⟨-, h1, h2, h3⟩ := triL_bd hl hz h
 refine ⟨?_, ?_, ?_⟩ <;> exact szR_small _ _ (by decide) (by omega) (by decide)
end Go.Proofs.YtecibfncnaccjaaGreat
namespace Go.Proofs.YtecibfncnaccjaaGreat
open Go.RowKit Go.Shelf
def CIA (w : World) (P1 : Nat) (gx gy st gw gh lv : Int) (Az : Option Addr) (nz cz : Nat) (zs : List Int) (l : List Tri) (bs : List Bx) (u : World) : Prop :=
 (∀ t ∈ l, szR (cT shR restA (hgtT zs lv t)) ≤ 30) ∧
 ∃ (b8 : Bool) (A8 : Option Addr) (n8 c8 : Nat) (d8 : Bool) (B8 : Option Addr) (m8 e8 : Nat), St w u ((P1, 35, [.bool b8, .slice A8 n8 c8, .bool d8, .slice B8 m8 e8]) :: (w.heap.size + 1 + 1 + 1 + 1, 35, [.bool false, .slice none 0 0, .bool false, .slice none 0 0]) :: (w.heap.size + 1 + 1 + 1, 59, [.func (.func 43) #[] #[]]) :: (w.heap.size + 1 + 1, 58, [.func (.func 33) #[] #[]]) :: (w.heap.size + 1, 3, [.int .i64 lv]) :: (w.heap.size, 24, grL gx gy st gw gh Az nz cz) :: bs) [fun w => RatRep w (.agg #[.bool b8, .slice A8 n8 c8, .bool d8, .slice B8 m8 e8]) (sumR (l.map fun t => cT shR restA (hgtT zs lv t)))]
theorem visIA {w : World} {P1 : Nat} {gx gy st gw gh lv : Int} {Az : Option Addr} {nz cz : Nat} {zs : List Int} (hr : IRow w Az zs) : VisI (CIA w P1 gx gy st gw gh lv Az nz cz zs) Az zs := by
 refine ⟨?_, ?_, ?_, ?_, ?_⟩
 ·rintro l bs u ⟨hsz, b8, A8, n8, c8, d8, B8, m8, e8, S⟩
  exact hr.below S.k
 ·rintro l bs u u' ⟨hsz, b8, A8, n8, c8, d8, B8, m8, e8, S⟩ hk
  exact ⟨hsz, b8, A8, n8, c8, d8, B8, m8, e8, S.below hk⟩
 ·rintro l bs u t vs ⟨hsz, b8, A8, n8, c8, d8, B8, m8, e8, S⟩
  refine ⟨hsz, b8, A8, n8, c8, d8, B8, m8, e8, (S.alloc t vs).perm ?_⟩
  exact (List.perm_middle (l₁ := [_, _, _, _, _, _]) (l₂ := bs)).symm
 ·rintro l b bs u ⟨hsz, b8, A8, n8, c8, d8, B8, m8, e8, S⟩
  exact ⟨hsz, b8, A8, n8, c8, d8, B8, m8, e8, (S.perm (List.perm_middle (l₁ := [_, _, _, _, _, _]) (l₂ := bs))).dropb⟩
 ·rintro l bs u b ⟨hsz, b8, A8, n8, c8, d8, B8, m8, e8, S⟩ hb
  exact S.b.mem (List.mem_append_right [_, _, _, _, _, _] hb)
def totA (st : Int) (W H : Nat) (zs : List Int) (lv : Int) : Rat := sumR ((triL W H zs).map fun t => cT shR restA (hgtT zs lv t)) * Rat.divInt (st * st) 2
set_option maxRecDepth 100000 in
set_option maxHeartbeats 4000000 in
theorem ctotal_a {w : World} {Az : Option Addr} {cz : Nat} {zs : List Int} (hr : IRow w Az zs) (gx gy st lv : Int) (W H : Nat) (hc : chkG gx gy st (W : Nat) (H : Nat) zs = 0) (hlm : zs.length ≤ 100) (hlv : -3000000 ≤ lv ∧ lv ≤ 3000000) :
 Calls Tryz.prog 37 #[grV gx gy st (W : Nat) (H : Nat) Az zs.length cz, .int .i64 lv, .func (.func 33) #[] #[], .func (.func 43) #[] #[]] w (RGives (totA st W H zs lv) w) := by
 obtain ⟨hW, hH, ⟨hs1, hs2, -⟩, hl, hzs, -, -⟩ := chkG_ok hc
 have hlN : zs.length = W * H := by exact_mod_cast hl
 have hW2 : 2 ≤ W ∧ W ≤ 64 := by omega
 have hH2 : 2 ≤ H ∧ H ≤ 64 := by omega
 have HW := Lib.hid hW2
 have HH := Lib.hid hH2
 have HL := Lib.hid hlN
 have HR := Lib.hid hr
 have hvis : ∀ (P1 : Nat) (l : List Tri) (t : Tri) (bs : List Bx) (u : World), CIA w P1 gx gy st (W : Nat) (H : Nat) lv Az zs.length cz zs l bs u → t ∈ triL W H zs → l.length ≤ 2 * (W * H) + 2 → Calls Tryz.prog 72 #[.agg #[.int .i64 (t.1 : Nat), .int .i64 (t.2.1 : Nat), .int .i64 (t.2.2 : Nat)], .pointer (some ⟨w.heap.size, 0, none⟩), .pointer (some ⟨w.heap.size + 1, 0, none⟩), .pointer (some ⟨P1, 0, none⟩), .pointer (some ⟨w.heap.size + 1 + 1 + 1, 0, none⟩), .pointer (some ⟨w.heap.size + 1 + 1, 0, none⟩)] u fun e u' => e = .returned (.tuple #[]) ∧ CIA w P1 gx gy st (W : Nat) (H : Nat) lv Az zs.length cz zs (l ++ [t]) bs u' := by
  rintro P1 l ⟨ta, tb, td⟩ bs u ⟨hsz, b8, A8, n8, c8, d8, B8, m8, e8, S⟩ ht hll
  obtain ⟨⟨i1, i2, i3⟩, h1, h2, h3⟩ := triL_bd hlN hzs ht
  simp only at i1 i2 i3 h1 h2 h3
  obtain ⟨bz, oz, rfl, -⟩ := IRow.at hr i1
  have q1 : ∀ v, Keeps w v → v.cell? ⟨bz, oz + ta, none⟩ = some (.int .i64 (zs.getD ta 0)) := fun v hk => by
   obtain ⟨b', o', e, h⟩ := IRow.at (hr.below hk) i1
   cases e
   exact h
  have q2 : ∀ v, Keeps w v → v.cell? ⟨bz, oz + tb, none⟩ = some (.int .i64 (zs.getD tb 0)) := fun v hk => by
   obtain ⟨b', o', e, h⟩ := IRow.at (hr.below hk) i2
   cases e
   exact h
  have q3 : ∀ v, Keeps w v → v.cell? ⟨bz, oz + td, none⟩ = some (.int .i64 (zs.getD td 0)) := fun v hk => by
   obtain ⟨b', o', e, h⟩ := IRow.at (hr.below hk) i3
   cases e
   exact h
  have hsz1 := szR_sum (m := 30) (l := l.map fun t => cT shR restA (hgtT zs lv t)) (fun q hq => by obtain ⟨t, ht, rfl⟩ := List.mem_map.1 hq; exact hsz t ht) _ (Nat.le_refl _)
  rw [List.take_length, List.length_map] at hsz1
  have hll2 : l.length ≤ 202 := by omega
  refine (visit_a S (by omega) q1 (by omega) (by omega) q2 (by omega) (by omega) q3 (by omega) (by omega) (by omega) hlv).mono ?_
  rintro e u' ⟨rfl, b, A1, n1, c1, d, B1, m1, e1, S'⟩
  refine ⟨rfl, fun t ht2 => ?_, b, A1, n1, c1, d, B1, m1, e1, ?_⟩
  ·rcases List.mem_append.1 ht2 with h | h
   ·exact hsz t h
   ·obtain rfl := List.mem_singleton.1 h
    exact szR_cT (hgt_sz hlN hzs ht hlv) szR_shR szR_restA
  ·rw [List.map_append, List.map_cons, List.map_nil, sumR_snoc]
   exact S'
 have HTL : Hid ((triL W H zs).length ≤ 200) := Lib.hid (by have := triL_len W H zs; omega)
 have hq0 : 0 ≤ st * st := Int.mul_nonneg (by omega) (by omega)
 have hq1 : st * st ≤ 65536 * 65536 := Int.mul_le_mul hs2 hs2 (by omega) (by omega)
 obtain ⟨sq, hsq⟩ : ∃ q, st * st = q := ⟨_, rfl⟩
 have HSQ := Lib.hid hsq
 rw [hsq] at hq0 hq1
 have HZH : Hid (szR (Rat.divInt sq 2) ≤ 3) := Lib.hid (by
  have h1 := szR_divInt sq 2 (by decide)
  have h2 : lenI sq ≤ 3 := dig_length_le (n := sq.natAbs) (k := 3) (by omega)
  have h3 : lenI 2 ≤ 1 := by decide +kernel
  omega)
 obtain ⟨lv1, lv2⟩ := hlv
 obtain ⟨n, hn⟩ : ∃ n, zs.length = n := ⟨_, rfl⟩
 clear hr hc hlm hs1 hs2 hl hzs hlN hW2 hH2 hW hH hn
 have y0 := szR_int 0
 have S := (St.start w)
 go_enter Tryz.func37, Tryz.ntmps37
 go_wp2_with fail
 replace S := (((((S.alloc 24 [.int .i64 gx, .int .i64 gy, .int .i64 st, .int .i64 (W : Nat), .int .i64 (H : Nat), .slice Az zs.length cz]).alloc 3 [.int .i64 lv]).alloc 58 [.func (.func 33) #[] #[]]).alloc 59 [.func (.func 43) #[] #[]]).alloc 35 [.bool false, .slice none 0 0, .bool false, .slice none 0 0])
 simp only [World.size_alloc] at S
 obtain ⟨W1, eW, S⟩ := S.pack
 rw [eW]
 clear eW
 refine ((whole_num 0 (by omega) (by omega))).mono ?_
 rintro e W2 ⟨U2, rfl, hp, hk⟩
 obtain ⟨b3, A3, n3, c3, d3, B3, m3, e3, rfl⟩ := hp.open_
 replace S := (S.below hk).addQ hp
 clear hk hp
 go_upto_region 2 with fail
 replace S := (S.alloc 35 [.bool b3, .slice A3 n3 c3, .bool d3, .slice B3 m3 e3])
 obtain ⟨W3, eW, S⟩ := S.pack
 rw [eW]
 clear eW
 generalize W2.heap.size = P1 at *
 have hini : CIA w P1 gx gy st (W : Nat) (H : Nat) lv Az zs.length cz zs [] [] W3 := ⟨(fun t ht => by cases ht), b3, A3, n3, c3, d3, B3, m3, e3, S⟩
 have HT := Lib.hid (ctriangles_any (c := cz) (visIA HR.out) hini (hvis P1) gx gy st HW.out HH.out HL.out)
 obtain ⟨x0, x1, x2, x3, x4, x5⟩ := S.cc6 5 rfl
 clear hini hvis
 go_wp2_with fail
 refine HT.out.mono ?_
 rintro e W9 ⟨rfl, hsz9, b8, A8, n8, c8, d8, B8, m8, e8, S⟩
 clear x0 x1 x2 x3 x4 x5 HT
 have zsu : szR (sumR ((triL W H zs).map fun t => cT shR restA (hgtT zs lv t))) ≤ 90000 := by
  have h := szR_sum (m := 30) (l := (triL W H zs).map fun t => cT shR restA (hgtT zs lv t)) (fun q hq => by obtain ⟨t, ht, rfl⟩ := List.mem_map.1 hq; exact hsz9 t ht) _ (Nat.le_refl _)
  rw [List.take_length, List.length_map] at h
  have h2 := HTL.out
  omega
 clear hsz9
 have HFIN : Hid (totA st W H zs lv = sumR ((triL W H zs).map fun t => cT shR restA (hgtT zs lv t)) * Rat.divInt sq 2) := Lib.hid (by unfold totA; rw [HSQ.out])
 have zh : szR (Rat.divInt sq 2) ≤ 3 := HZH.out
 generalize sumR ((triL W H zs).map fun t => cT shR restA (hgtT zs lv t)) = su at *
 have y0 := szR_mul su (Rat.divInt sq 2)
 obtain ⟨r0_0, r0_1, r0_2, r0_3, r0_4, r0_5⟩ := S.cc6 5 rfl
 go_wp2_with fail
 refine ((rcode_eq (c' := 0) (fof_num sq 2 (by omega) (by omega) (by omega) (by omega)) (by decide) rfl)).mono ?_
 rintro e W41 ⟨U41, rfl, hp, hk⟩
 rw [if_pos rfl] at hp
 obtain ⟨b43, A43, n43, c43, d43, B43, m43, e43, rfl⟩ := hp.open_
 replace S := (S.below hk).addQ hp
 clear hk hp
 clear r0_0 r0_1 r0_2 r0_3 r0_4 r0_5
 go_upto_region 4 with fail
 replace S := (S.alloc 35 [.bool b43, .slice A43 n43 c43, .bool d43, .slice B43 m43 e43])
 obtain ⟨W42, eW, S⟩ := S.pack
 rw [eW]
 clear eW
 generalize W41.heap.size = P41 at *
 obtain ⟨r5_0, r5_1, r5_2, r5_3⟩ := S.cc4 1 rfl
 obtain ⟨r6_0, r6_1, r6_2, r6_3⟩ := S.cc4 0 rfl
 go_wp2_with fail
 refine ((fmul_num ((S.qi 1 rfl).num (by omega)) ((S.qi 0 rfl).num (by omega)))).mono ?_
 rintro e W43 ⟨U43, rfl, hp, hk⟩
 obtain ⟨b44, A44, n44, c44, d44, B44, m44, e44, rfl⟩ := hp.open_
 replace S := (S.below hk).addQ hp
 clear hk hp
 clear r5_0 r5_1 r5_2 r5_3 r6_0 r6_1 r6_2 r6_3
 have r4_0 := S.c 2 0 rfl rfl
 have f4_0 := S.f 2 0 rfl
 have r4_1 := S.c 2 1 rfl rfl
 have f4_1 := S.f 2 1 rfl
 have r4_2 := S.c 2 2 rfl rfl
 have f4_2 := S.f 2 2 rfl
 have r4_3 := S.c 2 3 rfl rfl
 have f4_3 := S.f 2 3 rfl
 go_wp2
 replace S := (S.put4 2 rfl rfl rfl (x' := .bool b44) (y' := .slice A44 n44 c44) (z' := .bool d44) (u' := .slice B44 m44 e44))
 refine bodyPost_ret (v := .agg #[.bool b44, .slice A44 n44 c44, .bool d44, .slice B44 m44 e44]) (by simp [results, Tryz.results37, go_sem, S.c 2 0 rfl rfl, S.c 2 1 rfl rfl, S.c 2 2 rfl rfl, S.c 2 3 rfl rfl]) rfl ?_
 exact ⟨_, rfl, by rw [HFIN.out]; exact S.qi 0 rfl, S.k⟩
set_option maxRecDepth 100000 in
set_option maxHeartbeats 1000000 in
theorem cAbove_w {w : World} {gx gy st gw gh lv : Int} {Az : Option Addr} {nz cz : Nat} {QT : Rat} (hcl : ∀ u, Keeps w u → Calls Tryz.prog 29 #[grV gx gy st gw gh Az nz cz, .int .i64 lv] u fun e w' => e = .returned (.int .i64 0) ∧ Keeps u w') (hto : ∀ u, Keeps w u → Calls Tryz.prog 37 #[grV gx gy st gw gh Az nz cz, .int .i64 lv, .func (.func 33) #[] #[], .func (.func 43) #[] #[]] u (RGives QT u)) : Calls Tryz.prog 12 #[.agg #[.int .i64 gx, .int .i64 gy, .int .i64 st, .int .i64 gw, .int .i64 gh, .slice Az nz cz], .int .i64 lv] w (RCode 0 QT w) := by
 have HCL := Lib.hid hcl
 have HTO := Lib.hid hto
 clear hcl hto
 have S := (St.start w)
 go_enter Tryz.func12, Tryz.ntmps12
 go_upto_region 1 with fail
 replace S := ((S.alloc 24 [.int .i64 gx, .int .i64 gy, .int .i64 st, .int .i64 gw, .int .i64 gh, .slice Az nz cz]).alloc 35 [.bool false, .slice none 0 0, .bool false, .slice none 0 0])
 simp only [World.size_alloc] at S
 obtain ⟨W1, eW, S⟩ := S.pack
 rw [eW]
 clear eW
 obtain ⟨r0_0, r0_1, r0_2, r0_3, r0_4, r0_5⟩ := S.cc6 1 rfl
 go_wp2_with fail
 refine ((HCL.out _ S.k)).mono ?_
 rintro e W2 ⟨rfl, hk⟩
 replace S := S.below hk
 clear hk
 clear r0_0 r0_1 r0_2 r0_3 r0_4 r0_5
 obtain ⟨r0_0, r0_1, r0_2, r0_3, r0_4, r0_5⟩ := S.cc6 1 rfl
 go_wp2_with fail
 refine ((HTO.out _ S.k)).mono ?_
 rintro e W3 ⟨U3, rfl, hp, hk⟩
 obtain ⟨b3, A3, n3, c3, d3, B3, m3, e3, rfl⟩ := hp.open_
 replace S := (S.below hk).addQ hp
 clear hk hp
 clear r0_0 r0_1 r0_2 r0_3 r0_4 r0_5
 have r1_0 := S.c 0 0 rfl rfl
 have f1_0 := S.f 0 0 rfl
 have r1_1 := S.c 0 1 rfl rfl
 have f1_1 := S.f 0 1 rfl
 have r1_2 := S.c 0 2 rfl rfl
 have f1_2 := S.f 0 2 rfl
 have r1_3 := S.c 0 3 rfl rfl
 have f1_3 := S.f 0 3 rfl
 go_wp2
 replace S := (S.put4 0 rfl rfl rfl (x' := .bool b3) (y' := .slice A3 n3 c3) (z' := .bool d3) (u' := .slice B3 m3 e3))
 refine bodyPost_ret (v := .tuple #[.agg #[.bool b3, .slice A3 n3 c3, .bool d3, .slice B3 m3 e3], .int .i64 0]) (by simp [results, Tryz.results12, go_sem, S.c 0 0 rfl rfl, S.c 0 1 rfl rfl, S.c 0 2 rfl rfl, S.c 0 3 rfl rfl]) rfl ?_
 exact ⟨_, rfl, by rw [if_pos rfl]; exact S.qi 0 rfl, S.k⟩
section
variable {w : World} {Az : Option Addr} {cz : Nat} {zs : List Int}
theorem cabove_any (hr : IRow w Az zs) (gx gy st lv : Int) (W H : Nat) (hc : chkG gx gy st (W : Nat) (H : Nat) zs = 0) (hlm : zs.length ≤ 100) (hv : lv % 2 = 1) (h1 : -2097153 ≤ lv) (h2 : lv ≤ 2097153) :
 Calls Tryz.prog 12 #[grV gx gy st (W : Nat) (H : Nat) Az zs.length cz, .int .i64 lv] w (RCode 0 (totA st W H zs lv) w) :=
 cAbove_w (fun _ hk => clevel_ok (hr.below hk) gx gy st _ _ lv (by simp only [maxLen]; omega) hc hv h1 h2) (fun _ hk => ctotal_a (hr.below hk) gx gy st lv W H hc hlm (by omega))
end
end Go.Proofs.YtecibfncnaccjaaGreat
