/- What an opening takes away is the volume between both surfaces. No program in sight. The walk of the law TopOpening. The rows' last step, for laws of height grids: the arguments opened, read anew behind the call. -/
import Derived.Test.YtecibfncnaccjaaGreatPo51
import Derived.Test.YtecibfncnaccjaaGreatPo53
import Derived.Test.YtecibfncnaccjaaGreatPo29
import Derived.Test.YtecibfncnaccjaaGreatRows
import Derived.Lib.SmallJoins
import Derived.Carry
import Derived.ChangeSame
import Derived.ChangeSlices
import Derived.ChangeMaps5
import Derived.SizedLaws
import Derived.ProofKit
import Derived.OpenShut
import Derived.Deep.SlicePairs
import Derived.Deep.DeepHandedRow
import Derived.Deep.DeepWitnessRowRef
import Derived.Deep.DeepLaidRun
namespace Go.Proofs.YtecibfncnaccjaaGreat
theorem upV_pos {x y z : Rat} (hx : 0 ≤ x) (hy : 0 ≤ y) (hz : 0 ≤ z) : upV x y z = (x + y + z) / 3 ∧ dnV x y z = 0 := by
 obtain ⟨a, b, c, h, h1, h2, hp⟩ := srtR_3 x y z
 simp only [List.cons.injEq, and_true] at hp
 have ha : 0 ≤ a := by rcases hp with ⟨rfl, rfl, rfl⟩ | ⟨rfl, rfl, rfl⟩ | ⟨rfl, rfl, rfl⟩ | ⟨rfl, rfl, rfl⟩ | ⟨rfl, rfl, rfl⟩ | ⟨rfl, rfl, rfl⟩ <;> assumption
 constructor
 ·rw [upV_cV, cV_sorted h1 h2 hp, cS_p3 h1 h2 ha]
  rcases hp with ⟨rfl, rfl, rfl⟩ | ⟨rfl, rfl, rfl⟩ | ⟨rfl, rfl, rfl⟩ | ⟨rfl, rfl, rfl⟩ | ⟨rfl, rfl, rfl⟩ | ⟨rfl, rfl, rfl⟩ <;> grind
 ·have e : dnV x y z = dnT a b c := by unfold dnV; rw [h]; rfl
  rw [e, dnT, if_pos ha]
theorem sum_zero {α : Type} {l : List α} {f : α → Rat} (h : ∀ t ∈ l, f t = 0) : sumR (l.map f) = 0 := by
 induction l with
 | nil => simp [sumR]
 | cons a l ih =>
  rw [List.map_cons, sumR_cons, h a List.mem_cons_self, ih fun t ht => h t (List.mem_cons_of_mem _ ht)]
  grind
theorem cast_nonneg {n : Int} (h : 0 ≤ n) : (0 : Rat) ≤ (n : Rat) := by have := Rat.intCast_le_intCast.2 h; simpa using this
theorem sum_congr {α : Type} {l : List α} {f g : α → Rat} (h : ∀ t ∈ l, f t = g t) : sumR (l.map f) = sumR (l.map g) := by rw [List.map_congr_left h]
theorem isZ_mem {zs : List Int} {y : Int} (h : y ∈ zs) : ∃ k, k < zs.length ∧ zs.getD k 0 = y := by
 obtain ⟨k, hk, rfl⟩ := List.mem_iff_getElem.1 h
 exact ⟨k, hk, by simp [List.getD, hk]⟩
theorem bad_of_all {b : Int} (hb : b ≤ 1048576) {zs : List Int} (h : AllZ (InZ b) zs) : ∀ y ∈ zs, badZ y = false := fun y hy => by
 obtain ⟨k, hk, rfl⟩ := isZ_mem hy
 unfold badZ farP
 cases hz : isZ zs k with
 | true =>
  have := h k hk hz
  unfold InZ at this
  simp only [Bool.and_eq_false_iff, Bool.or_eq_false_iff, decide_eq_false_iff_not]
  exact .inr ⟨by omega, by omega⟩
 | false =>
  have e : zs.getD k 0 = -2147483648 := by unfold isZ at hz; simpa [bne] using hz
  rw [e]
  rfl
theorem chk_of {gx gy st W H : Int} {zs ys : List Int} (hc : chkG gx gy st W H zs = 0) (hl : ys.length = zs.length) (hb : ∀ y ∈ ys, badZ y = false) : chkG gx gy st W H ys = 0 := by
 have ha : ys.any badZ = false := by rw [List.any_eq_false]; intro y hy; rw [hb y hy]; simp
 unfold chkG at hc ⊢
 split at hc
 ·cases hc
 ·rename_i h1
  rw [if_neg h1, hl]
  split at hc
  ·cases hc
  ·rename_i h2
   rw [if_neg h2, ha]
   rfl
section
variable {W H r : Nat} {zs os : List Int}
theorem diff_length : (diffL zs os).length = zs.length := by simp [diffL]
theorem diff_getD {k : Nat} (hk : k < zs.length) : (diffL zs os).getD k 0 = diffK zs os k := by simp [diffL, List.getD, hk]
theorem diff_isZ {k : Nat} (hk : k < zs.length) (hs : isZ os k = isZ zs k) (hb : isZ zs k = true → -2000000 ≤ zs.getD k 0 - os.getD k 0) : isZ (diffL zs os) k = isZ zs k := by
 unfold isZ at hs ⊢
 rw [diff_getD hk]
 unfold diffK isZ
 cases hz : (zs.getD k 0 != -2147483648) with
 | true =>
  have := hb (by unfold isZ; exact hz)
  rw [hs, hz, if_pos (show (true && true) = true from rfl)]
  exact bne_iff_ne.2 (by omega)
 | false =>
  rw [if_neg (by simp)]
  rfl
end
structure OpenOk (st : Int) (W H : Nat) (zs os : List Int) : Prop where
 below : ((st * st / 2 : Int) : Rat) * sumR ((triL W H zs).map (dnI fun k => zs.getD k 0 - os.getD k 0)) = 0
 under : lvDn st W H zs (-524288) = 0
 above : ((st * st / 2 : Int) : Rat) * sumR ((triL W H zs).map (upI fun k => zs.getD k 0 - os.getD k 0)) = lvUp st W H zs (-524288) - lvUp st W H os (-524288)
 diff : ((st * st / 2 : Int) : Rat) * sumR ((triL W H zs).map (upI fun k => zs.getD k 0 - os.getD k 0)) = lvUp st W H (diffL zs os) 0
theorem open_ok {st : Int} {W H : Nat} {zs os : List Int} (hl : zs.length = W * H) (hz : AllZ (InZ 524288) zs) (ho : AllZ (InZ 524288) os) (hs : ∀ k, k < W * H → isZ os k = isZ zs k) (hol : os.length = zs.length) (hle : ∀ k, k < zs.length → isZ zs k = true → os.getD k 0 ≤ zs.getD k 0) :
 OpenOk st W H zs os := by
 have hT : ∀ t ∈ triL W H zs, (t.1 < zs.length ∧ t.2.1 < zs.length ∧ t.2.2 < zs.length) ∧ isZ zs t.1 = true ∧ isZ zs t.2.1 = true ∧ isZ zs t.2.2 = true := fun t ht => by
  have h1 := triL_lt ht
  have h2 := (List.mem_filter.1 ht).2
  unfold hereT at h2
  simp only [Bool.and_eq_true] at h2
  rw [hl]
  exact ⟨h1, h2.1.1, h2.1.2, h2.2⟩
 have hK : ∀ k, k < zs.length → isZ zs k = true → (-524288 ≤ zs.getD k 0 ∧ zs.getD k 0 ≤ 524288) ∧ (-524288 ≤ os.getD k 0 ∧ os.getD k 0 ≤ zs.getD k 0) ∧ (diffL zs os).getD k 0 = zs.getD k 0 - os.getD k 0 := fun k hk h => by
  have h2 : isZ os k = true := by rw [hs k (by omega)]; exact h
  have a := hz k hk h
  have b := ho k (by omega) h2
  unfold InZ at a b
  refine ⟨a, ⟨by omega, hle k hk h⟩, ?_⟩
  rw [diff_getD hk, diffK, h, h2]
  rfl
 have hto : triL W H os = triL W H zs := triL_same hs
 have htd : triL W H (diffL zs os) = triL W H zs := triL_same fun k hk => diff_isZ (by omega) (hs k hk) fun h => by have := hK k (by omega) h; omega
 have hv : ∀ (f : Nat → Int) (t : Tri), 0 ≤ f t.1 → 0 ≤ f t.2.1 → 0 ≤ f t.2.2 → upI f t = ((f t.1 : Rat) + (f t.2.1 : Rat) + (f t.2.2 : Rat)) / 3 ∧ dnI f t = 0 := fun f t h1 h2 h3 => upV_pos (cast_nonneg h1) (cast_nonneg h2) (cast_nonneg h3)
 have hD : ∀ t ∈ triL W H zs, upI (fun k => zs.getD k 0 - os.getD k 0) t = (((zs.getD t.1 0 - os.getD t.1 0 : Int) : Rat) + ((zs.getD t.2.1 0 - os.getD t.2.1 0 : Int) : Rat) + ((zs.getD t.2.2 0 - os.getD t.2.2 0 : Int) : Rat)) / 3 ∧ dnI (fun k => zs.getD k 0 - os.getD k 0) t = 0 := fun t ht => by
  obtain ⟨⟨i1, i2, i3⟩, z1, z2, z3⟩ := hT t ht
  have a1 := hK _ i1 z1
  have a2 := hK _ i2 z2
  have a3 := hK _ i3 z3
  exact hv (fun k => zs.getD k 0 - os.getD k 0) t (by show 0 ≤ zs.getD t.1 0 - os.getD t.1 0; omega) (by show 0 ≤ zs.getD t.2.1 0 - os.getD t.2.1 0; omega) (by show 0 ≤ zs.getD t.2.2 0 - os.getD t.2.2 0; omega)
 have hZ : ∀ t ∈ triL W H zs, upI (fun k => zs.getD k 0 - -524288) t = (((zs.getD t.1 0 - -524288 : Int) : Rat) + ((zs.getD t.2.1 0 - -524288 : Int) : Rat) + ((zs.getD t.2.2 0 - -524288 : Int) : Rat)) / 3 ∧ dnI (fun k => zs.getD k 0 - -524288) t = 0 := fun t ht => by
  obtain ⟨⟨i1, i2, i3⟩, z1, z2, z3⟩ := hT t ht
  have a1 := hK _ i1 z1
  have a2 := hK _ i2 z2
  have a3 := hK _ i3 z3
  exact hv (fun k => zs.getD k 0 - -524288) t (by show 0 ≤ zs.getD t.1 0 - -524288; omega) (by show 0 ≤ zs.getD t.2.1 0 - -524288; omega) (by show 0 ≤ zs.getD t.2.2 0 - -524288; omega)
 have hO : ∀ t ∈ triL W H zs, upI (fun k => os.getD k 0 - -524288) t = (((os.getD t.1 0 - -524288 : Int) : Rat) + ((os.getD t.2.1 0 - -524288 : Int) : Rat) + ((os.getD t.2.2 0 - -524288 : Int) : Rat)) / 3 := fun t ht => by
  obtain ⟨⟨i1, i2, i3⟩, z1, z2, z3⟩ := hT t ht
  have a1 := hK _ i1 z1
  have a2 := hK _ i2 z2
  have a3 := hK _ i3 z3
  exact (hv (fun k => os.getD k 0 - -524288) t (by show 0 ≤ os.getD t.1 0 - -524288; omega) (by show 0 ≤ os.getD t.2.1 0 - -524288; omega) (by show 0 ≤ os.getD t.2.2 0 - -524288; omega)).1
 refine ⟨?_, ?_, ?_, ?_⟩
 ·rw [sum_zero fun t ht => (hD t ht).2, Rat.mul_zero]
 ·unfold lvDn
  rw [sum_zero fun t ht => (hZ t ht).2, Rat.mul_zero]
 ·unfold lvUp
  rw [hto, sum_sub (f := upI fun k => zs.getD k 0 - os.getD k 0) (g := upI fun k => zs.getD k 0 - -524288) (h := upI fun k => os.getD k 0 - -524288) fun t ht => by
   rw [(hD t ht).1, (hZ t ht).1, hO t ht]
   simp only [Rat.intCast_sub]
   grind]
  grind
 ·unfold lvUp
  rw [htd]
  congr 1
  refine sum_congr fun t ht => ?_
  obtain ⟨⟨i1, i2, i3⟩, z1, z2, z3⟩ := hT t ht
  have a1 := (hK _ i1 z1).2.2
  have a2 := (hK _ i2 z2).2.2
  have a3 := (hK _ i3 z3).2.2
  unfold upI
  simp only [a1, a2, a3, Int.sub_zero]
end Go.Proofs.YtecibfncnaccjaaGreat
namespace Go.Proofs.YtecibfncnaccjaaGreat
open Go.RowKit Go.Shelf
set_option maxRecDepth 100000 in
set_option maxHeartbeats 4000000 in
theorem topen_any {w : World} {A : Option Addr} {c : Nat} {zs : List Int} (hr : IRow w A zs) (hl : zs.length ≤ maxLen) (gx gy st Wi Hi z : Int) (hz : 0 ≤ z ∧ z ≤ 255) :
 Calls Tryz.prog 4 #[grV gx gy st Wi Hi A zs.length c, .int .u8 z] w fun e w' => e = .returned (.bool true) ∧ Keeps w w' := by
 obtain ⟨hz1, hz2⟩ := hz
 have S := (St.start w).alloc 24 (grL gx gy st Wi Hi A zs.length c)
 obtain ⟨W0, hW0, S⟩ := S.pack
 have HR := Lib.hid hr
 have HAW := Lib.hid (fun u => dawake u)
 have HCK := Lib.hid (fun u (hk : Keeps w u) => lChecked_any (c := c) (hr.below hk) gx gy st Wi Hi hl)
 have HCF := Lib.hid (fun u (hk : Keeps w u) => to1_c (c := c) (hr.below hk) hl bigZ (to1_big u))
 obtain ⟨n, hn⟩ : ∃ n, zs.length = n := ⟨_, rfl⟩
 obtain ⟨code, hcode⟩ : ∃ k, chkG gx gy st Wi Hi zs = k := ⟨_, rfl⟩
 obtain ⟨bb, hbb⟩ : ∃ b, zs.any bigZ = b := ⟨_, rfl⟩
 have HN := Lib.hid hn
 have HCO := Lib.hid hcode
 have HBB := Lib.hid hbb
 rw [hn, hcode] at HCK
 rw [hn, hbb] at HCF
 rw [hn] at S hW0 ⊢
 have hnI : (n : Int) ≤ 9223372036854775807 := by simp only [maxLen] at hl; omega
 clear hr hl hn hcode hbb
 obtain ⟨x0, x1, x2, x3, x4, x5⟩ := S.cc6 0 rfl
 go_enter Tryz.func4, Tryz.ntmps4
 go_wp2_with fail
 refine (HAW.out _).mono ?_
 rintro e W1 ⟨rfl, hk⟩
 replace S := S.below hk
 clear hk hW0 x0 x1 x2 x3 x4 x5
 obtain ⟨x0, x1, x2, x3, x4, x5⟩ := S.cc6 0 rfl
 by_cases t1 : (80 : Int) < n
 ·have d1 : decide ((80 : Int) < (n : Int)) = true := decide_eq_true t1
  go_wp2
  all_goals (go_ret; exact ⟨rfl, S.k⟩)
 ·have d1 : decide ((80 : Int) < (n : Int)) = false := decide_eq_false t1
  go_wp2_with fail
  refine (HCK.out _ S.k).mono ?_
  rintro e W2 ⟨rfl, hk⟩
  replace S := S.below hk
  clear hk x0 x1 x2 x3 x4 x5
  obtain ⟨x0, x1, x2, x3, x4, x5⟩ := S.cc6 0 rfl
  by_cases t2 : code = 0
  ·have d2 : (code != 0) = false := by simp [t2]
   have HT2 := Lib.hid t2
   clear t2
   go_wp2_with fail
   refine (HCF.out _ S.k).mono ?_
   rintro e W3 ⟨rfl, hk⟩
   replace S := S.below hk
   clear hk x0 x1 x2 x3 x4 x5
   obtain ⟨x0, x1, x2, x3, x4, x5⟩ := S.cc6 0 rfl
   cases bb with
   | true =>
    go_wp2
    all_goals (go_ret; exact ⟨rfl, S.k⟩)
   | false =>
    have hc := HCO.out
    rw [HT2.out] at hc
    have hbz := HBB.out
    obtain ⟨hW, hH, ⟨hs1, hs2, hse⟩, hln, hzs, -, -⟩ := chkG_ok hc
    obtain ⟨W, rfl⟩ : ∃ W : Nat, Wi = W := ⟨Wi.toNat, by omega⟩
    obtain ⟨H, rfl⟩ : ∃ H : Nat, Hi = H := ⟨Hi.toNat, by omega⟩
    have hlN : zs.length = W * H := by exact_mod_cast hln
    have hn8 : zs.length ≤ 100 := by have := HN.out; omega
    obtain ⟨r, hrm⟩ : ∃ r : Nat, z.tmod 9 = r := ⟨(z.tmod 9).toNat, by rw [Int.tmod_eq_emod_of_nonneg hz1]; omega⟩
    have hr8 : r ≤ 8 := by rw [Int.tmod_eq_emod_of_nonneg hz1] at hrm; omega
    have haz : AllZ (InZ 524288) zs := fun k hk h => by
     have hm : zs.getD k 0 ∈ zs := by rw [List.getD, List.getElem?_eq_getElem hk]; exact List.getElem_mem hk
     unfold isZ at h
     have h2 := bne_iff_ne.1 h
     unfold InZ
     rcases big_bd hbz hm with e | e
     ·exact absurd e h2
     ·exact e
    have hos := open_AllZ (W := W) (H := H) (r := r) (by decide) hlN haz
    have hoi : ∀ k, k < W * H → isZ (openL W H r zs) k = isZ zs k := fun k hk => open_isZ (by decide) hlN haz (by omega)
    have hol : (openL W H r zs).length = zs.length := openL_length
    have hole : ∀ k, k < zs.length → isZ zs k = true → (openL W H r zs).getD k 0 ≤ zs.getD k 0 := fun k hk h => open_le (by decide) hlN haz hk h
    have hob := bad_of_all (by decide) hos
    have hco := chk_of hc hol hob
    obtain ⟨os, hos_⟩ : ∃ os, openL W H r zs = os := ⟨_, rfl⟩
    have HOP := Lib.hid (fun (u : World) (hk : Keeps w u) => open_any (c := c) (HR.out.below hk) gx gy st W H r hc (by simp only [maxLen]; omega) hr8)
    rw [hos_] at hos hoi hol hole hob hco HOP
    clear hos_
    have hK : ∀ k, k < zs.length → isZ zs k = true → 0 ≤ zs.getD k 0 - os.getD k 0 ∧ zs.getD k 0 - os.getD k 0 ≤ 1048576 := fun k hk h => by
     have a := haz k hk h
     have b := hos k (by omega) (by rw [hoi k (by omega)]; exact h)
     have d := hole k hk h
     unfold InZ at a b
     omega
    have hdi : ∀ k, k < zs.length → isZ (diffL zs os) k = isZ zs k := fun k hk => diff_isZ hk (hoi k (by omega)) fun h => by have := hK k hk h; omega
    have hdz : AllZ (InZ 1048576) (diffL zs os) := fun k hk h => by
     rw [diff_length] at hk
     rw [hdi k hk] at h
     have := hK k hk h
     rw [diff_getD hk, diffK, h, hoi k (by omega), h]
     unfold InZ
     rw [if_pos (show (true && true) = true from rfl)]
     omega
    have hcd := chk_of hc diff_length (bad_of_all (by decide) hdz)
    have hdl : (diffL zs os).length = zs.length := diff_length
    obtain ⟨h1, h2, h3, h4⟩ := open_ok (st := st) hlN haz hos hoi hol hole
    have HBT := Lib.hid (fun (u : World) (hk : Keeps w u) (g : Nat) (h : Own u g 3 (i64s os)) => between_any (c := c) (c' := n) (HR.out.below hk) (own_irow h) gx gy st W H HN.out (hol.trans HN.out) hc hco (by have := HN.out; omega) hoi)
    have HDF := Lib.hid (fun (u : World) (hk : Keeps w u) (g : Nat) (h : Own u g 3 (i64s os)) => diff_any (c := c) (c' := n) (HR.out.below hk) (own_irow h) gx gy st W H HN.out (hol.trans HN.out) hc hco (by have := HN.out; omega) (fun k hk h _ => by have := hK k (by have := HN.out; omega) h; omega))
    have HLX := Lib.hid (fun (u : World) (hk : Keeps w u) => vlevel_any (c := c) (HR.out.below hk) gx gy st W H (-524288) hc (by decide) (by omega))
    have HLY := Lib.hid (fun (u : World) (g : Nat) (h : Own u g 3 (i64s os)) => vlevel_any (c := n) (own_irow h) gx gy st W H (-524288) hco (by decide) (by rw [hol]; omega))
    have HLZ := Lib.hid (fun (u : World) (g : Nat) (h : Own u g 3 (i64s (diffL zs os))) => vlevel_any (c := n) (own_irow h) gx gy st W H 0 hcd (by decide) (by rw [hdl]; omega))
    have z1 := sz_lvUp (z := -524288) hs1 hs2 hse hlN hn8 hzs (by omega)
    have z2 := sz_lvUp (z := -524288) hs1 hs2 hse (hol.trans hlN) (by rw [hol]; exact hn8) hob (by omega)
    have z3 := sz_lvUp (z := 0) hs1 hs2 hse (hdl.trans hlN) (by rw [hdl]; exact hn8) (bad_of_all (by decide) hdz) (by omega)
    rw [HN.out] at HOP HLX
    rw [hol, HN.out] at HLY
    rw [hdl, HN.out] at HLZ
    rw [h1, h3] at HBT
    rw [h2] at HLX
    rw [h3] at h4
    generalize lvUp st W H zs (-524288) = vx at *
    generalize lvUp st W H os (-524288) = vy at *
    generalize lvDn st W H os (-524288) = vv at *
    generalize lvUp st W H (diffL zs os) 0 = vz at *
    generalize lvDn st W H (diffL zs os) 0 = vt at *
    generalize diffL zs os = ds at *
    obtain ⟨va, hva⟩ : ∃ v, vx - vy = v := ⟨_, rfl⟩
    rw [hva] at HBT h4
    have HE1 : Hid (va = vx - vy) := Lib.hid hva.symm
    have HE2 : Hid (va = vz) := Lib.hid h4
    have z4 : szR va ≤ 6300 := by rw [h4]; exact z3
    obtain ⟨vb, hvb⟩ : ∃ v : Rat, (0 : Rat) = v := ⟨_, rfl⟩
    have z5 : szR vb ≤ 1 := by rw [← hvb]; exact szR_null
    have HS1 : Hid (vb.num.sign = 0) := Lib.hid (by rw [← hvb]; rfl)
    rw [hvb] at HBT HLX
    have HS2 := HS1
    have hn81 : (n : Int) ≤ 80 := by omega
    have hrI : (r : Int) ≤ 8 := by omega
    clear hvb hva h1 h2 h3 h4 hc hbz hW hH hs1 hs2 hse hln hzs hlN hn8 haz hos hoi hol hole hob hco hK hdi hdz hcd hdl t1 HR HAW HCK HCF HN HCO HBB HT2 x0 x1 x2 x3 x4 x5
    have y0 := szR_sub vx vy
    obtain ⟨r0_0, r0_1, r0_2, r0_3, r0_4, r0_5⟩ := S.cc6 0 rfl
    go_wp2_with fail
    refine ((HOP.out _ S.k)).mono ?_
    rintro e W31 ⟨g2, rfl, hg2, hO2, hk⟩
    replace S := S.box (S.below hk) hO2 hg2
    clear hk hO2 hg2
    clear r0_0 r0_1 r0_2 r0_3 r0_4 r0_5
    go_upto_region 6 with fail
    replace S := (S.alloc 24 [.int .i64 gx, .int .i64 gy, .int .i64 st, .int .i64 (W : Nat), .int .i64 (H : Nat), .slice (some ⟨g2, 0, none⟩) n n])
    obtain ⟨W32, eW, S⟩ := S.pack
    rw [eW]
    clear eW
    generalize W31.heap.size = P31 at *
    obtain ⟨r0_0, r0_1, r0_2, r0_3, r0_4, r0_5⟩ := S.cc6 2 rfl
    obtain ⟨r2_0, r2_1, r2_2, r2_3, r2_4, r2_5⟩ := S.cc6 0 rfl
    go_wp2_with fail
    refine ((HBT.out _ S.k _ (S.o (p := (g2, 3, i64s os)) 1 rfl))).mono ?_
    rintro e W33 ⟨U33, V33, rfl, hp, hr, hk⟩
    obtain ⟨b33, A33, n33, c33, d33, B33, m33, e33, rfl⟩ := hp.open_
    obtain ⟨b34, A34, n34, c34, d34, B34, m34, e34, rfl⟩ := hr.open_
    replace S := ((S.below hk).addQ hp).addQ hr
    clear hk hp hr
    clear r0_0 r0_1 r0_2 r0_3 r0_4 r0_5 r2_0 r2_1 r2_2 r2_3 r2_4 r2_5
    go_upto_region 7 with fail
    replace S := ((S.alloc 35 [.bool b33, .slice A33 n33 c33, .bool d33, .slice B33 m33 e33]).alloc 35 [.bool b34, .slice A34 n34 c34, .bool d34, .slice B34 m34 e34])
    simp only [World.size_alloc] at S
    obtain ⟨W34, eW, S⟩ := S.pack
    rw [eW]
    clear eW
    generalize W33.heap.size = P32 at *
    obtain ⟨r0_0, r0_1, r0_2, r0_3, r0_4, r0_5⟩ := S.cc6 4 rfl
    obtain ⟨r2_0, r2_1, r2_2, r2_3, r2_4, r2_5⟩ := S.cc6 2 rfl
    go_wp2_with fail
    refine ((HDF.out _ S.k _ (S.o (p := (g2, 3, i64s os)) 3 rfl))).mono ?_
    rintro e W35 ⟨g3, rfl, hg2, hO2, hk⟩
    replace S := S.box (S.below hk) hO2 hg2
    clear hk hO2 hg2
    clear r0_0 r0_1 r0_2 r0_3 r0_4 r0_5 r2_0 r2_1 r2_2 r2_3 r2_4 r2_5
    go_upto_region 10 with fail
    replace S := (S.alloc 24 [.int .i64 gx, .int .i64 gy, .int .i64 st, .int .i64 (W : Nat), .int .i64 (H : Nat), .slice (some ⟨g3, 0, none⟩) n n])
    obtain ⟨W36, eW, S⟩ := S.pack
    rw [eW]
    clear eW
    generalize W35.heap.size = P33 at *
    obtain ⟨r0_0, r0_1, r0_2, r0_3, r0_4, r0_5⟩ := S.cc6 6 rfl
    go_wp2_with fail
    refine ((HLX.out _ S.k)).mono ?_
    rintro e W37 ⟨U37, V37, rfl, hp, hr, hk⟩
    obtain ⟨b35, A35, n35, c35, d35, B35, m35, e35, rfl⟩ := hp.open_
    obtain ⟨b36, A36, n36, c36, d36, B36, m36, e36, rfl⟩ := hr.open_
    replace S := ((S.below hk).addQ hp).addQ hr
    clear hk hp hr
    clear r0_0 r0_1 r0_2 r0_3 r0_4 r0_5
    go_upto_region 11 with fail
    replace S := ((S.alloc 35 [.bool b35, .slice A35 n35 c35, .bool d35, .slice B35 m35 e35]).alloc 35 [.bool b36, .slice A36 n36 c36, .bool d36, .slice B36 m36 e36])
    simp only [World.size_alloc] at S
    obtain ⟨W38, eW, S⟩ := S.pack
    rw [eW]
    clear eW
    generalize W37.heap.size = P34 at *
    obtain ⟨r2_0, r2_1, r2_2, r2_3, r2_4, r2_5⟩ := S.cc6 6 rfl
    go_wp2_with fail
    refine ((HLY.out _ _ (S.o (p := (g2, 3, i64s os)) 7 rfl))).mono ?_
    rintro e W39 ⟨U39, V39, rfl, hp, hr, hk⟩
    obtain ⟨b37, A37, n37, c37, d37, B37, m37, e37, rfl⟩ := hp.open_
    obtain ⟨b38, A38, n38, c38, d38, B38, m38, e38, rfl⟩ := hr.open_
    replace S := ((S.below hk).addQ hp).addQ hr
    clear hk hp hr
    clear r2_0 r2_1 r2_2 r2_3 r2_4 r2_5
    go_upto_region 12 with fail
    replace S := ((S.alloc 35 [.bool b37, .slice A37 n37 c37, .bool d37, .slice B37 m37 e37]).alloc 35 [.bool b38, .slice A38 n38 c38, .bool d38, .slice B38 m38 e38])
    simp only [World.size_alloc] at S
    obtain ⟨W40, eW, S⟩ := S.pack
    rw [eW]
    clear eW
    generalize W39.heap.size = P35 at *
    obtain ⟨r6_0, r6_1, r6_2, r6_3, r6_4, r6_5⟩ := S.cc6 4 rfl
    go_wp2_with fail
    refine ((HLZ.out _ _ (S.o (p := (g3, 3, i64s ds)) 5 rfl))).mono ?_
    rintro e W41 ⟨U41, V41, rfl, hp, hr, hk⟩
    obtain ⟨b39, A39, n39, c39, d39, B39, m39, e39, rfl⟩ := hp.open_
    obtain ⟨b40, A40, n40, c40, d40, B40, m40, e40, rfl⟩ := hr.open_
    replace S := ((S.below hk).addQ hp).addQ hr
    clear hk hp hr
    clear r6_0 r6_1 r6_2 r6_3 r6_4 r6_5
    go_upto_region 13 with fail
    replace S := ((S.alloc 35 [.bool b39, .slice A39 n39 c39, .bool d39, .slice B39 m39 e39]).alloc 35 [.bool b40, .slice A40 n40 c40, .bool d40, .slice B40 m40 e40])
    simp only [World.size_alloc] at S
    obtain ⟨W42, eW, S⟩ := S.pack
    rw [eW]
    clear eW
    generalize W41.heap.size = P36 at *
    refine wp_region_steps (m := 28) rfl (by kernel_rfl) (fun iF vF wF => (List.getD [ve (.int .i64 0), ve (.int .i64 0), ve (.int .i64 0), ve (.int .i64 0), ve (.int .i64 0), ve (.bool true), ve (.bool true), ve (.agg #[.bool b34, .slice A34 n34 c34, .bool d34, .slice B34 m34 e34]), ve (.int .i64 0), ve (.bool true), ve (.bool true), ve (.bool true), ve (.agg #[.bool b36, .slice A36 n36 c36, .bool d36, .slice B36 m36 e36]), ve (.int .i64 0), ve (.bool true), ve (.bool true), ve (.bool true), ve (.agg #[.bool b33, .slice A33 n33 c33, .bool d33, .slice B33 m33 e33]), ve (.agg #[.bool b35, .slice A35 n35 c35, .bool d35, .slice B35 m35 e35]), ve (.agg #[.bool b37, .slice A37 n37 c37, .bool d37, .slice B37 m37 e37]), fun vF wF => RatRep wF vF (vx - vy), ve (.bool true), ve (.bool true), ve (.bool true), ve (.agg #[.bool b33, .slice A33 n33 c33, .bool d33, .slice B33 m33 e33]), ve (.agg #[.bool b39, .slice A39 n39 c39, .bool d39, .slice B39 m39 e39]), ve (.bool true), ve (.bool true)] iF (fun _ _ => True)) vF wF) [] ?_ ?_ ?_
    ·intro i v w w' _ h hk
     refine stabL_get ?_ i v w w' h hk
     exact stab_cons st_e (stab_cons st_e (stab_cons st_e (stab_cons st_e (stab_cons st_e (stab_cons st_e (stab_cons st_e (stab_cons st_e (stab_cons st_e (stab_cons st_e (stab_cons st_e (stab_cons st_e (stab_cons st_e (stab_cons st_e (stab_cons st_e (stab_cons st_e (stab_cons st_e (stab_cons st_e (stab_cons st_e (stab_cons st_e (stab_cons st_q (stab_cons st_e (stab_cons st_e (stab_cons st_e (stab_cons st_e (stab_cons st_e (stab_cons st_e (stab_cons st_e stab_nil)))))))))))))))))))))))))))
    ·intro i hi vs w3 hk3 hd
     have S3 := S.drew.below hk3
     obtain ⟨a0, a1, a2, a3⟩ := S3.cc4 9 rfl
     obtain ⟨a4, a5, a6, a7⟩ := S3.cc4 8 rfl
     obtain ⟨a8, a9, a10, a11⟩ := S3.cc4 5 rfl
     obtain ⟨a12, a13, a14, a15⟩ := S3.cc4 4 rfl
     obtain ⟨a16, a17, a18, a19⟩ := S3.cc4 3 rfl
     obtain ⟨a20, a21, a22, a23⟩ := S3.cc4 1 rfl
     match i, hi with
     | 0, _ =>
      refine sv0 [] (ve (.int .i64 0)) rfl fun K hK => ?_; clear hd; simp only [frD] at hK ⊢; go_simp
      exact hK _ _ bl rfl
     | 1, _ =>
      refine sv0 [] (ve (.int .i64 0)) rfl fun K hK => ?_; clear hd; simp only [frD] at hK ⊢; go_simp
      exact hK _ _ bl rfl
     | 2, _ =>
      have qe0 : (vs 0) = .int .i64 0 := hdk hd 0; have qe1 : (vs 1) = .int .i64 0 := hdk hd 1
      refine sv0 [(0, some 79), (1, some 80)] (ve (.int .i64 0)) rfl fun K hK => ?_; clear hd; simp only [frD, qe0, qe1] at hK ⊢; go_simp
      exact hK _ _ bl rfl
     | 3, _ =>
      refine sv0 [] (ve (.int .i64 0)) rfl fun K hK => ?_; clear hd; simp only [frD] at hK ⊢; go_simp
      exact hK _ _ bl rfl
     | 4, _ =>
      have qe2 : (vs 2) = .int .i64 0 := hdk hd 2; have qe3 : (vs 3) = .int .i64 0 := hdk hd 3
      refine sv0 [(2, some 81), (3, some 82)] (ve (.int .i64 0)) rfl fun K hK => ?_; clear hd; simp only [frD, qe2, qe3] at hK ⊢; go_simp
      exact hK _ _ bl rfl
     | 5, _ =>
      have qe4 : (vs 4) = .int .i64 0 := hdk hd 4
      refine sv0 [(4, some 83)] (ve (.bool true)) rfl fun K hK => ?_; clear hd; simp only [frD, qe4] at hK ⊢; go_simp
      exact hK _ _ bl rfl
     | 6, _ =>
      have qe5 : (vs 5) = .bool true := hdk hd 5
      refine sv0 [(5, some 84)] (ve (.bool true)) rfl fun K hK => ?_; clear hd; simp only [frD, qe5] at hK ⊢; go_simp
      exact hK _ _ bl rfl
     | 7, _ =>
      have qe6 : (vs 6) = .bool true := hdk hd 6
      refine svg [(6, some 85)] (ve (.agg #[.bool b34, .slice A34 n34 c34, .bool d34, .slice B34 m34 e34])) rfl (ws 85 qe6) fun K hK => ?_; clear hd; simp only [frD, qe6] at hK ⊢; go_simp
      exact hK _ _ bl rfl
     | 8, _ =>
      have qe6 : (vs 6) = .bool true := hdk hd 6; have qe7 : (vs 7) = .agg #[.bool b34, .slice A34 n34 c34, .bool d34, .slice B34 m34 e34] := hdk hd 7
      refine sc (A := #[(vs 7)]) (B := #[.agg #[.bool b34, .slice A34 n34 c34, .bool d34, .slice B34 m34 e34]]) [(6, some 85), (7, some 86)] (ve (.int .i64 0)) rfl (ws 85 qe6) (by rw [qe7]) Tryz.func20 ?_
      refine ((gsign_s ((S3.qi 6 rfl).num (by omega)) HS1.out)).mono ?_; rintro e w4 ⟨rfl, hk4⟩; exact ⟨_, rfl, hk4, rfl⟩
     | 9, _ =>
      have qe6 : (vs 6) = .bool true := hdk hd 6; have qe8 : (vs 8) = .int .i64 0 := hdk hd 8
      refine svg [(6, some 85), (8, some 87)] (ve (.bool true)) rfl (ws 85 qe6) fun K hK => ?_; clear hd; simp only [frD, qe6, qe8] at hK ⊢; go_simp
      exact hK _ _ bl rfl
     | 10, _ =>
      have qe6 : (vs 6) = .bool true := hdk hd 6; have qe9 : (vs 9) = .bool true := hdk hd 9
      refine sv0 [(6, some 85), (9, some 88)] (ve (.bool true)) rfl fun K hK => ?_; clear hd; simp only [frD, qe6, qe9] at hK ⊢; go_simp
      exact hK _ _ bl rfl
     | 11, _ =>
      have qe8 : (vs 8) = .int .i64 0 := hdk hd 8; have qe10 : (vs 10) = .bool true := hdk hd 10
      refine sv0 [(8, some 87), (10, some 89)] (ve (.bool true)) rfl fun K hK => ?_; clear hd; simp only [frD, qe8, qe10] at hK ⊢; go_simp
      exact hK _ _ bl rfl
     | 12, _ =>
      have qe11 : (vs 11) = .bool true := hdk hd 11
      refine svg [(11, some 90)] (ve (.agg #[.bool b36, .slice A36 n36 c36, .bool d36, .slice B36 m36 e36])) rfl (ws 90 qe11) fun K hK => ?_; clear hd; simp only [frD, qe11] at hK ⊢; go_simp
      exact hK _ _ bl rfl
     | 13, _ =>
      have qe11 : (vs 11) = .bool true := hdk hd 11; have qe12 : (vs 12) = .agg #[.bool b36, .slice A36 n36 c36, .bool d36, .slice B36 m36 e36] := hdk hd 12
      refine sc (A := #[(vs 12)]) (B := #[.agg #[.bool b36, .slice A36 n36 c36, .bool d36, .slice B36 m36 e36]]) [(11, some 90), (12, some 91)] (ve (.int .i64 0)) rfl (ws 90 qe11) (by rw [qe12]) Tryz.func20 ?_
      refine ((gsign_s ((S3.qi 4 rfl).num (by omega)) HS2.out)).mono ?_; rintro e w4 ⟨rfl, hk4⟩; exact ⟨_, rfl, hk4, rfl⟩
     | 14, _ =>
      have qe11 : (vs 11) = .bool true := hdk hd 11; have qe13 : (vs 13) = .int .i64 0 := hdk hd 13
      refine svg [(11, some 90), (13, some 92)] (ve (.bool true)) rfl (ws 90 qe11) fun K hK => ?_; clear hd; simp only [frD, qe11, qe13] at hK ⊢; go_simp
      exact hK _ _ bl rfl
     | 15, _ =>
      have qe11 : (vs 11) = .bool true := hdk hd 11; have qe14 : (vs 14) = .bool true := hdk hd 14
      refine sv0 [(11, some 90), (14, some 93)] (ve (.bool true)) rfl fun K hK => ?_; clear hd; simp only [frD, qe11, qe14] at hK ⊢; go_simp
      exact hK _ _ bl rfl
     | 16, _ =>
      have qe13 : (vs 13) = .int .i64 0 := hdk hd 13; have qe15 : (vs 15) = .bool true := hdk hd 15
      refine sv0 [(13, some 92), (15, some 94)] (ve (.bool true)) rfl fun K hK => ?_; clear hd; simp only [frD, qe13, qe15] at hK ⊢; go_simp
      exact hK _ _ bl rfl
     | 17, _ =>
      have qe16 : (vs 16) = .bool true := hdk hd 16
      refine svg [(16, some 95)] (ve (.agg #[.bool b33, .slice A33 n33 c33, .bool d33, .slice B33 m33 e33])) rfl (ws 95 qe16) fun K hK => ?_; clear hd; simp only [frD, qe16] at hK ⊢; go_simp
      exact hK _ _ bl rfl
     | 18, _ =>
      have qe16 : (vs 16) = .bool true := hdk hd 16
      refine svg [(16, some 95)] (ve (.agg #[.bool b35, .slice A35 n35 c35, .bool d35, .slice B35 m35 e35])) rfl (ws 95 qe16) fun K hK => ?_; clear hd; simp only [frD, qe16] at hK ⊢; go_simp
      exact hK _ _ bl rfl
     | 19, _ =>
      have qe16 : (vs 16) = .bool true := hdk hd 16
      refine svg [(16, some 95)] (ve (.agg #[.bool b37, .slice A37 n37 c37, .bool d37, .slice B37 m37 e37])) rfl (ws 95 qe16) fun K hK => ?_; clear hd; simp only [frD, qe16] at hK ⊢; go_simp
      exact hK _ _ bl rfl
     | 20, _ =>
      have qe16 : (vs 16) = .bool true := hdk hd 16; have qe18 : (vs 18) = .agg #[.bool b35, .slice A35 n35 c35, .bool d35, .slice B35 m35 e35] := hdk hd 18; have qe19 : (vs 19) = .agg #[.bool b37, .slice A37 n37 c37, .bool d37, .slice B37 m37 e37] := hdk hd 19
      refine sc (A := #[(vs 18), (vs 19)]) (B := #[.agg #[.bool b35, .slice A35 n35 c35, .bool d35, .slice B35 m35 e35], .agg #[.bool b37, .slice A37 n37 c37, .bool d37, .slice B37 m37 e37]]) [(16, some 95), (18, some 97), (19, some 98)] (fun vF wF => RatRep wF vF (vx - vy)) rfl (ws 95 qe16) (by rw [qe18, qe19]) Tryz.func25 ?_
      refine ((gsub_num ((S3.qi 5 rfl).num (by omega)) ((S3.qi 3 rfl).num (by omega)))).mono ?_; rintro e w4 ⟨U, rfl, hr, hk4⟩; exact ⟨_, rfl, hk4, hr⟩
     | 21, _ =>
      have qe16 : (vs 16) = .bool true := hdk hd 16; have qe17 : (vs 17) = .agg #[.bool b33, .slice A33 n33 c33, .bool d33, .slice B33 m33 e33] := hdk hd 17; have h20 : RatRep w3 (vs 20) (vx - vy) := hdk hd 20
      refine sc (A := #[(vs 17), (vs 20)]) (B := #[.agg #[.bool b33, .slice A33 n33 c33, .bool d33, .slice B33 m33 e33], (vs 20)]) [(16, some 95), (17, some 96), (20, some 99)] (ve (.bool true)) rfl (ws 95 qe16) (by rw [qe17]) Tryz.func16 ?_
      refine ((gsamer_s (b := true) (S3.qi 7 rfl) h20 (by omega) (decide_eq_true HE1.out))).mono ?_; rintro e w4 ⟨rfl, hk4⟩; exact ⟨_, rfl, hk4, rfl⟩
     | 22, _ =>
      have qe16 : (vs 16) = .bool true := hdk hd 16; have qe21 : (vs 21) = .bool true := hdk hd 21
      refine sv0 [(16, some 95), (21, some 100)] (ve (.bool true)) rfl fun K hK => ?_; clear hd; simp only [frD, qe16, qe21] at hK ⊢; go_simp
      exact hK _ _ bl rfl
     | 23, _ =>
      have qe21 : (vs 21) = .bool true := hdk hd 21; have qe22 : (vs 22) = .bool true := hdk hd 22
      refine sv0 [(21, some 100), (22, some 101)] (ve (.bool true)) rfl fun K hK => ?_; clear hd; simp only [frD, qe21, qe22] at hK ⊢; go_simp
      exact hK _ _ bl rfl
     | 24, _ =>
      have qe23 : (vs 23) = .bool true := hdk hd 23
      refine svg [(23, some 102)] (ve (.agg #[.bool b33, .slice A33 n33 c33, .bool d33, .slice B33 m33 e33])) rfl (ws 102 qe23) fun K hK => ?_; clear hd; simp only [frD, qe23] at hK ⊢; go_simp
      exact hK _ _ bl rfl
     | 25, _ =>
      have qe23 : (vs 23) = .bool true := hdk hd 23
      refine svg [(23, some 102)] (ve (.agg #[.bool b39, .slice A39 n39 c39, .bool d39, .slice B39 m39 e39])) rfl (ws 102 qe23) fun K hK => ?_; clear hd; simp only [frD, qe23] at hK ⊢; go_simp
      exact hK _ _ bl rfl
     | 26, _ =>
      have qe23 : (vs 23) = .bool true := hdk hd 23; have qe24 : (vs 24) = .agg #[.bool b33, .slice A33 n33 c33, .bool d33, .slice B33 m33 e33] := hdk hd 24; have qe25 : (vs 25) = .agg #[.bool b39, .slice A39 n39 c39, .bool d39, .slice B39 m39 e39] := hdk hd 25
      refine sc (A := #[(vs 24), (vs 25)]) (B := #[.agg #[.bool b33, .slice A33 n33 c33, .bool d33, .slice B33 m33 e33], .agg #[.bool b39, .slice A39 n39 c39, .bool d39, .slice B39 m39 e39]]) [(23, some 102), (24, some 103), (25, some 104)] (ve (.bool true)) rfl (ws 102 qe23) (by rw [qe24, qe25]) Tryz.func16 ?_
      refine ((gsamer_s (b := true) (S3.qi 7 rfl) (S3.qi 1 rfl) (by omega) (decide_eq_true HE2.out))).mono ?_; rintro e w4 ⟨rfl, hk4⟩; exact ⟨_, rfl, hk4, rfl⟩
     | 27, _ =>
      have qe23 : (vs 23) = .bool true := hdk hd 23; have qe26 : (vs 26) = .bool true := hdk hd 26
      refine sv0 [(23, some 102), (26, some 105)] (ve (.bool true)) rfl fun K hK => ?_; clear hd; simp only [frD, qe23, qe26] at hK ⊢; go_simp
      exact hK _ _ bl rfl
     | i + 28, hi => exact absurd hi (by omega)
    ·intro vs W43 hk3 hΦ _
     simp only [List.drop_succ_cons, List.drop_zero]
     rw [fr_frD, show (List.range 28).map _ = [(0, some 79), (1, some 80), (2, some 81), (3, some 82), (4, some 83), (5, some 84), (6, some 85), (7, some 86), (8, some 87), (9, some 88), (10, some 89), (11, some 90), (12, some 91), (13, some 92), (14, some 93), (15, some 94), (16, some 95), (17, some 96), (18, some 97), (19, some 98), (20, some 99), (21, some 100), (22, some 101), (23, some 102), (24, some 103), (25, some 104), (26, some 105), (27, some 106)] by kernel_rfl]
     have pf0 : (vs 0) = .int .i64 0 := hΦ 0 (by decide)
     have pf1 : (vs 1) = .int .i64 0 := hΦ 1 (by decide)
     have pf2 : (vs 2) = .int .i64 0 := hΦ 2 (by decide)
     have pf3 : (vs 3) = .int .i64 0 := hΦ 3 (by decide)
     have pf4 : (vs 4) = .int .i64 0 := hΦ 4 (by decide)
     have pf5 : (vs 5) = .bool true := hΦ 5 (by decide)
     have pf6 : (vs 6) = .bool true := hΦ 6 (by decide)
     have pf7 : (vs 7) = .agg #[.bool b34, .slice A34 n34 c34, .bool d34, .slice B34 m34 e34] := hΦ 7 (by decide)
     have pf8 : (vs 8) = .int .i64 0 := hΦ 8 (by decide)
     have pf9 : (vs 9) = .bool true := hΦ 9 (by decide)
     have pf10 : (vs 10) = .bool true := hΦ 10 (by decide)
     have pf11 : (vs 11) = .bool true := hΦ 11 (by decide)
     have pf12 : (vs 12) = .agg #[.bool b36, .slice A36 n36 c36, .bool d36, .slice B36 m36 e36] := hΦ 12 (by decide)
     have pf13 : (vs 13) = .int .i64 0 := hΦ 13 (by decide)
     have pf14 : (vs 14) = .bool true := hΦ 14 (by decide)
     have pf15 : (vs 15) = .bool true := hΦ 15 (by decide)
     have pf16 : (vs 16) = .bool true := hΦ 16 (by decide)
     have pf17 : (vs 17) = .agg #[.bool b33, .slice A33 n33 c33, .bool d33, .slice B33 m33 e33] := hΦ 17 (by decide)
     have pf18 : (vs 18) = .agg #[.bool b35, .slice A35 n35 c35, .bool d35, .slice B35 m35 e35] := hΦ 18 (by decide)
     have pf19 : (vs 19) = .agg #[.bool b37, .slice A37 n37 c37, .bool d37, .slice B37 m37 e37] := hΦ 19 (by decide)
     have pf20 : RatRep W43 (vs 20) (vx - vy) := hΦ 20 (by decide)
     have pf21 : (vs 21) = .bool true := hΦ 21 (by decide)
     have pf22 : (vs 22) = .bool true := hΦ 22 (by decide)
     have pf23 : (vs 23) = .bool true := hΦ 23 (by decide)
     have pf24 : (vs 24) = .agg #[.bool b33, .slice A33 n33 c33, .bool d33, .slice B33 m33 e33] := hΦ 24 (by decide)
     have pf25 : (vs 25) = .agg #[.bool b39, .slice A39 n39 c39, .bool d39, .slice B39 m39 e39] := hΦ 25 (by decide)
     have pf26 : (vs 26) = .bool true := hΦ 26 (by decide)
     have pf27 : (vs 27) = .bool true := hΦ 27 (by decide)
     clear hΦ
     simp only [frD, pf0, pf1, pf2, pf3, pf4, pf5, pf6, pf7, pf8, pf9, pf10, pf11, pf12, pf13, pf14, pf15, pf16, pf17, pf18, pf19, pf21, pf22, pf23, pf24, pf25, pf26, pf27]
     simp only [Act.put, List.setIfInBounds_toArray, List.set_cons_zero, List.set_cons_succ]
     clear pf0 pf1 pf2 pf3 pf4 pf5 pf6 pf7 pf8 pf9 pf10 pf11 pf12 pf13 pf14 pf15 pf16 pf17 pf18 pf19 pf21 pf22 pf23 pf24 pf25 pf26 pf27
     generalize vs 20 = Upf20 at pf20 ⊢
     replace S := S.drew.below hk3
     clear pf20
     clear hk3
     go_wp2
     go_ret
     exact ⟨rfl, S.k⟩
  ·have d2 : (code != 0) = true := by simp [t2]
   go_wp2
   all_goals (go_ret; exact ⟨rfl, S.k⟩)
end Go.Proofs.YtecibfncnaccjaaGreat
namespace Go.Proofs.YtecibfncnaccjaaGreat
open Go.RowKit Go.WideShapes Go.ChangeShapes Go.Joins

theorem laidOutP : laidOutB Tryz.prog = true := by kernel_rfl
section
variable {H : Type} {enc : TypeId × Value → H} {P : Program}
theorem post_of_below {f : Func} {s : ChangeSpec} {apart fresh handsOn again : Bool} {W W' : World} {args : Array Value} {v : Value} {ds gs : List (DataW H)} {before pa pv : List MemPlace}
 (hW : DataW.Whole enc P f.params.toList s.vars apart W args.toList ds gs before)
 (hres : ∀ (b : Nat) (sp : Nat → Bool) (hd : Bool), DataW.TrodAll enc P W' b sp hd f.resultTypes.toList (v.resultList f.resultTypes.size) (s.fn H (ds ++ gs)).results [])
 (hargs : ∀ sp : Nat → Bool, (∀ p ∈ before, sp p.block = true) → DataW.TrodAll enc P W' 0 sp true f.params.toList args.toList (s.fn H (ds ++ gs)).args pa)
 (hvars : ∀ sp : Nat → Bool, (∀ p ∈ before, sp p.block = true) → DataW.TrodVars enc P W' sp s.vars (s.fn H (ds ++ gs)).vars pv)
 (hps : before = pa ++ pv) (hb : Below W.heap.size W W')
 (hok : ∀ (j : Nat) (t : TypeId) (r : Value), f.resultTypes[j]? = some t → (v.resultList f.resultTypes.size)[j]? = some r → Value.okWide P W' .any 0 t r) :
 s.post enc P f apart fresh handsOn again W args v W' := by
 have hlt : ∀ p ∈ before, p.block < W.heap.size := fun p hp => hW.lt p hp
 have hold : ∀ p ∈ before, (fun b => decide (b < W.heap.size)) p.block = true := fun p hp => by simpa using hlt p hp
 refine ⟨ds, gs, before, [], pa, pv, hW, hres _ _ _, hargs _ hold, hvars _ hold, World.keptBut_mono (fun p hp => ⟨hp, ?_⟩) (hb.frame (· ∈ before)), fun _ => ?_⟩
 ·rw [hps, List.mem_append] at hp
  exact Or.inr hp
 ·obtain ⟨_, _, _, _, _, hz, hn⟩ := hW
  refine ⟨hok, _, _, ([] ++ pa) ++ pv, ⟨[] ++ pa, pv, trodAll_append (hargs _ (fun _ _ => rfl)) (hres _ _ _), hvars _ (fun _ _ => rfl), rfl, ?_, ?_⟩, ?_⟩
  ·intro b off hp
   have hin : MemPlace.cell b off ∈ before := by rw [hps]; simpa using hp
   rw [hb.frozen (hlt _ hin)]
   exact hz b off hin
  ·intro ha
   have := hn ha
   rw [hps] at this
   simpa using this
  ·intro p hp _
   rw [hps]
   simpa using hp
theorem trodAll_stays (hl : laidOutB P = true) {W W' : World} {sp : Nat → Bool} (hb : Below W.heap.size W W') : ∀ (ts : List TypeId) (vs : List Value) (ds : List (DataW H)) (ps : List MemPlace),
 (∀ t ∈ ts, P.readableRec t = true ∧ t < P.types.size) → DataW.TrodAll enc P W 0 (fun _ => true) true ts vs ds ps → (∀ x ∈ ps, x.block < W.heap.size) → (∀ x ∈ ps, sp x.block = true) → DataW.TrodAll enc P W' 0 sp true ts vs ds ps
 | [], _, _, _, _, h, _, _ => by
  obtain ⟨rfl, rfl, rfl⟩ := trodAll_nil h
  exact trodAll_mk0
 | t :: ts, vs, ds, ps, ht, h, hlt, hsp => by
  obtain ⟨v, vs', d, ds', p, q, rfl, rfl, rfl, h1, h2⟩ := trodAll_cons h
  refine trodAll_cons_mk (WideElems.Trod_stays hl (ht t List.mem_cons_self).1 (ht t List.mem_cons_self).2 h1 (fun x hx => hb.same (hlt x (List.mem_append_left _ hx))) (fun x hx => hsp x (List.mem_append_left _ hx))) ?_
  exact trodAll_stays hl hb ts vs' ds' q (fun t' h' => ht t' (List.mem_cons_of_mem _ h')) h2 (fun x hx => hlt x (List.mem_append_right _ hx)) (fun x hx => hsp x (List.mem_append_right _ hx))
end

theorem i64_of_wf {z : Int} (h : (Lit.int .i64 z).wf = true) : -9223372036854775808 ≤ z ∧ z ≤ 9223372036854775807 := by
 simp [Lit.wf, IntKind.min, IntKind.max, IntKind.signed, IntKind.bits] at h
 exact h
theorem addp (b o j : Nat) : (⟨b, o, none⟩ : Addr).add j = ⟨b, o + j, none⟩ := by unfold Addr.add; split <;> simp_all
section
variable {H : Type} {enc : TypeId × Value → H} {W : World} {base : Nat} {sp : Nat → Bool} {held : Bool} {m : Nat}
set_option maxRecDepth 100000 in
theorem intsCells_of {v0 : Value} {y : DataW H × List MemPlace} (h : DataW.trod enc Tryz.prog W base sp held m 22 [v0] = some y) :
 ∃ A c px, v0 = .slice A (List.length px) c ∧ IRow W A px ∧ List.length px ≤ maxLen ∧ ∀ x ∈ px, -9223372036854775808 ≤ x ∧ x ≤ 9223372036854775807 := by
 rcases open_ints Tryz.underlying22 Tryz.underlying3 (by kernel_rfl) h with ⟨e, -⟩ | ⟨a, len, cap, zs, e, hb, hl, hm, hz, ey, hc, hw⟩
 ·obtain rfl : v0 = .slice none 0 0 := by simpa using e
  exact ⟨none, 0, [], rfl, Row.zero, by simp, by simp⟩
 ·obtain rfl : v0 = .slice (some a) len cap := by simpa using e
  have hlz : len ≤ zs.length := by rw [hz]; split <;> omega
  have hlen : (zs.take len).length = len := by simp; omega
  refine ⟨some a, cap, zs.take len, by rw [hlen], fun hp => ?_, by rw [hlen]; omega, fun x hx => i64_of_wf (hw x (List.mem_of_mem_take hx))⟩
  rw [hlen] at hp
  have c0 := hc 0 (by omega)
  have hs : a.spot = none := by
   have := World.cell?_spot c0
   simpa [Addr.add] using this
  obtain ⟨bk, off, spot⟩ := a
  obtain rfl : spot = none := hs
  refine ⟨bk, off, rfl, ?_, fun j hj => ?_⟩
  ·rcases Nat.lt_or_ge bk W.heap.size with h | h
   ·exact h
   ·simp [World.cell?, Addr.add, Array.getElem?_eq_none h] at c0
  ·rw [hlen] at hj
   have := hc j (by omega)
   rw [addp] at this
   rw [this]
   simp [iv, List.getD, hj]
theorem six_fields {P : Program} {t : TypeId} {f0 f1 f2 f3 f4 f5 : Field} {fuel : Nat} {cs : List Value} {x : DataW H × List MemPlace} (ht : P.underlying t = some (.struct #[f0, f1, f2, f3, f4, f5])) (h : DataW.trod enc P W base sp held fuel t cs = some x) :
 ∃ y0 y1 y2 y3 y4 y5 n, DataW.trod enc P W base sp held n f0.type ((cs.drop f0.offset).take (P.cellsOf f0.type)) = some y0 ∧ DataW.trod enc P W base sp held n f1.type ((cs.drop f1.offset).take (P.cellsOf f1.type)) = some y1 ∧
  DataW.trod enc P W base sp held n f2.type ((cs.drop f2.offset).take (P.cellsOf f2.type)) = some y2 ∧ DataW.trod enc P W base sp held n f3.type ((cs.drop f3.offset).take (P.cellsOf f3.type)) = some y3 ∧
  DataW.trod enc P W base sp held n f4.type ((cs.drop f4.offset).take (P.cellsOf f4.type)) = some y4 ∧ DataW.trod enc P W base sp held n f5.type ((cs.drop f5.offset).take (P.cellsOf f5.type)) = some y5 := by
 obtain ⟨xs, n, -, -, -, hlen, hf⟩ := DataW.trod_struct ht h
 match xs, hlen with
 | [y0, y1, y2, y3, y4, y5], _ => exact ⟨y0, y1, y2, y3, y4, y5, n, by simpa using hf 0 f0 rfl, by simpa using hf 1 f1 rfl, by simpa using hf 2 f2 rfl, by simpa using hf 3 f3 rfl, by simpa using hf 4 f4 rfl, by simpa using hf 5 f5 rfl⟩
set_option maxRecDepth 100000 in
theorem gridCells_of {c0 c1 c2 c3 c4 c5 : Value} {y : DataW H × List MemPlace} (h : DataW.trod enc Tryz.prog W base sp held m 24 [c0, c1, c2, c3, c4, c5] = some y) :
 ∃ (gx gy st Wd Ht : Int) (A : Option Addr) (c : Nat) (px : List Int), c0 = .int .i64 gx ∧ c1 = .int .i64 gy ∧ c2 = .int .i64 st ∧ c3 = .int .i64 Wd ∧ c4 = .int .i64 Ht ∧ c5 = .slice A px.length c ∧ IRow W A px ∧ px.length ≤ maxLen := by
 obtain ⟨y0, y1, y2, y3, y4, y5, n, h0, h1, h2, h3, h4, h5⟩ := six_fields Tryz.underlying24 h
 have ci : Tryz.prog.cellsOf 3 = 1 := by kernel_rfl
 have cs : Tryz.prog.cellsOf 22 = 1 := by kernel_rfl
 simp only [ci, cs, List.drop_zero, List.drop_succ_cons, List.take_succ_cons, List.take_zero] at h0 h1 h2 h3 h4 h5
 obtain ⟨a, ha, -, -⟩ := DataW.trod_int Tryz.underlying3 h0
 obtain ⟨b, hb, -, -⟩ := DataW.trod_int Tryz.underlying3 h1
 obtain ⟨c, hc, -, -⟩ := DataW.trod_int Tryz.underlying3 h2
 obtain ⟨d, hd, -, -⟩ := DataW.trod_int Tryz.underlying3 h3
 obtain ⟨e, he, -, -⟩ := DataW.trod_int Tryz.underlying3 h4
 obtain ⟨A, cc, px, e5, hr, hl, -⟩ := intsCells_of h5
 cases ha; cases hb; cases hc; cases hd; cases he
 exact ⟨a, b, c, d, e, A, cc, px, rfl, rfl, rfl, rfl, rfl, e5, hr, hl⟩
end
section
variable {H : Type} {enc : TypeId × Value → H} {W : World} {base b0 : Nat} {sp : Nat → Bool} {held : Bool} {r : Reach} {v : Value} {d : DataW H} {p : List MemPlace}
theorem list6 {α : Type} {cs : Array α} (h : cs.size = 6) : ∃ a b c d e f, cs = #[a, b, c, d, e, f] := by
 obtain ⟨l⟩ := cs
 match l, h with
 | [a, b, c, d, e, f], _ => exact ⟨a, b, c, d, e, f, rfl⟩
set_option maxRecDepth 100000 in
theorem gridArg_of (hv : Value.okWide Tryz.prog W r b0 24 v) (h : DataW.Trod enc Tryz.prog W base sp held 24 v d p) :
 ∃ (gx gy st Wd Ht : Int) (B : Option Addr) (dd : Nat) (px : List Int), v = grV gx gy st Wd Ht B px.length dd ∧ IRow W B px ∧ px.length ≤ maxLen := by
 obtain ⟨cs, rfl, hsz⟩ := okWide_struct Tryz.underlying24 hv
 obtain ⟨c0, c1, c2, c3, c4, c5, rfl⟩ := list6 (hsz.trans (by kernel_rfl))
 obtain ⟨fuel, hf⟩ := h
 obtain ⟨gx, gy, st, Wd, Ht, B, dd, px, rfl, rfl, rfl, rfl, rfl, rfl, h1, h2⟩ := gridCells_of (y := (d, p)) (by simpa [Value.cells] using hf)
 exact ⟨gx, gy, st, Wd, Ht, B, dd, px, rfl, h1, h2⟩
end
theorem u8_of_wf {x : Int} (h : (Lit.int .u8 x).wf = true) : 0 ≤ x ∧ x ≤ 255 := by
 have h1 : IntKind.u8.min = 0 := rfl
 have h2 : IntKind.u8.max = 255 := rfl
 simp only [Lit.wf, Bool.and_eq_true, decide_eq_true_eq] at h
 omega
theorem ownP : ownKnob Tryz.prog.godebug = none := by kernel_rfl
noncomputable def plainWorld (os : Os) : World := World.holding Tryz.prog os ⟨#[], #[], []⟩
end Go.Proofs.YtecibfncnaccjaaGreat
