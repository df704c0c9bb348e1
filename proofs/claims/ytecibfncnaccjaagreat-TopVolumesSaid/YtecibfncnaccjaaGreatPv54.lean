/- How long the volumes and areas of surfaces are, as fractions. No program in sight. The walk of the law TopVolumes. The rows' last step, for laws of height grids: the arguments opened, read anew behind the call. -/
import Derived.Test.YtecibfncnaccjaaGreatPv50
import Derived.Test.YtecibfncnaccjaaGreatPv53
import Derived.Test.YtecibfncnaccjaaGreatPv41
import Derived.Test.YtecibfncnaccjaaGreatRows
import Derived.Lib.SmallJoins
import Derived.Carry
import Derived.ChangeSame
import Derived.ChangeSlices
import Derived.ChangeMaps5
import Derived.SizedLaws
import Derived.ProofKit
import Derived.OpenShut
import Derived.Deep.SlicePairs
import Derived.Deep.DeepHandedRow
import Derived.Deep.DeepWitnessRowRef
import Derived.Deep.DeepLaidRun
namespace Go.Proofs.YtecibfncnaccjaaGreat
theorem szT_sum {l : List Tri} {f : Tri → Rat} (h : ∀ t ∈ l, szR (f t) ≤ 30) (hn : l.length ≤ 200) : szR (sumR (l.map f)) ≤ 6201 := by
 have h1 := szR_sum (m := 30) (l := l.map f) (fun q hq => by obtain ⟨t, ht, rfl⟩ := List.mem_map.1 hq; exact h t ht) _ (Nat.le_refl _)
 rw [List.take_length, List.length_map] at h1
 omega
theorem szT_half {st : Int} (h1 : 2 ≤ st) (h2 : st ≤ 65536) : szR (Rat.divInt (st * st) 2) ≤ 3 := by
 have hq0 : 0 ≤ st * st := Int.mul_nonneg (by omega) (by omega)
 have hq1 : st * st ≤ 65536 * 65536 := Int.mul_le_mul h2 h2 (by omega) (by omega)
 obtain ⟨sq, hsq⟩ : ∃ q, st * st = q := ⟨_, rfl⟩
 rw [hsq] at hq0 hq1 ⊢
 have h1 := szR_divInt sq 2 (by decide)
 have h2 : lenI sq ≤ 2 := dig_length_le (n := sq.natAbs) (k := 2) (by omega)
 have h3 : lenI 2 ≤ 1 := by decide +kernel
 omega
section
variable {st lv z : Int} {W H : Nat} {zs : List Int}
theorem szT_len (hl : zs.length = W * H) (hn : zs.length ≤ 100) : (triL W H zs).length ≤ 200 := by have := triL_len W H zs; omega
theorem sz_totV (hs1 : 2 ≤ st) (hs2 : st ≤ 65536) (hl : zs.length = W * H) (hn : zs.length ≤ 100) (hz : ∀ z ∈ zs, badZ z = false) (hv : -3000000 ≤ lv ∧ lv ≤ 3000000) : szR (totV st W H zs lv) ≤ 6300 := by
 have h1 := szT_sum (l := triL W H zs) (f := fun t => cT tipV restV (hgtT zs lv t)) (fun t ht => szR_cT (hgt_sz hl hz ht hv) szR_tipV szR_restV) (szT_len hl hn)
 have h2 := szT_half hs1 hs2
 have h3 := szR_mul (sumR ((triL W H zs).map fun t => cT tipV restV (hgtT zs lv t))) (Rat.divInt (st * st) 2)
 unfold totV
 omega
theorem sz_totA (hs1 : 2 ≤ st) (hs2 : st ≤ 65536) (hl : zs.length = W * H) (hn : zs.length ≤ 100) (hz : ∀ z ∈ zs, badZ z = false) (hv : -3000000 ≤ lv ∧ lv ≤ 3000000) : szR (totA st W H zs lv) ≤ 6300 := by
 have h1 := szT_sum (l := triL W H zs) (f := fun t => cT shR restA (hgtT zs lv t)) (fun t ht => szR_cT (hgt_sz hl hz ht hv) szR_shR szR_restA) (szT_len hl hn)
 have h2 := szT_half hs1 hs2
 have h3 := szR_mul (sumR ((triL W H zs).map fun t => cT shR restA (hgtT zs lv t))) (Rat.divInt (st * st) 2)
 unfold totA
 omega
theorem sz_lvUp (hs1 : 2 ≤ st) (hs2 : st ≤ 65536) (hse : st.tmod 2 = 0) (hl : zs.length = W * H) (hn : zs.length ≤ 100) (hz : ∀ z ∈ zs, badZ z = false) (hv : -2000000 ≤ z ∧ z ≤ 2000000) : szR (lvUp st W H zs z) ≤ 6300 := by
 have h1 := szT_sum (l := triL W H zs) (f := upI fun k => zs.getD k 0 - z) (fun t ht => by
  obtain ⟨-, h1, h2, h3⟩ := triL_bd hl hz ht
  have e1 : ∀ n : Int, -1048576 ≤ n → n ≤ 1048576 → szR ((n - z : Int) : Rat) ≤ 1 := fun n a b => szR_i1 (by omega) (by omega)
  exact (szR_upV (e1 _ h1.1 h1.2) (e1 _ h2.1 h2.2) (e1 _ h3.1 h3.2)).1) (szT_len hl hn)
 have h2 := szT_half hs1 hs2
 have h3 := szR_mul (Rat.divInt (st * st) 2) (sumR ((triL W H zs).map (upI fun k => zs.getD k 0 - z)))
 unfold lvUp
 rw [half_step hse]
 omega
end
end Go.Proofs.YtecibfncnaccjaaGreat
namespace Go.Proofs.YtecibfncnaccjaaGreat
open Go.RowKit Go.Shelf
theorem St.put0 {w0 w : World} {bs : List Bx} (S : St w0 w bs []) (i j : Nat) {B : Nat} {t : TypeId} {vs : List Value} (hi : bs[i]? = some (B, t, vs)) (u : Value) :
 St w0 (w.setCell ⟨B, j, none⟩ u) (bs.set i (B, t, vs.set j u)) [] := by
 have hO := S.o i hi
 have hlo := S.lo _ (List.mem_of_getElem? hi)
 exact ⟨S.k.set hlo u, Bxs.set (hO.set j u) hi rfl S.d (fun q _ e h => h.far e u) S.b, set_lo hi S.lo, set_d hi S.d, trivial⟩
theorem own_of_row {w : World} {base : Nat} {e : TypeId} {v : Value} {n : Nat} {xs : List Value} (h : w.ownsRow base e 1 v n xs) (hn : 0 < n) : ∃ g cap sp, v = .slice (some ⟨g, 0, none⟩) n cap ∧ base ≤ g ∧ n ≤ cap ∧ Own w g e (xs ++ sp) := by
 rcases h.2 with ⟨_, h0⟩ | ⟨g, cap, cur, hv, hb, hg, hc, -, -, ht⟩
 ·omega
 ·refine ⟨g, cap, cur.toList.drop (n * 1), hv, hb, hc, ?_⟩
  show w.heap[g]? = _
  rw [hg, ← ht, List.take_append_drop]
theorem own_irow2 {w : World} {g : Nat} {t : TypeId} {l : List Int} {sp : List Value} (h : Own w g t (i64s l ++ sp)) : IRow w (some ⟨g, 0, none⟩) l := fun hn => ⟨g, 0, rfl, h.lt, fun j hj => by
 show w.cell? ⟨g, 0 + j, none⟩ = _
 rw [Nat.zero_add, h.cell, List.getElem?_append_left (by rw [i64s_length]; exact hj), i64s_at hj]
 rfl⟩
def dblL (zs : List Int) (k : Nat) : List Int := (zs.take k).map dblZ ++ zs.drop k
theorem dblL_length (zs : List Int) (k : Nat) : (dblL zs k).length = zs.length := by simp [dblL]; omega
theorem dblL_0 (zs : List Int) : dblL zs 0 = zs := by simp [dblL]
theorem dblL_end (zs : List Int) : dblL zs zs.length = zs.map dblZ := by simp [dblL]
theorem dblL_set {zs : List Int} {k : Nat} (hk : k < zs.length) : (dblL zs k).set k (dblZ (zs.getD k 0)) = dblL zs (k + 1) := by
 unfold dblL
 rw [List.set_append_right _ _ (by simp; omega), List.take_succ_eq_append_getElem hk, List.map_append, List.append_assoc, List.drop_eq_getElem_cons hk, List.length_map, List.length_take, Nat.min_eq_left (by omega), Nat.sub_self]
 simp only [List.map_cons, List.map_nil, List.set_cons_zero, List.cons_append, List.nil_append, List.getD, List.getElem?_eq_getElem hk, Option.getD_some]
theorem dblL_at {zs : List Int} {k : Nat} (hk : k < zs.length) : (dblL zs k).getD k 0 = zs.getD k 0 := by
 unfold dblL
 simp [List.getD, List.getElem?_append_right, hk, Nat.min_eq_left (Nat.le_of_lt hk)]
theorem dblL_same {zs : List Int} {k : Nat} (hk : k < zs.length) (h : zs.getD k 0 = -2147483648) : dblL zs k = dblL zs (k + 1) := by
 have e : dblZ (zs.getD k 0) = (dblL zs k).getD k 0 := by rw [dblL_at hk, dblZ, if_pos h]
 rw [← dblL_set hk, e]
 have hl : k < (dblL zs k).length := by rw [dblL_length]; exact hk
 simp [List.getD, hl]
theorem cloneI_any {w : World} {A : Option Addr} {c : Nat} {zs : List Int} (hr : IRow w A zs) (h0 : 0 < zs.length) (hl : zs.length ≤ 1000) :
 Calls Tryz.prog 9 #[.slice A zs.length c] w fun e w' => ∃ g cap sp, e = .returned (.slice (some ⟨g, 0, none⟩) zs.length cap) ∧ w.heap.size ≤ g ∧ Own w' g 3 (i64s zs ++ sp) ∧ Keeps w w' := by
 obtain ⟨b, o, rfl, -, hc⟩ := hr h0
 refine (Tryz.slices_Clone_int b o zs.length c zs w (Nat.le_refl _) (by omega) hc).mono ?_
 rintro e w' ⟨v', rfl, ho, -, hk⟩
 rw [List.take_length] at ho
 obtain ⟨g, cap, sp, rfl, hg, -, hO⟩ := own_of_row ho h0
 exact ⟨g, cap, sp, rfl, hg, hO, hk⟩
theorem big_bd {zs : List Int} (h : zs.any bigZ = false) {y : Int} (hy : y ∈ zs) : y = -2147483648 ∨ (-524288 ≤ y ∧ y ≤ 524288) := by
 have hb : bigZ y = false := by
  cases hc : bigZ y with
  | false => rfl
  | true => exact absurd (List.any_eq_true.2 ⟨y, hy, hc⟩) (by rw [h]; simp)
 unfold bigZ at hb
 by_cases e : y = -2147483648
 ·exact .inl e
 ·simp [e] at hb
  omega
theorem dbl_chk {gx gy st W H : Int} {zs : List Int} (hc : chkG gx gy st W H zs = 0) (hb : zs.any bigZ = false) : chkG gx gy st W H (zs.map dblZ) = 0 := by
 have ha : (zs.map dblZ).any badZ = false := by
  rw [List.any_eq_false]
  intro y hy
  obtain ⟨x, hx, rfl⟩ := List.mem_map.1 hy
  unfold dblZ badZ farP
  rcases big_bd hb hx with rfl | h
  ·simp
  ·rw [if_neg (by omega)]
   simp
   omega
 unfold chkG at hc ⊢
 split at hc
 ·cases hc
 ·rename_i h1
  rw [if_neg h1, List.length_map]
  split at hc
  ·cases hc
  ·rename_i h2
   rw [if_neg h2, ha]
   rfl
theorem sgn_nonneg {q : Rat} (h : 0 ≤ q) : 0 ≤ q.num.sign := by
 have h1 : ¬ q.num.sign < 0 := fun h2 => by
  have := (rsgn_neg q).1 h2
  grind
 omega
set_option maxRecDepth 100000 in
set_option maxHeartbeats 4000000 in
theorem tvol_any {w : World} {A : Option Addr} {c : Nat} {zs : List Int} (hr : IRow w A zs) (hl : zs.length ≤ maxLen) (gx gy st Wi Hi z : Int) (_ : -9223372036854775808 ≤ z ∧ z ≤ 9223372036854775807) :
 Calls Tryz.prog 3 #[grV gx gy st Wi Hi A zs.length c, .int .i64 z] w fun e w' => e = .returned (.bool true) ∧ Keeps w w' := by
 have S := (St.start w).alloc 24 (grL gx gy st Wi Hi A zs.length c)
 obtain ⟨W0, hW0, S⟩ := S.pack
 have HR := Lib.hid hr
 have HAW := Lib.hid (fun u => dawake u)
 have HCK := Lib.hid (fun u (hk : Keeps w u) => lChecked_any (c := c) (hr.below hk) gx gy st Wi Hi hl)
 have HCF := Lib.hid (fun u (hk : Keeps w u) => tv1_c (c := c) (hr.below hk) hl bigZ (tv1_big u))
 obtain ⟨n, hn⟩ : ∃ n, zs.length = n := ⟨_, rfl⟩
 obtain ⟨code, hcode⟩ : ∃ k, chkG gx gy st Wi Hi zs = k := ⟨_, rfl⟩
 obtain ⟨bb, hbb⟩ : ∃ b, zs.any bigZ = b := ⟨_, rfl⟩
 have HN := Lib.hid hn
 have HCO := Lib.hid hcode
 have HBB := Lib.hid hbb
 rw [hn, hcode] at HCK
 rw [hn, hbb] at HCF
 rw [hn] at S hW0 ⊢
 have hnI : (n : Int) ≤ 9223372036854775807 := by simp only [maxLen] at hl; omega
 clear hr hl hn hcode hbb
 obtain ⟨x0, x1, x2, x3, x4, x5⟩ := S.cc6 0 rfl
 go_enter Tryz.func3, Tryz.ntmps3
 go_wp2_with fail
 refine (HAW.out _).mono ?_
 rintro e W1 ⟨rfl, hk⟩
 replace S := S.below hk
 clear hk hW0 x0 x1 x2 x3 x4 x5
 obtain ⟨x0, x1, x2, x3, x4, x5⟩ := S.cc6 0 rfl
 by_cases t1 : (80 : Int) < n
 ·have d1 : decide ((80 : Int) < (n : Int)) = true := decide_eq_true t1
  go_wp2
  all_goals (go_ret; exact ⟨rfl, S.k⟩)
 ·have d1 : decide ((80 : Int) < (n : Int)) = false := decide_eq_false t1
  go_wp2_with fail
  refine (HCK.out _ S.k).mono ?_
  rintro e W2 ⟨rfl, hk⟩
  replace S := S.below hk
  clear hk x0 x1 x2 x3 x4 x5
  obtain ⟨x0, x1, x2, x3, x4, x5⟩ := S.cc6 0 rfl
  by_cases t2 : code = 0
  ·have d2 : (code != 0) = false := by simp [t2]
   have HT2 := Lib.hid t2
   by_cases t3 : 262144 < z
   ·have d3 : decide ((262144 : Int) < z) = true := decide_eq_true t3
    clear t2
    go_wp2
    all_goals (go_ret; exact ⟨rfl, S.k⟩)
   ·have d3 : decide ((262144 : Int) < z) = false := decide_eq_false t3
    by_cases t4 : z < -262144
    ·have d4 : decide (z < (-262144 : Int)) = true := decide_eq_true t4
     clear t2
     go_wp2
     all_goals (go_ret; exact ⟨rfl, S.k⟩)
    ·have d4 : decide (z < (-262144 : Int)) = false := decide_eq_false t4
     clear t2
     go_wp2_with fail
     refine (HCF.out _ S.k).mono ?_
     rintro e W3 ⟨rfl, hk⟩
     replace S := S.below hk
     clear hk x0 x1 x2 x3 x4 x5
     obtain ⟨x0, x1, x2, x3, x4, x5⟩ := S.cc6 0 rfl
     cases bb with
     | true =>
      go_wp2
      all_goals (go_ret; exact ⟨rfl, S.k⟩)
     | false =>
      have hc := HCO.out
      rw [HT2.out] at hc
      have hbz := HBB.out
      obtain ⟨hW, hH, ⟨hs1, hs2, hse⟩, hln, hzs, -, -⟩ := chkG_ok hc
      obtain ⟨W, rfl⟩ : ∃ W : Nat, Wi = W := ⟨Wi.toNat, by omega⟩
      obtain ⟨H, rfl⟩ : ∃ H : Nat, Hi = H := ⟨Hi.toNat, by omega⟩
      have hlN : zs.length = W * H := by exact_mod_cast hln
      have hn0 : 0 < zs.length := by rw [hlN]; exact Nat.mul_pos (by omega) (by omega)
      have hn8 : zs.length ≤ 100 := by have := HN.out; omega
      have hz1 : -262144 ≤ z := by omega
      have hz2 : z ≤ 262144 := by omega
      have hc2 := dbl_chk hc hbz
      have hl2 : (zs.map dblZ).length = zs.length := List.length_map ..
      have HVL := Lib.hid (fun (u : World) (hk : Keeps w u) => cvolume_any (cz := c) (HR.out.below hk) gx gy st (2 * z - 1) W H hc hn8 (by omega) (by omega) (by omega))
      have HVH := Lib.hid (fun (u : World) (hk : Keeps w u) => cvolume_any (cz := c) (HR.out.below hk) gx gy st (2 * z + 1) W H hc hn8 (by omega) (by omega) (by omega))
      have HLA := Lib.hid (fun (u : World) (hk : Keeps w u) => vlevel_any (c := c) (HR.out.below hk) gx gy st W H z hc (by unfold farP; simp; omega) (by omega))
      have HLD := Lib.hid (fun (g cg : Nat) (sp : List Value) (u : World) (h : Own u g 3 (i64s (zs.map dblZ) ++ sp)) => vlevel_any (c := cg) (own_irow2 h) gx gy st W H (2 * z + 1) hc2 (by unfold farP; simp; omega) (by rw [hl2]; omega))
      have HAB := Lib.hid (fun (u : World) (hk : Keeps w u) => cabove_any (cz := c) (HR.out.below hk) gx gy st (2 * z + 1) W H hc hn8 (by omega) (by omega) (by omega))
      have HAR := Lib.hid (fun (u : World) (hk : Keeps w u) => varea_any (c := c) (HR.out.below hk) gx gy st W H hc hn8)
      have HCL := Lib.hid (fun (u : World) (hk : Keeps w u) => cloneI_any (c := c) (HR.out.below hk) hn0 (by omega))
      have HSB : Hid (∀ y ∈ zs, y = -2147483648 ∨ (-524288 ≤ y ∧ y ≤ 524288)) := Lib.hid fun y hy => big_bd hbz hy
      obtain ⟨e1, e2, e3⟩ := vol_levels (z := z) (W := W) (H := H) (zs := zs) hse
      obtain ⟨e4, e5⟩ := area_between (st := st) (lv := 2 * z + 1) (W := W) (H := H) (zs := zs)
      have e6 := vol_doubled (z := z) hse hlN hzs
      have z1 := sz_totV (lv := 2 * z - 1) hs1 hs2 hlN hn8 hzs (by omega)
      have z2 := sz_totV (lv := 2 * z + 1) hs1 hs2 hlN hn8 hzs (by omega)
      have z3 := sz_totA (lv := 2 * z + 1) hs1 hs2 hlN hn8 hzs (by omega)
      have z4 := sz_lvUp (z := z) hs1 hs2 hse hlN hn8 hzs (by omega)
      have hq1 : 0 ≤ (((triL W H zs).length : Nat) : Int) * st * st := Int.mul_nonneg (Int.mul_nonneg (by omega) (by omega)) (by omega)
      have hq2 : (((triL W H zs).length : Nat) : Int) * st * st ≤ 200 * 65536 * 65536 := Int.mul_le_mul (Int.mul_le_mul (by have := szT_len hlN hn8; omega) hs2 (by omega) (by omega)) hs2 (by omega) (by omega)
      rw [hl2] at HLD
      rw [HN.out] at HVL HVH HLA HLD HAB HAR HCL
      generalize totV st W H zs (2 * z - 1) = vl at *
      generalize totV st W H zs (2 * z + 1) = vh at *
      generalize lvUp st W H zs z = va at *
      generalize lvDn st W H zs z = vb at *
      generalize lvUp st W H (zs.map dblZ) (2 * z + 1) = vt at *
      generalize lvDn st W H (zs.map dblZ) (2 * z + 1) = vu at *
      generalize totA st W H zs (2 * z + 1) = vr at *
      generalize (((triL W H zs).length : Nat) : Int) * st * st = ar at *
      have z5 : szR ((2 : Int) : Rat) ≤ 1 := by decide +kernel
      have z6 : szR (Rat.divInt ar 2) ≤ 3 := by
       have h1 := szR_divInt ar 2 (by decide)
       have h2 : lenI ar ≤ 2 := dig_length_le (n := ar.natAbs) (k := 2) (by omega)
       have h3 : lenI 2 ≤ 1 := by decide +kernel
       omega
      have HE1 : Hid (vt = ((2 : Int) : Rat) * vh) := Lib.hid e6
      have z7 : szR vt ≤ 6301 := by have e7 : vt = ((2 : Int) : Rat) * vh := e6; rw [e7]; have := szR_mul ((2 : Int) : Rat) vh; omega
      obtain ⟨s1, hs_1⟩ : ∃ s, cmpR vh va = s := ⟨_, rfl⟩
      have p1 : decide (s1 ≤ 0) = true := decide_eq_true (by rw [← hs_1]; exact (cmpR_le _ _).2 e1)
      have HC1 := Lib.hid hs_1
      obtain ⟨s2, hs_2⟩ : ∃ s, cmpR va vl = s := ⟨_, rfl⟩
      have p2 : decide (s2 ≤ 0) = true := decide_eq_true (by rw [← hs_2]; exact (cmpR_le _ _).2 e2)
      have HC2 := Lib.hid hs_2
      obtain ⟨s3, hs_3⟩ : ∃ s, cmpR (((2 : Int) : Rat) * va) (vl + vh) = s := ⟨_, rfl⟩
      have p3 : decide (s3 ≤ 0) = true := decide_eq_true (by rw [← hs_3]; exact (cmpR_le _ _).2 e3)
      have HC3 := Lib.hid hs_3
      obtain ⟨s4, hs_4⟩ : ∃ s, vr.num.sign = s := ⟨_, rfl⟩
      have p4 : decide (0 ≤ s4) = true := decide_eq_true (by rw [← hs_4]; exact sgn_nonneg e4)
      have HC4 := Lib.hid hs_4
      obtain ⟨s5, hs_5⟩ : ∃ s, cmpR vr (Rat.divInt ar 2) = s := ⟨_, rfl⟩
      have p5 : decide (s5 ≤ 0) = true := decide_eq_true (by rw [← hs_5]; exact (cmpR_le _ _).2 e5)
      have HC5 := Lib.hid hs_5
      have hn81 : (n : Int) ≤ 80 := by omega
      have hnp : 0 < n := by have := HN.out; omega
      clear hs_1 hs_2 hs_3 hs_4 hs_5 e1 e2 e3 e4 e5 e6 hc hbz hW hH hs1 hs2 hse hln hzs hlN hn0 hn8 hc2 hl2 t1 t3 t4
      go_upto_region 6 with fail
      replace S := S.alloc 24 [.int .i64 gx, .int .i64 gy, .int .i64 st, .int .i64 (W : Nat), .int .i64 (H : Nat), .slice A n c]
      obtain ⟨W4, eW, S⟩ := S.pack
      rw [eW]
      clear eW x0 x1 x2 x3 x4 x5
      generalize W3.heap.size = P5 at *
      obtain ⟨x0, x1, x2, x3, x4, x5⟩ := S.cc6 1 rfl
      go_wp2_with fail
      refine (HCL.out _ S.k).mono ?_
      rintro e W5 ⟨g, cg, sp, rfl, hg, hO, hk⟩
      replace S := S.box (S.below hk) hO hg
      clear hg hO hk x0 x1 x2 x3 x4 x5
      obtain ⟨x0, x1, x2, x3, x4, x5⟩ := S.cc6 1 rfl
      have f5 := S.f 1 5 rfl
      go_upto_region 7 with fail
      replace S := S.put0 1 5 rfl (.slice (some ⟨g, 0, none⟩) n cg)
      obtain ⟨W6, eW, S⟩ := S.pack
      rw [eW]
      clear eW f5 x0 x1 x2 x3 x4 x5
      obtain ⟨x0, x1, x2, x3, x4, x5⟩ := S.cc6 1 rfl
      go_wp2
      clear x0 x1 x2 x3 x4 x5
      have HD0 : Hid (St w W6 [(g, 3, i64s (dblL zs 0) ++ sp), (P5, 24, [.int .i64 gx, .int .i64 gy, .int .i64 st, .int .i64 (W : Nat), .int .i64 (H : Nat), .slice (some ⟨g, 0, none⟩) n cg]), (w.heap.size, 24, [.int .i64 gx, .int .i64 gy, .int .i64 st, .int .i64 (W : Nat), .int .i64 (H : Nat), .slice A n c])] []) := Lib.hid (by rw [dblL_0]; exact S)
      clear S
      go_loopw [57] (fun i wr => ∃ k : Nat, k ≤ n ∧ i = .int .i64 (k : Nat) ∧ St w wr [(g, 3, i64s (dblL zs k) ++ sp), (P5, 24, [.int .i64 gx, .int .i64 gy, .int .i64 st, .int .i64 (W : Nat), .int .i64 (H : Nat), .slice (some ⟨g, 0, none⟩) n cg]), (w.heap.size, 24, [.int .i64 gx, .int .i64 gy, .int .i64 st, .int .i64 (W : Nat), .int .i64 (H : Nat), .slice A n c])] []) (fun i _ => n - (intOf i).toNat)
      case atStart => exact ⟨0, Nat.zero_le _, rfl, HD0.out⟩
      case round =>
       clear HD0
       obtain ⟨k, hk, rfl, S⟩ := hrel
       by_cases hlt : k < n
       ·have hkI : (k : Int) < (n : Int) := by omega
        have q1 : decide ((k : Int) < (n : Int)) = true := decide_eq_true hkI
        have hkz : k < zs.length := by rw [HN.out]; exact hlt
        have hL : k < (i64s (dblL zs k)).length := by rw [i64s_length, dblL_length]; exact hkz
        have hm : zs.getD k 0 ∈ zs := by rw [List.getD, List.getElem?_eq_getElem hkz]; exact List.getElem_mem hkz
        have hsb := HSB.out _ hm
        have y0 := S.c 0 k (v := .int .i64 (zs.getD k 0)) rfl (by rw [List.getElem?_append_left hL, i64s_at (by rw [dblL_length]; exact hkz), dblL_at hkz])
        have y5 := S.c 1 5 rfl rfl
        have f0 := S.f 0 k rfl
        by_cases hv : zs.getD k 0 = -2147483648
        ·have q2 : (zs.getD k 0 != -2147483648) = false := by rw [hv]; rfl
         have HZ := Lib.hid (dblL_same hkz hv)
         clear hsb hm hv hL hkz
         generalize zs.getD k 0 = v at *
         go_wp2
         go_roundw
         case rel => exact ⟨k + 1, by omega, by go_num, by rw [← HZ.out]; exact S⟩
         case measure => simp [intOf]; omega
        ·have q2 : (zs.getD k 0 != -2147483648) = true := bne_iff_ne.2 hv
         have hst := dblL_set hkz
         rw [show dblZ (zs.getD k 0) = 2 * zs.getD k 0 from if_neg hv] at hst
         have HZ := Lib.hid hst
         have hv1 : -524288 ≤ zs.getD k 0 := by omega
         have hv2 : zs.getD k 0 ≤ 524288 := by omega
         clear hsb hm hv hkz hst
         generalize zs.getD k 0 = v at *
         have S2 := S.put0 0 k rfl (.int .i64 (2 * v))
         have e9 : (i64s (dblL zs k) ++ sp).set k (.int .i64 (2 * v)) = i64s (dblL zs (k + 1)) ++ sp := by rw [List.set_append_left _ _ hL, i64s_set, HZ.out]
         rw [e9] at S2
         clear e9 hL
         go_wp2
         go_roundw
         case rel => exact ⟨k + 1, by omega, by go_num, S2⟩
         case measure => simp [intOf]; omega
       ·have hkI : ¬ (k : Int) < (n : Int) := by omega
        have q1 : decide ((k : Int) < (n : Int)) = false := decide_eq_false hkI
        obtain rfl : k = n := by omega
        have e9 : dblL zs k = zs.map dblZ := by rw [← HN.out, dblL_end]
        rw [e9] at S
        obtain ⟨cD, hcD⟩ : ∃ cD, i64s (zs.map dblZ) ++ sp = cD := ⟨_, rfl⟩
        have HLD := Lib.hid (fun (u : World) (h : Own u g 3 cD) => HLD.out g cg sp u (hcD ▸ h))
        rw [hcD] at S
        clear e9 hcD HR HAW HCK HCF HN HCO HBB HT2 HSB HCL
        have y0 := szR_int 2
        have y1 := szR_mul (((2 : Int) : Rat)) vh
        have y2 := szR_mul (((2 : Int) : Rat)) va
        have y3 := szR_add vl vh
        obtain ⟨r0_0, r0_1, r0_2, r0_3, r0_4, r0_5⟩ := S.cc6 2 rfl
        go_wp2_with fail
        refine ((HVL.out _ S.k)).mono ?_
        rintro e W31 ⟨U31, rfl, hp, hk⟩
        rw [if_pos rfl] at hp
        obtain ⟨b33, A33, n33, c33, d33, B33, m33, e33, rfl⟩ := hp.open_
        replace S := (S.below hk).addQ hp
        clear hk hp
        clear r0_0 r0_1 r0_2 r0_3 r0_4 r0_5
        go_upto_region 14 with fail
        replace S := (S.alloc 35 [.bool b33, .slice A33 n33 c33, .bool d33, .slice B33 m33 e33])
        obtain ⟨W32, eW, S⟩ := S.pack
        rw [eW]
        clear eW
        generalize W31.heap.size = P31 at *
        obtain ⟨r0_0, r0_1, r0_2, r0_3, r0_4, r0_5⟩ := S.cc6 3 rfl
        go_wp2_with fail
        refine ((HVH.out _ S.k)).mono ?_
        rintro e W33 ⟨U33, rfl, hp, hk⟩
        rw [if_pos rfl] at hp
        obtain ⟨b34, A34, n34, c34, d34, B34, m34, e34, rfl⟩ := hp.open_
        replace S := (S.below hk).addQ hp
        clear hk hp
        clear r0_0 r0_1 r0_2 r0_3 r0_4 r0_5
        go_upto_region 15 with fail
        replace S := (S.alloc 35 [.bool b34, .slice A34 n34 c34, .bool d34, .slice B34 m34 e34])
        obtain ⟨W34, eW, S⟩ := S.pack
        rw [eW]
        clear eW
        generalize W33.heap.size = P32 at *
        obtain ⟨r0_0, r0_1, r0_2, r0_3, r0_4, r0_5⟩ := S.cc6 4 rfl
        go_wp2_with fail
        refine ((HLA.out _ S.k)).mono ?_
        rintro e W35 ⟨U35, V35, rfl, hp, hr, hk⟩
        obtain ⟨b35, A35, n35, c35, d35, B35, m35, e35, rfl⟩ := hp.open_
        obtain ⟨b36, A36, n36, c36, d36, B36, m36, e36, rfl⟩ := hr.open_
        replace S := ((S.below hk).addQ hp).addQ hr
        clear hk hp hr
        clear r0_0 r0_1 r0_2 r0_3 r0_4 r0_5
        go_upto_region 16 with fail
        replace S := ((S.alloc 35 [.bool b35, .slice A35 n35 c35, .bool d35, .slice B35 m35 e35]).alloc 35 [.bool b36, .slice A36 n36 c36, .bool d36, .slice B36 m36 e36])
        simp only [World.size_alloc] at S
        obtain ⟨W36, eW, S⟩ := S.pack
        rw [eW]
        clear eW
        generalize W35.heap.size = P33 at *
        obtain ⟨r1_0, r1_1, r1_2, r1_3, r1_4, r1_5⟩ := S.cc6 5 rfl
        go_wp2_with fail
        refine ((HLD.out _ (S.o (p := (g, 3, cD)) 4 rfl))).mono ?_
        rintro e W37 ⟨U37, V37, rfl, hp, hr, hk⟩
        obtain ⟨b37, A37, n37, c37, d37, B37, m37, e37, rfl⟩ := hp.open_
        obtain ⟨b38, A38, n38, c38, d38, B38, m38, e38, rfl⟩ := hr.open_
        replace S := ((S.below hk).addQ hp).addQ hr
        clear hk hp hr
        clear r1_0 r1_1 r1_2 r1_3 r1_4 r1_5
        go_upto_region 17 with fail
        replace S := ((S.alloc 35 [.bool b37, .slice A37 n37 c37, .bool d37, .slice B37 m37 e37]).alloc 35 [.bool b38, .slice A38 n38 c38, .bool d38, .slice B38 m38 e38])
        simp only [World.size_alloc] at S
        obtain ⟨W38, eW, S⟩ := S.pack
        rw [eW]
        clear eW
        generalize W37.heap.size = P34 at *
        obtain ⟨r0_0, r0_1, r0_2, r0_3, r0_4, r0_5⟩ := S.cc6 8 rfl
        go_wp2_with fail
        refine ((HAB.out _ S.k)).mono ?_
        rintro e W39 ⟨U39, rfl, hp, hk⟩
        rw [if_pos rfl] at hp
        obtain ⟨b39, A39, n39, c39, d39, B39, m39, e39, rfl⟩ := hp.open_
        replace S := (S.below hk).addQ hp
        clear hk hp
        clear r0_0 r0_1 r0_2 r0_3 r0_4 r0_5
        go_upto_region 18 with fail
        replace S := (S.alloc 35 [.bool b39, .slice A39 n39 c39, .bool d39, .slice B39 m39 e39])
        obtain ⟨W40, eW, S⟩ := S.pack
        rw [eW]
        clear eW
        generalize W39.heap.size = P35 at *
        obtain ⟨r0_0, r0_1, r0_2, r0_3, r0_4, r0_5⟩ := S.cc6 9 rfl
        go_wp2_with fail
        refine ((HAR.out _ S.k)).mono ?_
        rintro e W41 ⟨rfl, hk⟩
        replace S := S.below hk
        clear hk
        clear r0_0 r0_1 r0_2 r0_3 r0_4 r0_5
        go_wp2_with fail
        refine ((gint_num 2 (by omega) (by omega))).mono ?_
        rintro e W42 ⟨U42, rfl, hp, hk⟩
        obtain ⟨b40, A40, n40, c40, d40, B40, m40, e40, rfl⟩ := hp.open_
        replace S := (S.below hk).addQ hp
        clear hk hp
        go_wp2_with fail
        replace S := (S.alloc 35 [.bool b40, .slice A40 n40 c40, .bool d40, .slice B40 m40 e40])
        obtain ⟨W43, eW, S⟩ := S.pack
        rw [eW]
        clear eW
        generalize W42.heap.size = P36 at *
        refine ((rcode_eq (c' := 0) (gof_num ar 2 (by omega) (by omega) (by omega) (by omega)) (by decide) rfl)).mono ?_
        rintro e W44 ⟨U44, rfl, hp, hk⟩
        rw [if_pos rfl] at hp
        obtain ⟨b41, A41, n41, c41, d41, B41, m41, e41, rfl⟩ := hp.open_
        replace S := (S.below hk).addQ hp
        clear hk hp
        go_upto_region 23 with fail
        replace S := (S.alloc 35 [.bool b41, .slice A41 n41 c41, .bool d41, .slice B41 m41 e41])
        obtain ⟨W45, eW, S⟩ := S.pack
        rw [eW]
        clear eW
        generalize W44.heap.size = P37 at *
        refine wp_region_steps (m := 38) rfl (by kernel_rfl) (fun iF vF wF => (List.getD [ve (.agg #[.bool b37, .slice A37 n37 c37, .bool d37, .slice B37 m37 e37]), ve (.agg #[.bool b40, .slice A40 n40 c40, .bool d40, .slice B40 m40 e40]), ve (.agg #[.bool b34, .slice A34 n34 c34, .bool d34, .slice B34 m34 e34]), fun vF wF => RatRep wF vF ((((2 : Int) : Rat)) * vh), ve (.bool true), ve (.bool true), ve (.agg #[.bool b34, .slice A34 n34 c34, .bool d34, .slice B34 m34 e34]), ve (.agg #[.bool b35, .slice A35 n35 c35, .bool d35, .slice B35 m35 e35]), ve (.int .i64 s1), ve (.bool true), ve (.bool true), ve (.bool true), ve (.agg #[.bool b35, .slice A35 n35 c35, .bool d35, .slice B35 m35 e35]), ve (.agg #[.bool b33, .slice A33 n33 c33, .bool d33, .slice B33 m33 e33]), ve (.int .i64 s2), ve (.bool true), ve (.bool true), ve (.bool true), ve (.agg #[.bool b40, .slice A40 n40 c40, .bool d40, .slice B40 m40 e40]), ve (.agg #[.bool b35, .slice A35 n35 c35, .bool d35, .slice B35 m35 e35]), fun vF wF => RatRep wF vF ((((2 : Int) : Rat)) * va), ve (.agg #[.bool b33, .slice A33 n33 c33, .bool d33, .slice B33 m33 e33]), ve (.agg #[.bool b34, .slice A34 n34 c34, .bool d34, .slice B34 m34 e34]), fun vF wF => RatRep wF vF (vl + vh), ve (.int .i64 s3), ve (.bool true), ve (.bool true), ve (.bool true), ve (.agg #[.bool b39, .slice A39 n39 c39, .bool d39, .slice B39 m39 e39]), ve (.int .i64 s4), ve (.bool true), ve (.bool true), ve (.bool true), ve (.agg #[.bool b39, .slice A39 n39 c39, .bool d39, .slice B39 m39 e39]), ve (.agg #[.bool b41, .slice A41 n41 c41, .bool d41, .slice B41 m41 e41]), ve (.int .i64 s5), ve (.bool true), ve (.bool true)] iF (fun _ _ => True)) vF wF) [] ?_ ?_ ?_
        ·intro i v w w' _ h hk
         refine stabL_get ?_ i v w w' h hk
         exact stab_cons st_e (stab_cons st_e (stab_cons st_e (stab_cons st_q (stab_cons st_e (stab_cons st_e (stab_cons st_e (stab_cons st_e (stab_cons st_e (stab_cons st_e (stab_cons st_e (stab_cons st_e (stab_cons st_e (stab_cons st_e (stab_cons st_e (stab_cons st_e (stab_cons st_e (stab_cons st_e (stab_cons st_e (stab_cons st_e (stab_cons st_q (stab_cons st_e (stab_cons st_e (stab_cons st_q (stab_cons st_e (stab_cons st_e (stab_cons st_e (stab_cons st_e (stab_cons st_e (stab_cons st_e (stab_cons st_e (stab_cons st_e (stab_cons st_e (stab_cons st_e (stab_cons st_e (stab_cons st_e (stab_cons st_e (stab_cons st_e stab_nil)))))))))))))))))))))))))))))))))))))
        ·intro i hi vs w3 hk3 hd
         have S3 := S.drew.below hk3
         obtain ⟨a0, a1, a2, a3⟩ := S3.cc4 8 rfl
         obtain ⟨a4, a5, a6, a7⟩ := S3.cc4 7 rfl
         obtain ⟨a8, a9, a10, a11⟩ := S3.cc4 6 rfl
         obtain ⟨a12, a13, a14, a15⟩ := S3.cc4 4 rfl
         obtain ⟨a16, a17, a18, a19⟩ := S3.cc4 2 rfl
         obtain ⟨a20, a21, a22, a23⟩ := S3.cc4 1 rfl
         obtain ⟨a24, a25, a26, a27⟩ := S3.cc4 0 rfl
         match i, hi with
         | 0, _ =>
          refine sv0 [] (ve (.agg #[.bool b37, .slice A37 n37 c37, .bool d37, .slice B37 m37 e37])) rfl fun K hK => ?_; clear hd; simp only [frD] at hK ⊢; go_simp
          exact hK _ _ bl rfl
         | 1, _ =>
          refine sv0 [] (ve (.agg #[.bool b40, .slice A40 n40 c40, .bool d40, .slice B40 m40 e40])) rfl fun K hK => ?_; clear hd; simp only [frD] at hK ⊢; go_simp
          exact hK _ _ bl rfl
         | 2, _ =>
          refine sv0 [] (ve (.agg #[.bool b34, .slice A34 n34 c34, .bool d34, .slice B34 m34 e34])) rfl fun K hK => ?_; clear hd; simp only [frD] at hK ⊢; go_simp
          exact hK _ _ bl rfl
         | 3, _ =>
          have qe1 : (vs 1) = .agg #[.bool b40, .slice A40 n40 c40, .bool d40, .slice B40 m40 e40] := hdk hd 1; have qe2 : (vs 2) = .agg #[.bool b34, .slice A34 n34 c34, .bool d34, .slice B34 m34 e34] := hdk hd 2
          refine sc (A := #[(vs 1), (vs 2)]) (B := #[.agg #[.bool b40, .slice A40 n40 c40, .bool d40, .slice B40 m40 e40], .agg #[.bool b34, .slice A34 n34 c34, .bool d34, .slice B34 m34 e34]]) [(1, some 135), (2, some 136)] (fun vF wF => RatRep wF vF ((((2 : Int) : Rat)) * vh)) rfl (wanted_none rfl) (by rw [qe1, qe2]) Tryz.func17 ?_
          refine ((gmul_num ((S3.qi 1 rfl).num (by omega)) ((S3.qi 7 rfl).num (by omega)))).mono ?_; rintro e w4 ⟨U, rfl, hr, hk4⟩; exact ⟨_, rfl, hk4, hr⟩
         | 4, _ =>
          have qe0 : (vs 0) = .agg #[.bool b37, .slice A37 n37 c37, .bool d37, .slice B37 m37 e37] := hdk hd 0; have h3 : RatRep w3 (vs 3) ((((2 : Int) : Rat)) * vh) := hdk hd 3
          refine sc (A := #[(vs 0), (vs 3)]) (B := #[.agg #[.bool b37, .slice A37 n37 c37, .bool d37, .slice B37 m37 e37], (vs 3)]) [(0, some 134), (3, some 137)] (ve (.bool true)) rfl (wanted_none rfl) (by rw [qe0]) Tryz.func16 ?_
          refine ((gsamer_s (b := true) (S3.qi 4 rfl) h3 (by omega) (decide_eq_true HE1.out))).mono ?_; rintro e w4 ⟨rfl, hk4⟩; exact ⟨_, rfl, hk4, rfl⟩
         | 5, _ =>
          have qe4 : (vs 4) = .bool true := hdk hd 4
          refine sv0 [(4, some 138)] (ve (.bool true)) rfl fun K hK => ?_; clear hd; simp only [frD, qe4] at hK ⊢; go_simp
          exact hK _ _ bl rfl
         | 6, _ =>
          have qe5 : (vs 5) = .bool true := hdk hd 5
          refine svg [(5, some 139)] (ve (.agg #[.bool b34, .slice A34 n34 c34, .bool d34, .slice B34 m34 e34])) rfl (ws 139 qe5) fun K hK => ?_; clear hd; simp only [frD, qe5] at hK ⊢; go_simp
          exact hK _ _ bl rfl
         | 7, _ =>
          have qe5 : (vs 5) = .bool true := hdk hd 5
          refine svg [(5, some 139)] (ve (.agg #[.bool b35, .slice A35 n35 c35, .bool d35, .slice B35 m35 e35])) rfl (ws 139 qe5) fun K hK => ?_; clear hd; simp only [frD, qe5] at hK ⊢; go_simp
          exact hK _ _ bl rfl
         | 8, _ =>
          have qe5 : (vs 5) = .bool true := hdk hd 5; have qe6 : (vs 6) = .agg #[.bool b34, .slice A34 n34 c34, .bool d34, .slice B34 m34 e34] := hdk hd 6; have qe7 : (vs 7) = .agg #[.bool b35, .slice A35 n35 c35, .bool d35, .slice B35 m35 e35] := hdk hd 7
          refine sc (A := #[(vs 6), (vs 7)]) (B := #[.agg #[.bool b34, .slice A34 n34 c34, .bool d34, .slice B34 m34 e34], .agg #[.bool b35, .slice A35 n35 c35, .bool d35, .slice B35 m35 e35]]) [(5, some 139), (6, some 140), (7, some 141)] (ve (.int .i64 s1)) rfl (ws 139 qe5) (by rw [qe6, qe7]) Tryz.func18 ?_
          refine ((gcompare_s ((S3.qi 7 rfl).num (by omega)) ((S3.qi 6 rfl).num (by omega)) (by omega) HC1.out)).mono ?_; rintro e w4 ⟨rfl, hk4⟩; exact ⟨_, rfl, hk4, rfl⟩
         | 9, _ =>
          have qe5 : (vs 5) = .bool true := hdk hd 5; have qe8 : (vs 8) = .int .i64 s1 := hdk hd 8
          refine svg [(5, some 139), (8, some 142)] (ve (.bool true)) rfl (ws 139 qe5) fun K hK => ?_; clear hd; simp only [frD, qe5, qe8] at hK ⊢; go_simp
          exact hK _ _ bl rfl
         | 10, _ =>
          have qe5 : (vs 5) = .bool true := hdk hd 5; have qe9 : (vs 9) = .bool true := hdk hd 9
          refine sv0 [(5, some 139), (9, some 143)] (ve (.bool true)) rfl fun K hK => ?_; clear hd; simp only [frD, qe5, qe9] at hK ⊢; go_simp
          exact hK _ _ bl rfl
         | 11, _ =>
          have qe8 : (vs 8) = .int .i64 s1 := hdk hd 8; have qe10 : (vs 10) = .bool true := hdk hd 10
          refine sv0 [(8, some 142), (10, some 144)] (ve (.bool true)) rfl fun K hK => ?_; clear hd; simp only [frD, qe8, qe10] at hK ⊢; go_simp
          exact hK _ _ bl rfl
         | 12, _ =>
          have qe11 : (vs 11) = .bool true := hdk hd 11
          refine svg [(11, some 145)] (ve (.agg #[.bool b35, .slice A35 n35 c35, .bool d35, .slice B35 m35 e35])) rfl (ws 145 qe11) fun K hK => ?_; clear hd; simp only [frD, qe11] at hK ⊢; go_simp
          exact hK _ _ bl rfl
         | 13, _ =>
          have qe11 : (vs 11) = .bool true := hdk hd 11
          refine svg [(11, some 145)] (ve (.agg #[.bool b33, .slice A33 n33 c33, .bool d33, .slice B33 m33 e33])) rfl (ws 145 qe11) fun K hK => ?_; clear hd; simp only [frD, qe11] at hK ⊢; go_simp
          exact hK _ _ bl rfl
         | 14, _ =>
          have qe11 : (vs 11) = .bool true := hdk hd 11; have qe12 : (vs 12) = .agg #[.bool b35, .slice A35 n35 c35, .bool d35, .slice B35 m35 e35] := hdk hd 12; have qe13 : (vs 13) = .agg #[.bool b33, .slice A33 n33 c33, .bool d33, .slice B33 m33 e33] := hdk hd 13
          refine sc (A := #[(vs 12), (vs 13)]) (B := #[.agg #[.bool b35, .slice A35 n35 c35, .bool d35, .slice B35 m35 e35], .agg #[.bool b33, .slice A33 n33 c33, .bool d33, .slice B33 m33 e33]]) [(11, some 145), (12, some 146), (13, some 147)] (ve (.int .i64 s2)) rfl (ws 145 qe11) (by rw [qe12, qe13]) Tryz.func18 ?_
          refine ((gcompare_s ((S3.qi 6 rfl).num (by omega)) ((S3.qi 8 rfl).num (by omega)) (by omega) HC2.out)).mono ?_; rintro e w4 ⟨rfl, hk4⟩; exact ⟨_, rfl, hk4, rfl⟩
         | 15, _ =>
          have qe11 : (vs 11) = .bool true := hdk hd 11; have qe14 : (vs 14) = .int .i64 s2 := hdk hd 14
          refine svg [(11, some 145), (14, some 148)] (ve (.bool true)) rfl (ws 145 qe11) fun K hK => ?_; clear hd; simp only [frD, qe11, qe14] at hK ⊢; go_simp
          exact hK _ _ bl rfl
         | 16, _ =>
          have qe11 : (vs 11) = .bool true := hdk hd 11; have qe15 : (vs 15) = .bool true := hdk hd 15
          refine sv0 [(11, some 145), (15, some 149)] (ve (.bool true)) rfl fun K hK => ?_; clear hd; simp only [frD, qe11, qe15] at hK ⊢; go_simp
          exact hK _ _ bl rfl
         | 17, _ =>
          have qe14 : (vs 14) = .int .i64 s2 := hdk hd 14; have qe16 : (vs 16) = .bool true := hdk hd 16
          refine sv0 [(14, some 148), (16, some 150)] (ve (.bool true)) rfl fun K hK => ?_; clear hd; simp only [frD, qe14, qe16] at hK ⊢; go_simp
          exact hK _ _ bl rfl
         | 18, _ =>
          have qe17 : (vs 17) = .bool true := hdk hd 17
          refine svg [(17, some 151)] (ve (.agg #[.bool b40, .slice A40 n40 c40, .bool d40, .slice B40 m40 e40])) rfl (ws 151 qe17) fun K hK => ?_; clear hd; simp only [frD, qe17] at hK ⊢; go_simp
          exact hK _ _ bl rfl
         | 19, _ =>
          have qe17 : (vs 17) = .bool true := hdk hd 17
          refine svg [(17, some 151)] (ve (.agg #[.bool b35, .slice A35 n35 c35, .bool d35, .slice B35 m35 e35])) rfl (ws 151 qe17) fun K hK => ?_; clear hd; simp only [frD, qe17] at hK ⊢; go_simp
          exact hK _ _ bl rfl
         | 20, _ =>
          have qe17 : (vs 17) = .bool true := hdk hd 17; have qe18 : (vs 18) = .agg #[.bool b40, .slice A40 n40 c40, .bool d40, .slice B40 m40 e40] := hdk hd 18; have qe19 : (vs 19) = .agg #[.bool b35, .slice A35 n35 c35, .bool d35, .slice B35 m35 e35] := hdk hd 19
          refine sc (A := #[(vs 18), (vs 19)]) (B := #[.agg #[.bool b40, .slice A40 n40 c40, .bool d40, .slice B40 m40 e40], .agg #[.bool b35, .slice A35 n35 c35, .bool d35, .slice B35 m35 e35]]) [(17, some 151), (18, some 152), (19, some 153)] (fun vF wF => RatRep wF vF ((((2 : Int) : Rat)) * va)) rfl (ws 151 qe17) (by rw [qe18, qe19]) Tryz.func17 ?_
          refine ((gmul_num ((S3.qi 1 rfl).num (by omega)) ((S3.qi 6 rfl).num (by omega)))).mono ?_; rintro e w4 ⟨U, rfl, hr, hk4⟩; exact ⟨_, rfl, hk4, hr⟩
         | 21, _ =>
          have qe17 : (vs 17) = .bool true := hdk hd 17
          refine svg [(17, some 151)] (ve (.agg #[.bool b33, .slice A33 n33 c33, .bool d33, .slice B33 m33 e33])) rfl (ws 151 qe17) fun K hK => ?_; clear hd; simp only [frD, qe17] at hK ⊢; go_simp
          exact hK _ _ bl rfl
         | 22, _ =>
          have qe17 : (vs 17) = .bool true := hdk hd 17
          refine svg [(17, some 151)] (ve (.agg #[.bool b34, .slice A34 n34 c34, .bool d34, .slice B34 m34 e34])) rfl (ws 151 qe17) fun K hK => ?_; clear hd; simp only [frD, qe17] at hK ⊢; go_simp
          exact hK _ _ bl rfl
         | 23, _ =>
          have qe17 : (vs 17) = .bool true := hdk hd 17; have h20 : RatRep w3 (vs 20) ((((2 : Int) : Rat)) * va) := hdk hd 20; have qe21 : (vs 21) = .agg #[.bool b33, .slice A33 n33 c33, .bool d33, .slice B33 m33 e33] := hdk hd 21; have qe22 : (vs 22) = .agg #[.bool b34, .slice A34 n34 c34, .bool d34, .slice B34 m34 e34] := hdk hd 22
          refine sc (A := #[(vs 21), (vs 22)]) (B := #[.agg #[.bool b33, .slice A33 n33 c33, .bool d33, .slice B33 m33 e33], .agg #[.bool b34, .slice A34 n34 c34, .bool d34, .slice B34 m34 e34]]) [(17, some 151), (20, some 154), (21, some 155), (22, some 156)] (fun vF wF => RatRep wF vF (vl + vh)) rfl (ws 151 qe17) (by rw [qe21, qe22]) Tryz.func19 ?_
          refine ((gadd_num ((S3.qi 8 rfl).num (by omega)) ((S3.qi 7 rfl).num (by omega)))).mono ?_; rintro e w4 ⟨U, rfl, hr, hk4⟩; exact ⟨_, rfl, hk4, hr⟩
         | 24, _ =>
          have qe17 : (vs 17) = .bool true := hdk hd 17; have h20 : RatRep w3 (vs 20) ((((2 : Int) : Rat)) * va) := hdk hd 20; have h23 : RatRep w3 (vs 23) (vl + vh) := hdk hd 23
          refine sc (A := #[(vs 20), (vs 23)]) (B := #[(vs 20), (vs 23)]) [(17, some 151), (20, some 154), (23, some 157)] (ve (.int .i64 s3)) rfl (ws 151 qe17) rfl Tryz.func18 ?_
          refine ((gcompare_s (h20.num (by omega)) (h23.num (by omega)) (by omega) HC3.out)).mono ?_; rintro e w4 ⟨rfl, hk4⟩; exact ⟨_, rfl, hk4, rfl⟩
         | 25, _ =>
          have qe17 : (vs 17) = .bool true := hdk hd 17; have qe24 : (vs 24) = .int .i64 s3 := hdk hd 24
          refine svg [(17, some 151), (24, some 158)] (ve (.bool true)) rfl (ws 151 qe17) fun K hK => ?_; clear hd; simp only [frD, qe17, qe24] at hK ⊢; go_simp
          exact hK _ _ bl rfl
         | 26, _ =>
          have qe17 : (vs 17) = .bool true := hdk hd 17; have qe25 : (vs 25) = .bool true := hdk hd 25
          refine sv0 [(17, some 151), (25, some 159)] (ve (.bool true)) rfl fun K hK => ?_; clear hd; simp only [frD, qe17, qe25] at hK ⊢; go_simp
          exact hK _ _ bl rfl
         | 27, _ =>
          have qe24 : (vs 24) = .int .i64 s3 := hdk hd 24; have qe26 : (vs 26) = .bool true := hdk hd 26
          refine sv0 [(24, some 158), (26, some 160)] (ve (.bool true)) rfl fun K hK => ?_; clear hd; simp only [frD, qe24, qe26] at hK ⊢; go_simp
          exact hK _ _ bl rfl
         | 28, _ =>
          have qe27 : (vs 27) = .bool true := hdk hd 27
          refine svg [(27, some 161)] (ve (.agg #[.bool b39, .slice A39 n39 c39, .bool d39, .slice B39 m39 e39])) rfl (ws 161 qe27) fun K hK => ?_; clear hd; simp only [frD, qe27] at hK ⊢; go_simp
          exact hK _ _ bl rfl
         | 29, _ =>
          have qe27 : (vs 27) = .bool true := hdk hd 27; have qe28 : (vs 28) = .agg #[.bool b39, .slice A39 n39 c39, .bool d39, .slice B39 m39 e39] := hdk hd 28
          refine sc (A := #[(vs 28)]) (B := #[.agg #[.bool b39, .slice A39 n39 c39, .bool d39, .slice B39 m39 e39]]) [(27, some 161), (28, some 162)] (ve (.int .i64 s4)) rfl (ws 161 qe27) (by rw [qe28]) Tryz.func20 ?_
          refine ((gsign_s ((S3.qi 2 rfl).num (by omega)) HC4.out)).mono ?_; rintro e w4 ⟨rfl, hk4⟩; exact ⟨_, rfl, hk4, rfl⟩
         | 30, _ =>
          have qe27 : (vs 27) = .bool true := hdk hd 27; have qe29 : (vs 29) = .int .i64 s4 := hdk hd 29
          refine svg [(27, some 161), (29, some 163)] (ve (.bool true)) rfl (ws 161 qe27) fun K hK => ?_; clear hd; simp only [frD, qe27, qe29] at hK ⊢; go_simp
          exact hK _ _ bl rfl
         | 31, _ =>
          have qe27 : (vs 27) = .bool true := hdk hd 27; have qe30 : (vs 30) = .bool true := hdk hd 30
          refine sv0 [(27, some 161), (30, some 164)] (ve (.bool true)) rfl fun K hK => ?_; clear hd; simp only [frD, qe27, qe30] at hK ⊢; go_simp
          exact hK _ _ bl rfl
         | 32, _ =>
          have qe29 : (vs 29) = .int .i64 s4 := hdk hd 29; have qe31 : (vs 31) = .bool true := hdk hd 31
          refine sv0 [(29, some 163), (31, some 165)] (ve (.bool true)) rfl fun K hK => ?_; clear hd; simp only [frD, qe29, qe31] at hK ⊢; go_simp
          exact hK _ _ bl rfl
         | 33, _ =>
          have qe32 : (vs 32) = .bool true := hdk hd 32
          refine svg [(32, some 166)] (ve (.agg #[.bool b39, .slice A39 n39 c39, .bool d39, .slice B39 m39 e39])) rfl (ws 166 qe32) fun K hK => ?_; clear hd; simp only [frD, qe32] at hK ⊢; go_simp
          exact hK _ _ bl rfl
         | 34, _ =>
          have qe32 : (vs 32) = .bool true := hdk hd 32
          refine svg [(32, some 166)] (ve (.agg #[.bool b41, .slice A41 n41 c41, .bool d41, .slice B41 m41 e41])) rfl (ws 166 qe32) fun K hK => ?_; clear hd; simp only [frD, qe32] at hK ⊢; go_simp
          exact hK _ _ bl rfl
         | 35, _ =>
          have qe32 : (vs 32) = .bool true := hdk hd 32; have qe33 : (vs 33) = .agg #[.bool b39, .slice A39 n39 c39, .bool d39, .slice B39 m39 e39] := hdk hd 33; have qe34 : (vs 34) = .agg #[.bool b41, .slice A41 n41 c41, .bool d41, .slice B41 m41 e41] := hdk hd 34
          refine sc (A := #[(vs 33), (vs 34)]) (B := #[.agg #[.bool b39, .slice A39 n39 c39, .bool d39, .slice B39 m39 e39], .agg #[.bool b41, .slice A41 n41 c41, .bool d41, .slice B41 m41 e41]]) [(32, some 166), (33, some 167), (34, some 168)] (ve (.int .i64 s5)) rfl (ws 166 qe32) (by rw [qe33, qe34]) Tryz.func18 ?_
          refine ((gcompare_s ((S3.qi 2 rfl).num (by omega)) ((S3.qi 0 rfl).num (by omega)) (by omega) HC5.out)).mono ?_; rintro e w4 ⟨rfl, hk4⟩; exact ⟨_, rfl, hk4, rfl⟩
         | 36, _ =>
          have qe32 : (vs 32) = .bool true := hdk hd 32; have qe35 : (vs 35) = .int .i64 s5 := hdk hd 35
          refine svg [(32, some 166), (35, some 169)] (ve (.bool true)) rfl (ws 166 qe32) fun K hK => ?_; clear hd; simp only [frD, qe32, qe35] at hK ⊢; go_simp
          exact hK _ _ bl rfl
         | 37, _ =>
          have qe32 : (vs 32) = .bool true := hdk hd 32; have qe36 : (vs 36) = .bool true := hdk hd 36
          refine sv0 [(32, some 166), (36, some 170)] (ve (.bool true)) rfl fun K hK => ?_; clear hd; simp only [frD, qe32, qe36] at hK ⊢; go_simp
          exact hK _ _ bl rfl
         | i + 38, hi => exact absurd hi (by omega)
        ·intro vs W46 hk3 hΦ _
         simp only [List.drop_succ_cons, List.drop_zero]
         rw [fr_frD, show (List.range 38).map _ = [(0, some 134), (1, some 135), (2, some 136), (3, some 137), (4, some 138), (5, some 139), (6, some 140), (7, some 141), (8, some 142), (9, some 143), (10, some 144), (11, some 145), (12, some 146), (13, some 147), (14, some 148), (15, some 149), (16, some 150), (17, some 151), (18, some 152), (19, some 153), (20, some 154), (21, some 155), (22, some 156), (23, some 157), (24, some 158), (25, some 159), (26, some 160), (27, some 161), (28, some 162), (29, some 163), (30, some 164), (31, some 165), (32, some 166), (33, some 167), (34, some 168), (35, some 169), (36, some 170), (37, some 171)] by kernel_rfl]
         have pf0 : (vs 0) = .agg #[.bool b37, .slice A37 n37 c37, .bool d37, .slice B37 m37 e37] := hΦ 0 (by decide)
         have pf1 : (vs 1) = .agg #[.bool b40, .slice A40 n40 c40, .bool d40, .slice B40 m40 e40] := hΦ 1 (by decide)
         have pf2 : (vs 2) = .agg #[.bool b34, .slice A34 n34 c34, .bool d34, .slice B34 m34 e34] := hΦ 2 (by decide)
         have pf3 : RatRep W46 (vs 3) ((((2 : Int) : Rat)) * vh) := hΦ 3 (by decide)
         have pf4 : (vs 4) = .bool true := hΦ 4 (by decide)
         have pf5 : (vs 5) = .bool true := hΦ 5 (by decide)
         have pf6 : (vs 6) = .agg #[.bool b34, .slice A34 n34 c34, .bool d34, .slice B34 m34 e34] := hΦ 6 (by decide)
         have pf7 : (vs 7) = .agg #[.bool b35, .slice A35 n35 c35, .bool d35, .slice B35 m35 e35] := hΦ 7 (by decide)
         have pf8 : (vs 8) = .int .i64 s1 := hΦ 8 (by decide)
         have pf9 : (vs 9) = .bool true := hΦ 9 (by decide)
         have pf10 : (vs 10) = .bool true := hΦ 10 (by decide)
         have pf11 : (vs 11) = .bool true := hΦ 11 (by decide)
         have pf12 : (vs 12) = .agg #[.bool b35, .slice A35 n35 c35, .bool d35, .slice B35 m35 e35] := hΦ 12 (by decide)
         have pf13 : (vs 13) = .agg #[.bool b33, .slice A33 n33 c33, .bool d33, .slice B33 m33 e33] := hΦ 13 (by decide)
         have pf14 : (vs 14) = .int .i64 s2 := hΦ 14 (by decide)
         have pf15 : (vs 15) = .bool true := hΦ 15 (by decide)
         have pf16 : (vs 16) = .bool true := hΦ 16 (by decide)
         have pf17 : (vs 17) = .bool true := hΦ 17 (by decide)
         have pf18 : (vs 18) = .agg #[.bool b40, .slice A40 n40 c40, .bool d40, .slice B40 m40 e40] := hΦ 18 (by decide)
         have pf19 : (vs 19) = .agg #[.bool b35, .slice A35 n35 c35, .bool d35, .slice B35 m35 e35] := hΦ 19 (by decide)
         have pf20 : RatRep W46 (vs 20) ((((2 : Int) : Rat)) * va) := hΦ 20 (by decide)
         have pf21 : (vs 21) = .agg #[.bool b33, .slice A33 n33 c33, .bool d33, .slice B33 m33 e33] := hΦ 21 (by decide)
         have pf22 : (vs 22) = .agg #[.bool b34, .slice A34 n34 c34, .bool d34, .slice B34 m34 e34] := hΦ 22 (by decide)
         have pf23 : RatRep W46 (vs 23) (vl + vh) := hΦ 23 (by decide)
         have pf24 : (vs 24) = .int .i64 s3 := hΦ 24 (by decide)
         have pf25 : (vs 25) = .bool true := hΦ 25 (by decide)
         have pf26 : (vs 26) = .bool true := hΦ 26 (by decide)
         have pf27 : (vs 27) = .bool true := hΦ 27 (by decide)
         have pf28 : (vs 28) = .agg #[.bool b39, .slice A39 n39 c39, .bool d39, .slice B39 m39 e39] := hΦ 28 (by decide)
         have pf29 : (vs 29) = .int .i64 s4 := hΦ 29 (by decide)
         have pf30 : (vs 30) = .bool true := hΦ 30 (by decide)
         have pf31 : (vs 31) = .bool true := hΦ 31 (by decide)
         have pf32 : (vs 32) = .bool true := hΦ 32 (by decide)
         have pf33 : (vs 33) = .agg #[.bool b39, .slice A39 n39 c39, .bool d39, .slice B39 m39 e39] := hΦ 33 (by decide)
         have pf34 : (vs 34) = .agg #[.bool b41, .slice A41 n41 c41, .bool d41, .slice B41 m41 e41] := hΦ 34 (by decide)
         have pf35 : (vs 35) = .int .i64 s5 := hΦ 35 (by decide)
         have pf36 : (vs 36) = .bool true := hΦ 36 (by decide)
         have pf37 : (vs 37) = .bool true := hΦ 37 (by decide)
         clear hΦ
         simp only [frD, pf0, pf1, pf2, pf4, pf5, pf6, pf7, pf8, pf9, pf10, pf11, pf12, pf13, pf14, pf15, pf16, pf17, pf18, pf19, pf21, pf22, pf24, pf25, pf26, pf27, pf28, pf29, pf30, pf31, pf32, pf33, pf34, pf35, pf36, pf37]
         simp only [Act.put, List.setIfInBounds_toArray, List.set_cons_zero, List.set_cons_succ]
         clear pf0 pf1 pf2 pf4 pf5 pf6 pf7 pf8 pf9 pf10 pf11 pf12 pf13 pf14 pf15 pf16 pf17 pf18 pf19 pf21 pf22 pf24 pf25 pf26 pf27 pf28 pf29 pf30 pf31 pf32 pf33 pf34 pf35 pf36 pf37
         generalize vs 3 = Upf3 at pf3 ⊢
         generalize vs 20 = Upf20 at pf20 ⊢
         generalize vs 23 = Upf23 at pf23 ⊢
         replace S := S.drew.below hk3
         clear pf3
         clear pf20
         clear pf23
         clear hk3
         go_wp2
         go_ret
         exact ⟨rfl, S.k⟩
  ·have d2 : (code != 0) = true := by simp [t2]
   go_wp2
   all_goals (go_ret; exact ⟨rfl, S.k⟩)
end Go.Proofs.YtecibfncnaccjaaGreat
namespace Go.Proofs.YtecibfncnaccjaaGreat
open Go.RowKit Go.WideShapes Go.ChangeShapes Go.Joins

theorem laidOutP : laidOutB Tryz.prog = true := by kernel_rfl
section
variable {H : Type} {enc : TypeId × Value → H} {P : Program}
theorem post_of_below {f : Func} {s : ChangeSpec} {apart fresh handsOn again : Bool} {W W' : World} {args : Array Value} {v : Value} {ds gs : List (DataW H)} {before pa pv : List MemPlace}
 (hW : DataW.Whole enc P f.params.toList s.vars apart W args.toList ds gs before)
 (hres : ∀ (b : Nat) (sp : Nat → Bool) (hd : Bool), DataW.TrodAll enc P W' b sp hd f.resultTypes.toList (v.resultList f.resultTypes.size) (s.fn H (ds ++ gs)).results [])
 (hargs : ∀ sp : Nat → Bool, (∀ p ∈ before, sp p.block = true) → DataW.TrodAll enc P W' 0 sp true f.params.toList args.toList (s.fn H (ds ++ gs)).args pa)
 (hvars : ∀ sp : Nat → Bool, (∀ p ∈ before, sp p.block = true) → DataW.TrodVars enc P W' sp s.vars (s.fn H (ds ++ gs)).vars pv)
 (hps : before = pa ++ pv) (hb : Below W.heap.size W W')
 (hok : ∀ (j : Nat) (t : TypeId) (r : Value), f.resultTypes[j]? = some t → (v.resultList f.resultTypes.size)[j]? = some r → Value.okWide P W' .any 0 t r) :
 s.post enc P f apart fresh handsOn again W args v W' := by
 have hlt : ∀ p ∈ before, p.block < W.heap.size := fun p hp => hW.lt p hp
 have hold : ∀ p ∈ before, (fun b => decide (b < W.heap.size)) p.block = true := fun p hp => by simpa using hlt p hp
 refine ⟨ds, gs, before, [], pa, pv, hW, hres _ _ _, hargs _ hold, hvars _ hold, World.keptBut_mono (fun p hp => ⟨hp, ?_⟩) (hb.frame (· ∈ before)), fun _ => ?_⟩
 ·rw [hps, List.mem_append] at hp
  exact Or.inr hp
 ·obtain ⟨_, _, _, _, _, hz, hn⟩ := hW
  refine ⟨hok, _, _, ([] ++ pa) ++ pv, ⟨[] ++ pa, pv, trodAll_append (hargs _ (fun _ _ => rfl)) (hres _ _ _), hvars _ (fun _ _ => rfl), rfl, ?_, ?_⟩, ?_⟩
  ·intro b off hp
   have hin : MemPlace.cell b off ∈ before := by rw [hps]; simpa using hp
   rw [hb.frozen (hlt _ hin)]
   exact hz b off hin
  ·intro ha
   have := hn ha
   rw [hps] at this
   simpa using this
  ·intro p hp _
   rw [hps]
   simpa using hp
theorem trodAll_stays (hl : laidOutB P = true) {W W' : World} {sp : Nat → Bool} (hb : Below W.heap.size W W') : ∀ (ts : List TypeId) (vs : List Value) (ds : List (DataW H)) (ps : List MemPlace),
 (∀ t ∈ ts, P.readableRec t = true ∧ t < P.types.size) → DataW.TrodAll enc P W 0 (fun _ => true) true ts vs ds ps → (∀ x ∈ ps, x.block < W.heap.size) → (∀ x ∈ ps, sp x.block = true) → DataW.TrodAll enc P W' 0 sp true ts vs ds ps
 | [], _, _, _, _, h, _, _ => by
  obtain ⟨rfl, rfl, rfl⟩ := trodAll_nil h
  exact trodAll_mk0
 | t :: ts, vs, ds, ps, ht, h, hlt, hsp => by
  obtain ⟨v, vs', d, ds', p, q, rfl, rfl, rfl, h1, h2⟩ := trodAll_cons h
  refine trodAll_cons_mk (WideElems.Trod_stays hl (ht t List.mem_cons_self).1 (ht t List.mem_cons_self).2 h1 (fun x hx => hb.same (hlt x (List.mem_append_left _ hx))) (fun x hx => hsp x (List.mem_append_left _ hx))) ?_
  exact trodAll_stays hl hb ts vs' ds' q (fun t' h' => ht t' (List.mem_cons_of_mem _ h')) h2 (fun x hx => hlt x (List.mem_append_right _ hx)) (fun x hx => hsp x (List.mem_append_right _ hx))
end

theorem i64_of_wf {z : Int} (h : (Lit.int .i64 z).wf = true) : -9223372036854775808 ≤ z ∧ z ≤ 9223372036854775807 := by
 simp [Lit.wf, IntKind.min, IntKind.max, IntKind.signed, IntKind.bits] at h
 exact h
theorem addp (b o j : Nat) : (⟨b, o, none⟩ : Addr).add j = ⟨b, o + j, none⟩ := by unfold Addr.add; split <;> simp_all
section
variable {H : Type} {enc : TypeId × Value → H} {W : World} {base : Nat} {sp : Nat → Bool} {held : Bool} {m : Nat}
set_option maxRecDepth 100000 in
theorem intsCells_of {v0 : Value} {y : DataW H × List MemPlace} (h : DataW.trod enc Tryz.prog W base sp held m 22 [v0] = some y) :
 ∃ A c px, v0 = .slice A (List.length px) c ∧ IRow W A px ∧ List.length px ≤ maxLen ∧ ∀ x ∈ px, -9223372036854775808 ≤ x ∧ x ≤ 9223372036854775807 := by
 rcases open_ints Tryz.underlying22 Tryz.underlying3 (by kernel_rfl) h with ⟨e, -⟩ | ⟨a, len, cap, zs, e, hb, hl, hm, hz, ey, hc, hw⟩
 ·obtain rfl : v0 = .slice none 0 0 := by simpa using e
  exact ⟨none, 0, [], rfl, Row.zero, by simp, by simp⟩
 ·obtain rfl : v0 = .slice (some a) len cap := by simpa using e
  have hlz : len ≤ zs.length := by rw [hz]; split <;> omega
  have hlen : (zs.take len).length = len := by simp; omega
  refine ⟨some a, cap, zs.take len, by rw [hlen], fun hp => ?_, by rw [hlen]; omega, fun x hx => i64_of_wf (hw x (List.mem_of_mem_take hx))⟩
  rw [hlen] at hp
  have c0 := hc 0 (by omega)
  have hs : a.spot = none := by
   have := World.cell?_spot c0
   simpa [Addr.add] using this
  obtain ⟨bk, off, spot⟩ := a
  obtain rfl : spot = none := hs
  refine ⟨bk, off, rfl, ?_, fun j hj => ?_⟩
  ·rcases Nat.lt_or_ge bk W.heap.size with h | h
   ·exact h
   ·simp [World.cell?, Addr.add, Array.getElem?_eq_none h] at c0
  ·rw [hlen] at hj
   have := hc j (by omega)
   rw [addp] at this
   rw [this]
   simp [iv, List.getD, hj]
theorem six_fields {P : Program} {t : TypeId} {f0 f1 f2 f3 f4 f5 : Field} {fuel : Nat} {cs : List Value} {x : DataW H × List MemPlace} (ht : P.underlying t = some (.struct #[f0, f1, f2, f3, f4, f5])) (h : DataW.trod enc P W base sp held fuel t cs = some x) :
 ∃ y0 y1 y2 y3 y4 y5 n, DataW.trod enc P W base sp held n f0.type ((cs.drop f0.offset).take (P.cellsOf f0.type)) = some y0 ∧ DataW.trod enc P W base sp held n f1.type ((cs.drop f1.offset).take (P.cellsOf f1.type)) = some y1 ∧
  DataW.trod enc P W base sp held n f2.type ((cs.drop f2.offset).take (P.cellsOf f2.type)) = some y2 ∧ DataW.trod enc P W base sp held n f3.type ((cs.drop f3.offset).take (P.cellsOf f3.type)) = some y3 ∧
  DataW.trod enc P W base sp held n f4.type ((cs.drop f4.offset).take (P.cellsOf f4.type)) = some y4 ∧ DataW.trod enc P W base sp held n f5.type ((cs.drop f5.offset).take (P.cellsOf f5.type)) = some y5 := by
 obtain ⟨xs, n, -, -, -, hlen, hf⟩ := DataW.trod_struct ht h
 match xs, hlen with
 | [y0, y1, y2, y3, y4, y5], _ => exact ⟨y0, y1, y2, y3, y4, y5, n, by simpa using hf 0 f0 rfl, by simpa using hf 1 f1 rfl, by simpa using hf 2 f2 rfl, by simpa using hf 3 f3 rfl, by simpa using hf 4 f4 rfl, by simpa using hf 5 f5 rfl⟩
set_option maxRecDepth 100000 in
theorem gridCells_of {c0 c1 c2 c3 c4 c5 : Value} {y : DataW H × List MemPlace} (h : DataW.trod enc Tryz.prog W base sp held m 24 [c0, c1, c2, c3, c4, c5] = some y) :
 ∃ (gx gy st Wd Ht : Int) (A : Option Addr) (c : Nat) (px : List Int), c0 = .int .i64 gx ∧ c1 = .int .i64 gy ∧ c2 = .int .i64 st ∧ c3 = .int .i64 Wd ∧ c4 = .int .i64 Ht ∧ c5 = .slice A px.length c ∧ IRow W A px ∧ px.length ≤ maxLen := by
 obtain ⟨y0, y1, y2, y3, y4, y5, n, h0, h1, h2, h3, h4, h5⟩ := six_fields Tryz.underlying24 h
 have ci : Tryz.prog.cellsOf 3 = 1 := by kernel_rfl
 have cs : Tryz.prog.cellsOf 22 = 1 := by kernel_rfl
 simp only [ci, cs, List.drop_zero, List.drop_succ_cons, List.take_succ_cons, List.take_zero] at h0 h1 h2 h3 h4 h5
 obtain ⟨a, ha, -, -⟩ := DataW.trod_int Tryz.underlying3 h0
 obtain ⟨b, hb, -, -⟩ := DataW.trod_int Tryz.underlying3 h1
 obtain ⟨c, hc, -, -⟩ := DataW.trod_int Tryz.underlying3 h2
 obtain ⟨d, hd, -, -⟩ := DataW.trod_int Tryz.underlying3 h3
 obtain ⟨e, he, -, -⟩ := DataW.trod_int Tryz.underlying3 h4
 obtain ⟨A, cc, px, e5, hr, hl, -⟩ := intsCells_of h5
 cases ha; cases hb; cases hc; cases hd; cases he
 exact ⟨a, b, c, d, e, A, cc, px, rfl, rfl, rfl, rfl, rfl, e5, hr, hl⟩
end
section
variable {H : Type} {enc : TypeId × Value → H} {W : World} {base b0 : Nat} {sp : Nat → Bool} {held : Bool} {r : Reach} {v : Value} {d : DataW H} {p : List MemPlace}
theorem list6 {α : Type} {cs : Array α} (h : cs.size = 6) : ∃ a b c d e f, cs = #[a, b, c, d, e, f] := by
 obtain ⟨l⟩ := cs
 match l, h with
 | [a, b, c, d, e, f], _ => exact ⟨a, b, c, d, e, f, rfl⟩
set_option maxRecDepth 100000 in
theorem gridArg_of (hv : Value.okWide Tryz.prog W r b0 24 v) (h : DataW.Trod enc Tryz.prog W base sp held 24 v d p) :
 ∃ (gx gy st Wd Ht : Int) (B : Option Addr) (dd : Nat) (px : List Int), v = grV gx gy st Wd Ht B px.length dd ∧ IRow W B px ∧ px.length ≤ maxLen := by
 obtain ⟨cs, rfl, hsz⟩ := okWide_struct Tryz.underlying24 hv
 obtain ⟨c0, c1, c2, c3, c4, c5, rfl⟩ := list6 (hsz.trans (by kernel_rfl))
 obtain ⟨fuel, hf⟩ := h
 obtain ⟨gx, gy, st, Wd, Ht, B, dd, px, rfl, rfl, rfl, rfl, rfl, rfl, h1, h2⟩ := gridCells_of (y := (d, p)) (by simpa [Value.cells] using hf)
 exact ⟨gx, gy, st, Wd, Ht, B, dd, px, rfl, h1, h2⟩
end
theorem ownP : ownKnob Tryz.prog.godebug = none := by kernel_rfl
noncomputable def plainWorld (os : Os) : World := World.holding Tryz.prog os ⟨#[], #[], []⟩
end Go.Proofs.YtecibfncnaccjaaGreat
