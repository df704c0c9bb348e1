/- The walk of fraction.Decimal. -/
import Derived.Test.YtmochehkkadjnaaGreatDoorMgSt2
import Derived.Test.YtmochehkkadjnaaGreatDoorMgFNear
import Derived.Test.YtmochehkkadjnaaGreatDoorFPlace
import Derived.Test.YtmochehkkadjnaaGreatDoorMgFScale
namespace Go.Proofs.YtmochehkkadjnaaGreatDoor
open Go.RowKit Go.Shelf

theorem lenI_ten (k : Nat) (h : k ≤ 100) : lenI (10 ^ k) ≤ 12 := by
  refine pow_lenI 10 k 12 (Nat.lt_of_le_of_lt (Nat.pow_le_pow_right (by decide) h) ?_)
  decide +kernel
def padL (p : Nat) (t : List UInt8) : List UInt8 := List.replicate (p + 1 - t.length) 48 ++ t
def decT (n : Int) (p : Nat) : List UInt8 := (if n < 0 then [45] else []) ++ ((padL p (textL n.natAbs)).take ((padL p (textL n.natAbs)).length - p) ++ (if 0 < p then 46 :: (padL p (textL n.natAbs)).drop ((padL p (textL n.natAbs)).length - p) else []))
theorem rep_s {w : World} {c : Nat} {z : Int} {R : List UInt8} (hz : z = c) (hc : c ≤ 1000000) (hR : List.replicate c (48 : UInt8) = R) : Calls Tryz.prog 110 #[.string ⟨#[48]⟩, .int .i64 z] w fun e w' => e = .returned (.string ⟨R.toArray⟩) ∧ Keeps w w' := by
  subst hz hR
  refine (Tryz.strings_Repeat ⟨#[48]⟩ c w (by omega) (by show 1 * c ≤ _; omega)).mono ?_
  rintro e w' ⟨rfl, hk⟩
  refine ⟨?_, hk⟩
  have : Lib.repeatL [(48 : UInt8)] c = List.replicate c 48 := by
    clear hc
    induction c with
    | zero => rfl
    | succ c ih => rw [Lib.repeatL, ih, List.replicate_succ]; rfl
  show Ending.returned (.string ⟨(Lib.repeatL [48] c).toArray⟩) = _
  rw [this]
set_option maxRecDepth 100000 in
set_option maxHeartbeats 2000000 in
theorem fdec_good {w : World} {V1 : Value} {x : Rat} {k : Nat} (h1 : RatNum w V1 x) (hk1 : k ≤ 100) (zx : szR x ≤ 20000) (ht : PowTab w) : Calls Tryz.prog 45 #[V1, .int .i64 (k : Int)] w (fun e w' => e = .returned (.tuple #[.string ⟨(decT (nearR (x * ((10 ^ k : Int) : Rat))) k).toArray⟩, .int .i64 0]) ∧ Keeps w w') := by
  obtain ⟨b3, A3, n3, c3, d3, B3, m3, e3, rfl⟩ := h1.open_
  have z0 := h1.sz
  have u1 := lenI_ten k hk1
  have u2 := szR_int (10 ^ k)
  have u3 := szR_mul x ((10 ^ k : Int) : Rat)
  have u4 := len_near (x * ((10 ^ k : Int) : Rat))
  have y0 := szR_mul x (((10 ^ k : Int) : Rat))
  have t1 : decide ((k : Int) < 0) = false := by exact decide_eq_false (by omega)
  have t2 : decide (100 < (k : Int)) = false := by exact decide_eq_false (by omega)
  have S := ((St.start w).addR h1)
  clear h1
  go_enter Tryz.func45, Tryz.ntmps45
  go_upto_region 3 with fail
  replace S := (S.alloc 28 [.bool b3, .slice A3 n3 c3, .bool d3, .slice B3 m3 e3])
  obtain ⟨W1, eW, S⟩ := S.pack
  rw [eW]
  clear eW
  refine wp_region_steps (m := 8) rfl (by kernel_rfl) (fun iΦ vΦ wΦ => (List.getD [fun vΦ _ => vΦ = .agg #[.bool b3, .slice A3 n3 c3, .bool d3, .slice B3 m3 e3], fun vΦ _ => vΦ = .int .i64 (k : Int), fun vΦ wΦ => IntRep wΦ vΦ (10 ^ k), fun vΦ wΦ => IntRep wΦ vΦ (1), fun vΦ wΦ => RatRep wΦ vΦ (((10 ^ k : Int) : Rat)), fun vΦ wΦ => RatRep wΦ vΦ (x * (((10 ^ k : Int) : Rat))), fun vΦ wΦ => IntRep wΦ vΦ (nearR (x * ((10 ^ k : Int) : Rat))), fun vΦ wΦ => ∃ b, vΦ = .pointer (some ⟨b, 0, none⟩) ∧ W1.heap.size ≤ b ∧ Own wΦ b 24 [.bool false, .slice none 0 0]] iΦ (fun _ _ => True)) vΦ wΦ) [7] ?_ ?_ ?_
  · intro i v w w' hi h hk
    rcases (show i = 0 ∨ i = 1 ∨ i = 2 ∨ i = 3 ∨ i = 4 ∨ i = 5 ∨ i = 6 ∨ i = 7 by omega) with rfl | rfl | rfl | rfl | rfl | rfl | rfl | rfl
    all_goals simp only [gz, gs] at h ⊢
    all_goals first | exact h | exact IntRep.below h hk | exact RatRep.below h hk | exact h.elim fun b ⟨h1, h2, h3⟩ => ⟨b, h1, h2, h3.below hk⟩
  · intro i hi vs w3 hk3 hd
    have S3 := S.drew.below hk3
    have a0 := S3.c 0 0 rfl rfl
    have a1 := S3.c 0 1 rfl rfl
    have a2 := S3.c 0 2 rfl rfl
    have a3 := S3.c 0 3 rfl rfl
    match i, hi with
    | 0, _ =>
      refine step_yes [] rfl (by kernel_rfl) fun K hK => ?_; simp only [frD] at hK ⊢; refine ⟨by rfl, ?_⟩; go_simp
      exact hK _ _ ⟨Below.refl _ _, rfl, by simp⟩
    | 1, _ =>
      refine step_yes [] rfl (by kernel_rfl) fun K hK => ?_; simp only [frD] at hK ⊢; refine ⟨by rfl, ?_⟩; go_simp
      exact hK _ _ ⟨Below.refl _ _, rfl, by simp⟩
    | 2, _ =>
      have e1 := hd 1 (cm (by kernel_rfl)); simp only [gz, gs] at e1
      refine step_yes [(1, some 16)] rfl (by kernel_rfl) fun K hK => ?_; simp only [frD, e1] at hK ⊢; refine ⟨by rfl, ?_⟩; go_simp
      refine ((gives_eq (ftens_num (k : Int) (ht.keep S3.k) (by omega) (by omega)) (by rw [Int.toNat_natCast]))).mono ?_; rintro e w4 ⟨U, rfl, hr, hk4⟩; exact hK _ _ ⟨hk4, hr, by simp⟩
    | 3, _ =>
      have h2 := hd 2 (cm (by kernel_rfl)); simp only [gz, gs] at h2
      refine step_yes [(2, some 17)] rfl (by kernel_rfl) fun K hK => ?_; simp only [frD] at hK ⊢; refine ⟨by rfl, ?_⟩; go_simp
      refine ((of_num 1 (by omega) (by omega))).mono ?_; rintro e w4 ⟨U, rfl, hr, hk4⟩; exact hK _ _ ⟨hk4, hr, by simp⟩
    | 4, _ =>
      have h2 := hd 2 (cm (by kernel_rfl)); simp only [gz, gs] at h2; have h3 := hd 3 (cm (by kernel_rfl)); simp only [gz, gs] at h3; obtain ⟨b9a, A9a, n9a, c9a, q9a⟩ := h2.open3; obtain ⟨b9b, A9b, n9b, c9b, q9b⟩ := h3.open3
      refine step_yes [(2, some 17), (3, some 18)] rfl (by kernel_rfl) fun K hK => ?_; simp only [frD, q9a, q9b] at hK ⊢; refine ⟨by rfl, ?_⟩; go_simp
      rw [q9a] at h2
      rw [q9b] at h3
      exact hK _ _ ⟨Below.refl _ _, RatRep.whole h2 h3, by simp⟩
    | 5, _ =>
      have e0 := hd 0 (cm (by kernel_rfl)); simp only [gz] at e0; have h3 := hd 3 (cm (by kernel_rfl)); simp only [gz, gs] at h3; have h4 := hd 4 (cm (by kernel_rfl)); simp only [gz, gs] at h4
      refine step_yes [(0, some 15), (3, some 18), (4, some 19)] rfl (by kernel_rfl) fun K hK => ?_; simp only [frD, e0] at hK ⊢; refine ⟨by rfl, ?_⟩; go_simp
      refine ((fmul_num (S3.ri 0 rfl) (h4.num (by omega)))).mono ?_; rintro e w4 ⟨U, rfl, hr, hk4⟩; exact hK _ _ ⟨hk4, hr, by simp⟩
    | 6, _ =>
      have h5 := hd 5 (cm (by kernel_rfl)); simp only [gz, gs] at h5
      refine step_yes [(5, some 20)] rfl (by kernel_rfl) fun K hK => ?_; simp only [frD] at hK ⊢; refine ⟨by rfl, ?_⟩; go_simp
      refine ((fnearest_num (h5.num (by omega)) (by omega))).mono ?_; rintro e w4 ⟨U, rfl, hr, hk4⟩; exact hK _ _ ⟨hk4, hr, by simp⟩
    | 7, _ =>
      refine step_yes [] rfl (by kernel_rfl) fun K hK => ?_; simp only [frD] at hK ⊢; refine ⟨by rfl, ?_⟩; go_simp
      exact hK _ _ ⟨(Below.refl _ _).alloc (Nat.le_refl _) _, ⟨_, rfl, hk3.size, Own.new w3 _ _⟩, fun _ => ⟨rfl, by simp⟩⟩
    | i + 8, hi => exact absurd hi (by omega)
  · intro vs W2 hk3 hΦ _
    simp only [List.drop_succ_cons, List.drop_zero]
    rw [fr_frD, show (List.range 8).map _ = [(0, some 15), (1, some 16), (2, some 17), (3, some 18), (4, some 19), (5, some 20), (6, some 21), (7, some 6)] by kernel_rfl]
    have pa0 := hΦ 0 (by omega); simp only [gz] at pa0
    have pa1 := hΦ 1 (by omega); simp only [gz, gs] at pa1
    have pa2 := hΦ 2 (by omega); simp only [gz, gs] at pa2
    have pa3 := hΦ 3 (by omega); simp only [gz, gs] at pa3
    have pa4 := hΦ 4 (by omega); simp only [gz, gs] at pa4
    have pa5 := hΦ 5 (by omega); simp only [gz, gs] at pa5
    have pa6 := hΦ 6 (by omega); simp only [gz, gs] at pa6
    have pa7 := hΦ 7 (by omega); simp only [gz, gs] at pa7
    clear hΦ
    obtain ⟨bpa7, qA7, hlA7, hOA7⟩ := pa7
    simp only [frD, pa0, pa1, qA7]
    simp only [Act.put, List.setIfInBounds_toArray, List.set_cons_zero, List.set_cons_succ]
    clear pa0 pa1
    generalize vs 2 = Upa2 at pa2 ⊢
    generalize vs 3 = Upa3 at pa3 ⊢
    generalize vs 4 = Upa4 at pa4 ⊢
    generalize vs 5 = Upa5 at pa5 ⊢
    generalize vs 6 = Upa6 at pa6 ⊢
    replace S := S.drew.box (S.drew.below hk3) hOA7 hlA7
    clear qA7 hlA7 hOA7
    clear pa2
    clear pa3
    clear pa4
    clear pa5
    obtain ⟨b4, A4, n4, c4, rfl⟩ := pa6.open3
    replace S := S.addI pa6
    clear pa6
    clear hk3
    have r1_0 := S.c 0 0 rfl rfl
    have f1_0 := S.f 0 0 rfl
    have r1_1 := S.c 0 1 rfl rfl
    have f1_1 := S.f 0 1 rfl
    go_upto_region 4 with fail
    replace S := (S.put2 0 rfl rfl rfl (x' := .bool b4) (y' := .slice A4 n4 c4))
    obtain ⟨W3, eW, S⟩ := S.pack
    rw [eW]
    clear eW
    clear r1_0 f1_0 r1_1 f1_1
    obtain ⟨nz, hnz⟩ : ∃ z, nearR (x * ((10 ^ k : Int) : Rat)) = z := ⟨_, rfl⟩
    rw [hnz] at S u4
    have HZ := Lib.hid hnz
    clear hnz
    obtain ⟨T, hT⟩ : ∃ T, textL nz.natAbs = T := ⟨_, rfl⟩
    have v1 := textL_le (nz.natAbs : Int)
    have v2 : lenI (nz.natAbs : Int) = lenI nz := by unfold lenI; rw [Int.natAbs_natCast]
    rw [hT] at v1
    have v4 : lenI nz ≤ 100000 := by omega
    have v5 : lenI (nz.natAbs : Int) ≤ 100000 := by omega
    have v3 : (T.length : Int) ≤ 200000 := by omega
    have HT := Lib.hid hT
    clear hT v1 v2 u1 u2 u3 u4 z0 zx
    obtain ⟨s, hs⟩ : ∃ s, nz.sign = s := ⟨_, rfl⟩
    have B0 := Bd.new W3
    go_upto_region 5 with fail
    generalize W3.alloc (.cells #[.pointer none, .slice none 0 0] 82) = V at *
    have r0_0 := (S.below B0.k).c 0 0 rfl rfl
    have r0_1 := (S.below B0.k).c 0 1 rfl rfl
    go_wp2_with fail
    by_cases hneg : nz < 0
    · have t3 : decide (s < 0) = true := decide_eq_true (by rw [← hs]; exact (isgn_neg nz).2 hneg)
      have HN := Lib.hid (if_pos hneg : (if nz < 0 then ([45] : List UInt8) else []) = [45])
      have HS := Lib.hid hs
      clear hs
      refine (sign_s (((S.below B0.k).ii 0 rfl).num (by omega)) HS.out).mono ?_
      rintro e V1 ⟨rfl, hk⟩
      replace B0 := B0.below hk
      clear hk r0_0 r0_1
      go_wp2_with fail
      refine (bd_byte 45 B0 (by simp)).mono ?_
      rintro e V2 ⟨rfl, B1⟩
      replace B0 := B1
      clear B1
      have r0_0 := (S.below B0.k).c 0 0 rfl rfl
      have r0_1 := (S.below B0.k).c 0 1 rfl rfl
      go_wp2_with fail
      refine (abs_num (((S.below B0.k).ii 0 rfl).num (by omega))).mono ?_
      rintro e V3 ⟨U3, rfl, hp, hk⟩
      replace B0 := B0.below hk
      clear hk r0_0 r0_1
      go_wp2_with fail
      refine (text_l (hp.num (by omega)) (ht.keep (S.k.trans' B0.k)) HT.out).mono ?_
      rintro e V4 ⟨rfl, hk⟩
      replace B0 := B0.below hk
      clear hk hp
      by_cases hp : T.length ≤ k
      · have t4 : decide ((T.length : Int) ≤ (k : Int)) = true := decide_eq_true (by omega)
        go_wp2_with fail
        obtain ⟨R, hR⟩ : ∃ R, List.replicate (k + 1 - T.length) (48 : UInt8) = R := ⟨_, rfl⟩
        refine (rep_s (c := k + 1 - T.length) (by omega) (by omega) hR).mono ?_
        rintro e V5 ⟨rfl, hk⟩
        replace B0 := B0.below hk
        obtain ⟨P, hP⟩ : ∃ P, padL k T = P := ⟨_, rfl⟩
        have hc : ByteArray.mk R.toArray ++ ByteArray.mk T.toArray = ByteArray.mk P.toArray := by rw [cat_str, ← hP, ← hR]; rfl
        have v9 : (R.length : Int) ≤ 1000 := by rw [← hR, List.length_replicate]; omega
        have v6 : P.length = k + 1 := by rw [← hP]; simp [padL]; omega
        have v7 : (P.length : Int) ≤ 200000 := by omega
        have v8 : k < P.length := by omega
        have HP := Lib.hid hP
        clear hP v6 hk hR
        have E1 : (ByteArray.mk P.toArray).extract 0 (P.length - k) = ByteArray.mk (P.take (P.length - k)).toArray := by
          rw [Lib.extract_eq]; simp
        have E2 : (ByteArray.mk P.toArray).extract (P.length - k) P.length = ByteArray.mk (P.drop (P.length - k)).toArray := by
          rw [Lib.extract_eq]
          have : (P.drop (P.length - k)).take (P.length - (P.length - k)) = P.drop (P.length - k) := List.take_of_length_le (by rw [List.length_drop]; omega)
          simp only [this]
        go_wp2_with fail
        refine (bd_string (P.take (P.length - k)) B0 (by simp) (by rw [List.length_take]; omega)).mono ?_
        rintro e V6 ⟨rfl, B1⟩
        replace B0 := B1
        clear B1
        by_cases hk0 : 0 < k
        · have t5 : decide ((0 : Int) < (k : Int)) = true := decide_eq_true (by omega)
          go_wp2_with fail
          refine (bd_byte 46 B0 (by simp; omega)).mono ?_
          rintro e V7 ⟨rfl, B1⟩
          replace B0 := B1
          clear B1
          go_wp2_with fail
          refine (bd_string (P.drop (P.length - k)) B0 (by simp; omega) (by rw [List.length_drop]; omega)).mono ?_
          rintro e V8 ⟨rfl, B1⟩
          replace B0 := B1
          clear B1
          go_wp2_with fail
          refine (bd_out B0).mono ?_
          rintro e V9 ⟨rfl, hk⟩
          go_wp2
          go_ret2
          refine ⟨?_, S.k.trans' hk⟩
          have e1 : decT nz k = [45] ++ (P.take (P.length - k) ++ (if 0 < k then 46 :: P.drop (P.length - k) else [])) := by unfold decT; rw [HT.out, HP.out, HN.out]
          rw [HZ.out, e1, if_pos hk0]
          simp
        · have t5 : decide ((0 : Int) < (k : Int)) = false := decide_eq_false (by omega)
          go_wp2_with fail
          refine (bd_out B0).mono ?_
          rintro e V9 ⟨rfl, hk⟩
          go_wp2
          go_ret2
          refine ⟨?_, S.k.trans' hk⟩
          have e1 : decT nz k = [45] ++ (P.take (P.length - k) ++ (if 0 < k then 46 :: P.drop (P.length - k) else [])) := by unfold decT; rw [HT.out, HP.out, HN.out]
          rw [HZ.out, e1, if_neg hk0]
          simp
      · have t4 : decide ((T.length : Int) ≤ (k : Int)) = false := decide_eq_false (by omega)
        obtain ⟨P, hP⟩ : ∃ P, P = T := ⟨_, rfl⟩
        have HP := Lib.hid (show padL k T = P by rw [hP]; unfold padL; rw [show k + 1 - T.length = 0 by omega]; rfl)
        subst hP
        have v7 : (P.length : Int) ≤ 200000 := by omega
        have v8 : k < P.length := by omega
        have E1 : (ByteArray.mk P.toArray).extract 0 (P.length - k) = ByteArray.mk (P.take (P.length - k)).toArray := by
          rw [Lib.extract_eq]; simp
        have E2 : (ByteArray.mk P.toArray).extract (P.length - k) P.length = ByteArray.mk (P.drop (P.length - k)).toArray := by
          rw [Lib.extract_eq]
          have : (P.drop (P.length - k)).take (P.length - (P.length - k)) = P.drop (P.length - k) := List.take_of_length_le (by rw [List.length_drop]; omega)
          simp only [this]
        go_wp2_with fail
        refine (bd_string (P.take (P.length - k)) B0 (by simp) (by rw [List.length_take]; omega)).mono ?_
        rintro e V6 ⟨rfl, B1⟩
        replace B0 := B1
        clear B1
        by_cases hk0 : 0 < k
        · have t5 : decide ((0 : Int) < (k : Int)) = true := decide_eq_true (by omega)
          go_wp2_with fail
          refine (bd_byte 46 B0 (by simp; omega)).mono ?_
          rintro e V7 ⟨rfl, B1⟩
          replace B0 := B1
          clear B1
          go_wp2_with fail
          refine (bd_string (P.drop (P.length - k)) B0 (by simp; omega) (by rw [List.length_drop]; omega)).mono ?_
          rintro e V8 ⟨rfl, B1⟩
          replace B0 := B1
          clear B1
          go_wp2_with fail
          refine (bd_out B0).mono ?_
          rintro e V9 ⟨rfl, hk⟩
          go_wp2
          go_ret2
          refine ⟨?_, S.k.trans' hk⟩
          have e1 : decT nz k = [45] ++ (P.take (P.length - k) ++ (if 0 < k then 46 :: P.drop (P.length - k) else [])) := by unfold decT; rw [HT.out, HP.out, HN.out]
          rw [HZ.out, e1, if_pos hk0]
          simp
        · have t5 : decide ((0 : Int) < (k : Int)) = false := decide_eq_false (by omega)
          go_wp2_with fail
          refine (bd_out B0).mono ?_
          rintro e V9 ⟨rfl, hk⟩
          go_wp2
          go_ret2
          refine ⟨?_, S.k.trans' hk⟩
          have e1 : decT nz k = [45] ++ (P.take (P.length - k) ++ (if 0 < k then 46 :: P.drop (P.length - k) else [])) := by unfold decT; rw [HT.out, HP.out, HN.out]
          rw [HZ.out, e1, if_neg hk0]
          simp
    · have t3 : decide (s < 0) = false := decide_eq_false (by rw [← hs]; exact fun h => hneg ((isgn_neg nz).1 h))
      have HN := Lib.hid (if_neg hneg : (if nz < 0 then ([45] : List UInt8) else []) = [])
      have HS := Lib.hid hs
      clear hs
      refine (sign_s (((S.below B0.k).ii 0 rfl).num (by omega)) HS.out).mono ?_
      rintro e V1 ⟨rfl, hk⟩
      replace B0 := B0.below hk
      clear hk r0_0 r0_1
      have r0_0 := (S.below B0.k).c 0 0 rfl rfl
      have r0_1 := (S.below B0.k).c 0 1 rfl rfl
      go_wp2_with fail
      refine (abs_num (((S.below B0.k).ii 0 rfl).num (by omega))).mono ?_
      rintro e V3 ⟨U3, rfl, hp, hk⟩
      replace B0 := B0.below hk
      clear hk r0_0 r0_1
      go_wp2_with fail
      refine (text_l (hp.num (by omega)) (ht.keep (S.k.trans' B0.k)) HT.out).mono ?_
      rintro e V4 ⟨rfl, hk⟩
      replace B0 := B0.below hk
      clear hk hp
      by_cases hp : T.length ≤ k
      · have t4 : decide ((T.length : Int) ≤ (k : Int)) = true := decide_eq_true (by omega)
        go_wp2_with fail
        obtain ⟨R, hR⟩ : ∃ R, List.replicate (k + 1 - T.length) (48 : UInt8) = R := ⟨_, rfl⟩
        refine (rep_s (c := k + 1 - T.length) (by omega) (by omega) hR).mono ?_
        rintro e V5 ⟨rfl, hk⟩
        replace B0 := B0.below hk
        obtain ⟨P, hP⟩ : ∃ P, padL k T = P := ⟨_, rfl⟩
        have hc : ByteArray.mk R.toArray ++ ByteArray.mk T.toArray = ByteArray.mk P.toArray := by rw [cat_str, ← hP, ← hR]; rfl
        have v9 : (R.length : Int) ≤ 1000 := by rw [← hR, List.length_replicate]; omega
        have v6 : P.length = k + 1 := by rw [← hP]; simp [padL]; omega
        have v7 : (P.length : Int) ≤ 200000 := by omega
        have v8 : k < P.length := by omega
        have HP := Lib.hid hP
        clear hP v6 hk hR
        have E1 : (ByteArray.mk P.toArray).extract 0 (P.length - k) = ByteArray.mk (P.take (P.length - k)).toArray := by
          rw [Lib.extract_eq]; simp
        have E2 : (ByteArray.mk P.toArray).extract (P.length - k) P.length = ByteArray.mk (P.drop (P.length - k)).toArray := by
          rw [Lib.extract_eq]
          have : (P.drop (P.length - k)).take (P.length - (P.length - k)) = P.drop (P.length - k) := List.take_of_length_le (by rw [List.length_drop]; omega)
          simp only [this]
        go_wp2_with fail
        refine (bd_string (P.take (P.length - k)) B0 (by simp) (by rw [List.length_take]; omega)).mono ?_
        rintro e V6 ⟨rfl, B1⟩
        replace B0 := B1
        clear B1
        by_cases hk0 : 0 < k
        · have t5 : decide ((0 : Int) < (k : Int)) = true := decide_eq_true (by omega)
          go_wp2_with fail
          refine (bd_byte 46 B0 (by simp; omega)).mono ?_
          rintro e V7 ⟨rfl, B1⟩
          replace B0 := B1
          clear B1
          go_wp2_with fail
          refine (bd_string (P.drop (P.length - k)) B0 (by simp; omega) (by rw [List.length_drop]; omega)).mono ?_
          rintro e V8 ⟨rfl, B1⟩
          replace B0 := B1
          clear B1
          go_wp2_with fail
          refine (bd_out B0).mono ?_
          rintro e V9 ⟨rfl, hk⟩
          go_wp2
          go_ret2
          refine ⟨?_, S.k.trans' hk⟩
          have e1 : decT nz k = ([] : List UInt8) ++ (P.take (P.length - k) ++ (if 0 < k then 46 :: P.drop (P.length - k) else [])) := by unfold decT; rw [HT.out, HP.out, HN.out]
          rw [HZ.out, e1, if_pos hk0]
          simp
        · have t5 : decide ((0 : Int) < (k : Int)) = false := decide_eq_false (by omega)
          go_wp2_with fail
          refine (bd_out B0).mono ?_
          rintro e V9 ⟨rfl, hk⟩
          go_wp2
          go_ret2
          refine ⟨?_, S.k.trans' hk⟩
          have e1 : decT nz k = ([] : List UInt8) ++ (P.take (P.length - k) ++ (if 0 < k then 46 :: P.drop (P.length - k) else [])) := by unfold decT; rw [HT.out, HP.out, HN.out]
          rw [HZ.out, e1, if_neg hk0]
          simp
      · have t4 : decide ((T.length : Int) ≤ (k : Int)) = false := decide_eq_false (by omega)
        obtain ⟨P, hP⟩ : ∃ P, P = T := ⟨_, rfl⟩
        have HP := Lib.hid (show padL k T = P by rw [hP]; unfold padL; rw [show k + 1 - T.length = 0 by omega]; rfl)
        subst hP
        have v7 : (P.length : Int) ≤ 200000 := by omega
        have v8 : k < P.length := by omega
        have E1 : (ByteArray.mk P.toArray).extract 0 (P.length - k) = ByteArray.mk (P.take (P.length - k)).toArray := by
          rw [Lib.extract_eq]; simp
        have E2 : (ByteArray.mk P.toArray).extract (P.length - k) P.length = ByteArray.mk (P.drop (P.length - k)).toArray := by
          rw [Lib.extract_eq]
          have : (P.drop (P.length - k)).take (P.length - (P.length - k)) = P.drop (P.length - k) := List.take_of_length_le (by rw [List.length_drop]; omega)
          simp only [this]
        go_wp2_with fail
        refine (bd_string (P.take (P.length - k)) B0 (by simp) (by rw [List.length_take]; omega)).mono ?_
        rintro e V6 ⟨rfl, B1⟩
        replace B0 := B1
        clear B1
        by_cases hk0 : 0 < k
        · have t5 : decide ((0 : Int) < (k : Int)) = true := decide_eq_true (by omega)
          go_wp2_with fail
          refine (bd_byte 46 B0 (by simp; omega)).mono ?_
          rintro e V7 ⟨rfl, B1⟩
          replace B0 := B1
          clear B1
          go_wp2_with fail
          refine (bd_string (P.drop (P.length - k)) B0 (by simp; omega) (by rw [List.length_drop]; omega)).mono ?_
          rintro e V8 ⟨rfl, B1⟩
          replace B0 := B1
          clear B1
          go_wp2_with fail
          refine (bd_out B0).mono ?_
          rintro e V9 ⟨rfl, hk⟩
          go_wp2
          go_ret2
          refine ⟨?_, S.k.trans' hk⟩
          have e1 : decT nz k = ([] : List UInt8) ++ (P.take (P.length - k) ++ (if 0 < k then 46 :: P.drop (P.length - k) else [])) := by unfold decT; rw [HT.out, HP.out, HN.out]
          rw [HZ.out, e1, if_pos hk0]
          simp
        · have t5 : decide ((0 : Int) < (k : Int)) = false := decide_eq_false (by omega)
          go_wp2_with fail
          refine (bd_out B0).mono ?_
          rintro e V9 ⟨rfl, hk⟩
          go_wp2
          go_ret2
          refine ⟨?_, S.k.trans' hk⟩
          have e1 : decT nz k = ([] : List UInt8) ++ (P.take (P.length - k) ++ (if 0 < k then 46 :: P.drop (P.length - k) else [])) := by unfold decT; rw [HT.out, HP.out, HN.out]
          rw [HZ.out, e1, if_neg hk0]
          simp
end Go.Proofs.YtmochehkkadjnaaGreatDoor
