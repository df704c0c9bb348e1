/- The walk of the law FractionRounds. -/
import Derived.Test.YtmochehkkadjnaaGreatDoorGRound
namespace Go.Proofs.YtmochehkkadjnaaGreatDoor
open Go.RowKit Go.Shelf

theorem rnd_sizes {x : Rat} {k P : Int} (h0 : 0 ≤ k) (h1 : k ≤ 512) (hP : (2 : Int) ^ k.toNat = P) (zx : szR x ≤ 8) :
    szR (Rat.divInt (x * (P : Rat)).floor P) ≤ 40 ∧ szR (Rat.divInt (x * (P : Rat)).ceil P) ≤ 40 ∧ szR (Rat.divInt (nearR (x * (P : Rat))) P) ≤ 40 := by
  have hP0 := two_ne _ P hP
  have h2 := lenI_pow2 h0 h1 hP
  obtain ⟨h3, -⟩ := szR_pow2 x h0 h1 hP
  have a1 := len_floor (x * (P : Rat))
  have a2 := len_ceil (x * (P : Rat))
  have a3 := len_near (x * (P : Rat))
  have b1 := szR_divInt (x * (P : Rat)).floor P hP0
  have b2 := szR_divInt (x * (P : Rat)).ceil P hP0
  have b3 := szR_divInt (nearR (x * (P : Rat))) P hP0
  omega
set_option maxRecDepth 100000 in
set_option maxHeartbeats 1000000 in
theorem rnd_1 {w : World} {V1 : Value} {x : Rat} (h1 : RatS w V1 x false) {k : Int} (ht : PowTab w) : Calls Tryz.prog 9 #[V1, .int .i64 k] w (fun e w' => e = .returned (.bool true) ∧ Keeps w w') := by
  obtain ⟨b3, A3, n3, c3, d3, B3, m3, e3, rfl⟩ := h1.open_
  have S := ((St.start w).addL h1)
  clear h1
  go_enter Tryz.func9, Tryz.ntmps9
  go_wp2_with fail
  replace S := (S.alloc 28 [.bool b3, .slice A3 n3 c3, .bool d3, .slice B3 m3 e3])
  obtain ⟨W1, eW, S⟩ := S.pack
  rw [eW]
  clear eW
  refine ((known_any _ (ht.keep S.k))).mono ?_
  rintro e W2 ⟨rfl, hk⟩
  replace S := S.below hk
  clear hk
  have r0_0 := S.c 0 0 rfl rfl
  have r0_1 := S.c 0 1 rfl rfl
  have r0_2 := S.c 0 2 rfl rfl
  have r0_3 := S.c 0 3 rfl rfl
  go_wp2_with fail
  refine ((lshort_b (S.li 0 rfl))).mono ?_
  rintro e W3 ⟨rfl, hk⟩
  replace S := S.below hk
  clear hk
  clear r0_0 r0_1 r0_2 r0_3
  go_wp2
  go_ret
  exact ⟨rfl, S.k⟩
set_option maxRecDepth 100000 in
set_option maxHeartbeats 4000000 in
theorem rnd_bad {w : World} {V1 : Value} {x : Rat} {k : Int} (h1 : RatS w V1 x true) (ht : PowTab w) (hk0 : k < 0 ∨ 512 < k) : Calls Tryz.prog 9 #[V1, .int .i64 k] w (fun e w' => e = .returned (.bool true) ∧ Keeps w w') := by
  obtain ⟨b3, A3, n3, c3, d3, B3, m3, e3, rfl⟩ := h1.open_
  have z0 := h1.sz
  have HC := Lib.hid (show placC k = 2 from if_pos hk0)
  have HK := Lib.hid hk0
  clear hk0
  have S := ((St.start w).addL h1)
  clear h1
  go_enter Tryz.func9, Tryz.ntmps9
  go_wp2_with fail
  replace S := (S.alloc 28 [.bool b3, .slice A3 n3 c3, .bool d3, .slice B3 m3 e3])
  obtain ⟨W1, eW, S⟩ := S.pack
  rw [eW]
  clear eW
  refine ((known_any _ (ht.keep S.k))).mono ?_
  rintro e W2 ⟨rfl, hk⟩
  replace S := S.below hk
  clear hk
  have r0_0 := S.c 0 0 rfl rfl
  have r0_1 := S.c 0 1 rfl rfl
  have r0_2 := S.c 0 2 rfl rfl
  have r0_3 := S.c 0 3 rfl rfl
  go_wp2_with fail
  refine ((lshort_b (S.li 0 rfl))).mono ?_
  rintro e W3 ⟨rfl, hk⟩
  replace S := S.below hk
  clear hk
  clear r0_0 r0_1 r0_2 r0_3
  have r0_0 := S.c 0 0 rfl rfl
  have r0_1 := S.c 0 1 rfl rfl
  have r0_2 := S.c 0 2 rfl rfl
  have r0_3 := S.c 0 3 rfl rfl
  go_wp2_with fail
  refine ((rcode_eq (fdown_num (k := k) ((S.li 0 rfl).num) (by omega) (ht.keep S.k)) HC.out rfl)).mono ?_
  rintro e W4 ⟨U4, rfl, hp, hk⟩
  rw [if_neg (by decide)] at hp
  unfold zeroRat at hp
  subst hp
  replace S := S.below hk
  clear hk
  clear r0_0 r0_1 r0_2 r0_3
  go_upto_region 6 with fail
  replace S := (S.alloc 28 [.bool false, .slice none 0 0, .bool false, .slice none 0 0])
  obtain ⟨W5, eW, S⟩ := S.pack
  rw [eW]
  clear eW
  generalize W4.heap.size = P1 at *
  have r0_0 := S.c 1 0 rfl rfl
  have r0_1 := S.c 1 1 rfl rfl
  have r0_2 := S.c 1 2 rfl rfl
  have r0_3 := S.c 1 3 rfl rfl
  go_wp2_with fail
  refine ((gdown_bad ((S.li 0 rfl).num) HK.out)).mono ?_
  rintro e W6 ⟨U6, rfl, hp, hk⟩
  rw [if_neg (by decide)] at hp
  unfold zeroRat at hp
  subst hp
  replace S := S.below hk
  clear hk
  clear r0_0 r0_1 r0_2 r0_3
  go_upto_region 7 with fail
  replace S := (S.alloc 28 [.bool false, .slice none 0 0, .bool false, .slice none 0 0])
  obtain ⟨W7, eW, S⟩ := S.pack
  rw [eW]
  clear eW
  generalize W6.heap.size = P2 at *
  have r0_0 := S.c 2 0 rfl rfl
  have r0_1 := S.c 2 1 rfl rfl
  have r0_2 := S.c 2 2 rfl rfl
  have r0_3 := S.c 2 3 rfl rfl
  go_wp2_with fail
  refine ((rcode_eq (fup_num (k := k) ((S.li 0 rfl).num) (by omega) (ht.keep S.k)) HC.out rfl)).mono ?_
  rintro e W8 ⟨U8, rfl, hp, hk⟩
  rw [if_neg (by decide)] at hp
  unfold zeroRat at hp
  subst hp
  replace S := S.below hk
  clear hk
  clear r0_0 r0_1 r0_2 r0_3
  go_upto_region 8 with fail
  replace S := (S.alloc 28 [.bool false, .slice none 0 0, .bool false, .slice none 0 0])
  obtain ⟨W9, eW, S⟩ := S.pack
  rw [eW]
  clear eW
  generalize W8.heap.size = P3 at *
  have r0_0 := S.c 3 0 rfl rfl
  have r0_1 := S.c 3 1 rfl rfl
  have r0_2 := S.c 3 2 rfl rfl
  have r0_3 := S.c 3 3 rfl rfl
  go_wp2_with fail
  refine ((gup_bad ((S.li 0 rfl).num) HK.out)).mono ?_
  rintro e W10 ⟨U10, rfl, hp, hk⟩
  rw [if_neg (by decide)] at hp
  unfold zeroRat at hp
  subst hp
  replace S := S.below hk
  clear hk
  clear r0_0 r0_1 r0_2 r0_3
  go_upto_region 9 with fail
  replace S := (S.alloc 28 [.bool false, .slice none 0 0, .bool false, .slice none 0 0])
  obtain ⟨W11, eW, S⟩ := S.pack
  rw [eW]
  clear eW
  generalize W10.heap.size = P4 at *
  have r0_0 := S.c 4 0 rfl rfl
  have r0_1 := S.c 4 1 rfl rfl
  have r0_2 := S.c 4 2 rfl rfl
  have r0_3 := S.c 4 3 rfl rfl
  go_wp2_with fail
  refine ((rcode_eq (fnear_num (k := k) ((S.li 0 rfl).num) (by omega) (ht.keep S.k)) HC.out rfl)).mono ?_
  rintro e W12 ⟨U12, rfl, hp, hk⟩
  rw [if_neg (by decide)] at hp
  unfold zeroRat at hp
  subst hp
  replace S := S.below hk
  clear hk
  clear r0_0 r0_1 r0_2 r0_3
  go_upto_region 10 with fail
  replace S := (S.alloc 28 [.bool false, .slice none 0 0, .bool false, .slice none 0 0])
  obtain ⟨W13, eW, S⟩ := S.pack
  rw [eW]
  clear eW
  generalize W12.heap.size = P5 at *
  have r0_0 := S.c 5 0 rfl rfl
  have r0_1 := S.c 5 1 rfl rfl
  have r0_2 := S.c 5 2 rfl rfl
  have r0_3 := S.c 5 3 rfl rfl
  go_wp2_with fail
  refine ((gnear_bad ((S.li 0 rfl).num) HK.out)).mono ?_
  rintro e W14 ⟨U14, rfl, hp, hk⟩
  rw [if_neg (by decide)] at hp
  unfold zeroRat at hp
  subst hp
  replace S := S.below hk
  clear hk
  clear r0_0 r0_1 r0_2 r0_3
  go_upto_region 11 with fail
  replace S := (S.alloc 28 [.bool false, .slice none 0 0, .bool false, .slice none 0 0])
  obtain ⟨W15, eW, S⟩ := S.pack
  rw [eW]
  clear eW
  generalize W14.heap.size = P6 at *
  have r1_0 := S.c 5 0 rfl rfl
  have r1_1 := S.c 5 1 rfl rfl
  have r1_2 := S.c 5 2 rfl rfl
  have r1_3 := S.c 5 3 rfl rfl
  have r2_0 := S.c 4 0 rfl rfl
  have r2_1 := S.c 4 1 rfl rfl
  have r2_2 := S.c 4 2 rfl rfl
  have r2_3 := S.c 4 3 rfl rfl
  go_wp2_with fail
  refine ((lsame_err (by decide))).mono ?_
  rintro e W16 ⟨rfl, hk⟩
  replace S := S.below hk
  clear hk
  clear r1_0 r1_1 r1_2 r1_3 r2_0 r2_1 r2_2 r2_3
  have r3_0 := S.c 3 0 rfl rfl
  have r3_1 := S.c 3 1 rfl rfl
  have r3_2 := S.c 3 2 rfl rfl
  have r3_3 := S.c 3 3 rfl rfl
  have r4_0 := S.c 2 0 rfl rfl
  have r4_1 := S.c 2 1 rfl rfl
  have r4_2 := S.c 2 2 rfl rfl
  have r4_3 := S.c 2 3 rfl rfl
  go_wp2_with fail
  refine ((lsame_err (by decide))).mono ?_
  rintro e W17 ⟨rfl, hk⟩
  replace S := S.below hk
  clear hk
  clear r3_0 r3_1 r3_2 r3_3 r4_0 r4_1 r4_2 r4_3
  have r5_0 := S.c 1 0 rfl rfl
  have r5_1 := S.c 1 1 rfl rfl
  have r5_2 := S.c 1 2 rfl rfl
  have r5_3 := S.c 1 3 rfl rfl
  have r6_0 := S.c 0 0 rfl rfl
  have r6_1 := S.c 0 1 rfl rfl
  have r6_2 := S.c 0 2 rfl rfl
  have r6_3 := S.c 0 3 rfl rfl
  go_wp2_with fail
  refine ((lsame_err (by decide))).mono ?_
  rintro e W18 ⟨rfl, hk⟩
  replace S := S.below hk
  clear hk
  clear r5_0 r5_1 r5_2 r5_3 r6_0 r6_1 r6_2 r6_3
  go_wp2
  go_ret
  exact ⟨rfl, S.k⟩
set_option maxRecDepth 100000 in
set_option maxHeartbeats 4000000 in
theorem rnd_ok {w : World} {V1 : Value} {x : Rat} {k P : Int} (h1 : RatS w V1 x true) (ht : PowTab w) (h0 : 0 ≤ k) (hk1 : k ≤ 512) (hP : (2 : Int) ^ k.toNat = P) : Calls Tryz.prog 9 #[V1, .int .i64 k] w (fun e w' => e = .returned (.bool true) ∧ Keeps w w') := by
  obtain ⟨b3, A3, n3, c3, d3, B3, m3, e3, rfl⟩ := h1.open_
  have z0 := h1.sz
  obtain ⟨u1, u2, u3⟩ := rnd_sizes h0 hk1 hP z0
  have HC := Lib.hid (show placC k = 0 from if_neg (by omega))
  have HP := Lib.hid hP
  have Q1 := Lib.hid (show placQ Rat.floor x k = Rat.divInt (x * (P : Rat)).floor P by unfold placQ; rw [hP])
  have Q2 := Lib.hid (show placQ Rat.ceil x k = Rat.divInt (x * (P : Rat)).ceil P by unfold placQ; rw [hP])
  have Q3 := Lib.hid (show placQ nearR x k = Rat.divInt (nearR (x * (P : Rat))) P by unfold placQ; rw [hP])
  clear hP
  have S := ((St.start w).addL h1)
  clear h1
  go_enter Tryz.func9, Tryz.ntmps9
  go_wp2_with fail
  replace S := (S.alloc 28 [.bool b3, .slice A3 n3 c3, .bool d3, .slice B3 m3 e3])
  obtain ⟨W1, eW, S⟩ := S.pack
  rw [eW]
  clear eW
  refine ((known_any _ (ht.keep S.k))).mono ?_
  rintro e W2 ⟨rfl, hk⟩
  replace S := S.below hk
  clear hk
  have r0_0 := S.c 0 0 rfl rfl
  have r0_1 := S.c 0 1 rfl rfl
  have r0_2 := S.c 0 2 rfl rfl
  have r0_3 := S.c 0 3 rfl rfl
  go_wp2_with fail
  refine ((lshort_b (S.li 0 rfl))).mono ?_
  rintro e W3 ⟨rfl, hk⟩
  replace S := S.below hk
  clear hk
  clear r0_0 r0_1 r0_2 r0_3
  have r0_0 := S.c 0 0 rfl rfl
  have r0_1 := S.c 0 1 rfl rfl
  have r0_2 := S.c 0 2 rfl rfl
  have r0_3 := S.c 0 3 rfl rfl
  go_wp2_with fail
  refine ((rcode_eq (fdown_num (k := k) ((S.li 0 rfl).num) (by omega) (ht.keep S.k)) HC.out Q1.out)).mono ?_
  rintro e W4 ⟨U4, rfl, hp, hk⟩
  rw [if_pos rfl] at hp
  obtain ⟨b4, A4, n4, c4, d4, B4, m4, e4, rfl⟩ := hp.open_
  replace S := (S.below hk).addQ hp
  clear hk hp
  clear r0_0 r0_1 r0_2 r0_3
  go_upto_region 6 with fail
  replace S := (S.alloc 28 [.bool b4, .slice A4 n4 c4, .bool d4, .slice B4 m4 e4])
  obtain ⟨W5, eW, S⟩ := S.pack
  rw [eW]
  clear eW
  generalize W4.heap.size = P1 at *
  have r0_0 := S.c 1 0 rfl rfl
  have r0_1 := S.c 1 1 rfl rfl
  have r0_2 := S.c 1 2 rfl rfl
  have r0_3 := S.c 1 3 rfl rfl
  go_wp2_with fail
  refine ((gdown_ok ((S.li 1 rfl).num) h0 hk1 HP.out (by omega))).mono ?_
  rintro e W6 ⟨U6, rfl, hp, hk⟩
  rw [if_pos rfl] at hp
  obtain ⟨b5, A5, n5, c5, d5, B5, m5, e5, rfl⟩ := hp.open_
  replace S := (S.below hk).addQ hp
  clear hk hp
  clear r0_0 r0_1 r0_2 r0_3
  go_upto_region 7 with fail
  replace S := (S.alloc 28 [.bool b5, .slice A5 n5 c5, .bool d5, .slice B5 m5 e5])
  obtain ⟨W7, eW, S⟩ := S.pack
  rw [eW]
  clear eW
  generalize W6.heap.size = P2 at *
  have r0_0 := S.c 2 0 rfl rfl
  have r0_1 := S.c 2 1 rfl rfl
  have r0_2 := S.c 2 2 rfl rfl
  have r0_3 := S.c 2 3 rfl rfl
  go_wp2_with fail
  refine ((rcode_eq (fup_num (k := k) ((S.li 2 rfl).num) (by omega) (ht.keep S.k)) HC.out Q2.out)).mono ?_
  rintro e W8 ⟨U8, rfl, hp, hk⟩
  rw [if_pos rfl] at hp
  obtain ⟨b6, A6, n6, c6, d6, B6, m6, e6, rfl⟩ := hp.open_
  replace S := (S.below hk).addQ hp
  clear hk hp
  clear r0_0 r0_1 r0_2 r0_3
  go_upto_region 8 with fail
  replace S := (S.alloc 28 [.bool b6, .slice A6 n6 c6, .bool d6, .slice B6 m6 e6])
  obtain ⟨W9, eW, S⟩ := S.pack
  rw [eW]
  clear eW
  generalize W8.heap.size = P3 at *
  have r0_0 := S.c 3 0 rfl rfl
  have r0_1 := S.c 3 1 rfl rfl
  have r0_2 := S.c 3 2 rfl rfl
  have r0_3 := S.c 3 3 rfl rfl
  go_wp2_with fail
  refine ((gup_ok ((S.li 3 rfl).num) h0 hk1 HP.out (by omega))).mono ?_
  rintro e W10 ⟨U10, rfl, hp, hk⟩
  rw [if_pos rfl] at hp
  obtain ⟨b7, A7, n7, c7, d7, B7, m7, e7, rfl⟩ := hp.open_
  replace S := (S.below hk).addQ hp
  clear hk hp
  clear r0_0 r0_1 r0_2 r0_3
  go_upto_region 9 with fail
  replace S := (S.alloc 28 [.bool b7, .slice A7 n7 c7, .bool d7, .slice B7 m7 e7])
  obtain ⟨W11, eW, S⟩ := S.pack
  rw [eW]
  clear eW
  generalize W10.heap.size = P4 at *
  have r0_0 := S.c 4 0 rfl rfl
  have r0_1 := S.c 4 1 rfl rfl
  have r0_2 := S.c 4 2 rfl rfl
  have r0_3 := S.c 4 3 rfl rfl
  go_wp2_with fail
  refine ((rcode_eq (fnear_num (k := k) ((S.li 4 rfl).num) (by omega) (ht.keep S.k)) HC.out Q3.out)).mono ?_
  rintro e W12 ⟨U12, rfl, hp, hk⟩
  rw [if_pos rfl] at hp
  obtain ⟨b8, A8, n8, c8, d8, B8, m8, e8, rfl⟩ := hp.open_
  replace S := (S.below hk).addQ hp
  clear hk hp
  clear r0_0 r0_1 r0_2 r0_3
  go_upto_region 10 with fail
  replace S := (S.alloc 28 [.bool b8, .slice A8 n8 c8, .bool d8, .slice B8 m8 e8])
  obtain ⟨W13, eW, S⟩ := S.pack
  rw [eW]
  clear eW
  generalize W12.heap.size = P5 at *
  have r0_0 := S.c 5 0 rfl rfl
  have r0_1 := S.c 5 1 rfl rfl
  have r0_2 := S.c 5 2 rfl rfl
  have r0_3 := S.c 5 3 rfl rfl
  go_wp2_with fail
  refine ((gnear_ok ((S.li 5 rfl).num) h0 hk1 HP.out (by omega))).mono ?_
  rintro e W14 ⟨U14, rfl, hp, hk⟩
  rw [if_pos rfl] at hp
  obtain ⟨b9, A9, n9, c9, d9, B9, m9, e9, rfl⟩ := hp.open_
  replace S := (S.below hk).addQ hp
  clear hk hp
  clear r0_0 r0_1 r0_2 r0_3
  go_upto_region 11 with fail
  replace S := (S.alloc 28 [.bool b9, .slice A9 n9 c9, .bool d9, .slice B9 m9 e9])
  obtain ⟨W15, eW, S⟩ := S.pack
  rw [eW]
  clear eW
  generalize W14.heap.size = P6 at *
  have r1_0 := S.c 5 0 rfl rfl
  have r1_1 := S.c 5 1 rfl rfl
  have r1_2 := S.c 5 2 rfl rfl
  have r1_3 := S.c 5 3 rfl rfl
  have r2_0 := S.c 4 0 rfl rfl
  have r2_1 := S.c 4 1 rfl rfl
  have r2_2 := S.c 4 2 rfl rfl
  have r2_3 := S.c 4 3 rfl rfl
  go_wp2_with fail
  refine ((lsame_ok (S.qi 5 rfl) (S.qi 4 rfl) (by omega) (decide_eq_true rfl))).mono ?_
  rintro e W16 ⟨rfl, hk⟩
  replace S := S.below hk
  clear hk
  clear r1_0 r1_1 r1_2 r1_3 r2_0 r2_1 r2_2 r2_3
  have r3_0 := S.c 3 0 rfl rfl
  have r3_1 := S.c 3 1 rfl rfl
  have r3_2 := S.c 3 2 rfl rfl
  have r3_3 := S.c 3 3 rfl rfl
  have r4_0 := S.c 2 0 rfl rfl
  have r4_1 := S.c 2 1 rfl rfl
  have r4_2 := S.c 2 2 rfl rfl
  have r4_3 := S.c 2 3 rfl rfl
  go_wp2_with fail
  refine ((lsame_ok (S.qi 3 rfl) (S.qi 2 rfl) (by omega) (decide_eq_true rfl))).mono ?_
  rintro e W17 ⟨rfl, hk⟩
  replace S := S.below hk
  clear hk
  clear r3_0 r3_1 r3_2 r3_3 r4_0 r4_1 r4_2 r4_3
  have r5_0 := S.c 1 0 rfl rfl
  have r5_1 := S.c 1 1 rfl rfl
  have r5_2 := S.c 1 2 rfl rfl
  have r5_3 := S.c 1 3 rfl rfl
  have r6_0 := S.c 0 0 rfl rfl
  have r6_1 := S.c 0 1 rfl rfl
  have r6_2 := S.c 0 2 rfl rfl
  have r6_3 := S.c 0 3 rfl rfl
  go_wp2_with fail
  refine ((lsame_ok (S.qi 1 rfl) (S.qi 0 rfl) (by omega) (decide_eq_true rfl))).mono ?_
  rintro e W18 ⟨rfl, hk⟩
  replace S := S.below hk
  clear hk
  clear r5_0 r5_1 r5_2 r5_3 r6_0 r6_1 r6_2 r6_3
  go_wp2
  go_ret
  exact ⟨rfl, S.k⟩
theorem rounds_walk {w : World} {V1 : Value} {x : Rat} {b1 : Bool} {k : Int} (h1 : RatS w V1 x b1) (ht : PowTab w) :
    Calls Tryz.prog 9 #[V1, .int .i64 k] w fun e w' => e = .returned (.bool true) ∧ Keeps w w' := by
  cases b1 with
  | false => exact rnd_1 h1 ht
  | true =>
    by_cases hk : k < 0 ∨ 512 < k
    · exact rnd_bad h1 ht hk
    · exact rnd_ok h1 ht (by omega) (by omega) rfl
end Go.Proofs.YtmochehkkadjnaaGreatDoor
