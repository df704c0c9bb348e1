/- The walk of the law FractionOrders. -/
import Derived.Test.YtmochehkkadjnaaGreatDoorLawRounds
namespace Go.Proofs.YtmochehkkadjnaaGreatDoor
open Go.RowKit Go.Shelf

theorem pow60 {k P : Int} (h0 : 0 ≤ k) (h1 : k ≤ 60) (hP : (2 : Int) ^ k.toNat = P) : 0 < P ∧ P ≤ 1152921504606846976 := by
  refine ⟨by rw [← hP]; exact Int.pow_pos (by decide), ?_⟩
  obtain ⟨n, rfl⟩ := Int.eq_ofNat_of_zero_le h0
  have h : (2 : Nat) ^ n ≤ 2 ^ 60 := Nat.pow_le_pow_right (by decide) (by omega)
  have e : P = (((2 : Nat) ^ n : Nat) : Int) := by rw [← hP]; simp
  rw [e]
  exact Int.ofNat_le.2 h
theorem ord_sizes {x y : Rat} {k P : Int} (h0 : 0 ≤ k) (h1 : k ≤ 60) (hP : (2 : Int) ^ k.toNat = P) (zx : szR x ≤ 8) (zy : szR y ≤ 8) :
    szR (dnR x P) ≤ 40 ∧ szR (upR' x P) ≤ 40 ∧ szR (nrR halfR x P) ≤ 40 ∧ szR (dnR y P) ≤ 40 ∧ szR (nrR halfR y P) ≤ 40 ∧ szR (Rat.divInt 1 P) ≤ 40 := by
  obtain ⟨a1, a2, a3⟩ := rnd_sizes (x := x) h0 (by omega) hP zx
  obtain ⟨b1, b2, b3⟩ := rnd_sizes (x := y) h0 (by omega) hP zy
  have h2 := lenI_pow2 h0 (by omega) hP
  have h3 := szR_divInt 1 P (two_ne _ P hP)
  have h4 := lenI_one
  exact ⟨a1, a2, a3, b1, b3, by omega⟩
theorem wid_one {x : Rat} {P s : Int} (hs : (upR' x P - dnR x P).num.sign = s) (t : (s != 0) = true) (hP : 0 < P) : decide (upR' x P - dnR x P = Rat.divInt 1 P) = true := by
  rcases width_cases (x := x) hP with e | e
  · rw [e] at hs
    rw [← hs] at t
    exact absurd t (by decide)
  · exact decide_eq_true e
theorem half_bounds : (0 : Rat) ≤ halfR ∧ halfR < 1 := by decide +kernel
theorem nr_other {x : Rat} {P : Int} {b : Bool} (h : decide (nrR halfR x P = dnR x P) = b) (t : b = false) : decide (nrR halfR x P = upR' x P) = true := by
  subst h
  rcases nr_cases (x := x) (P := P) half_bounds.1 half_bounds.2 with e | e
  · rw [e] at t; exact absurd t (by simp)
  · exact decide_eq_true e
theorem ord_dn {x y : Rat} {P s u : Int} (hP : 0 < P) (h1 : cmpR x y = s) (h2 : cmpR (dnR x P) (dnR y P) = u) (t : decide (0 < s) = false) : decide (u ≤ 0) = true := by
  have t := of_decide_eq_false t
  have := (cmpR_le x y).1 (by omega)
  exact decide_eq_true (by rw [← h2]; exact (cmpR_le _ _).2 (dn_mono hP this))
theorem ord_nr {x y : Rat} {P s u : Int} (hP : 0 < P) (h1 : cmpR x y = s) (h2 : cmpR (nrR halfR x P) (nrR halfR y P) = u) (t : decide (0 < s) = false) : decide (u ≤ 0) = true := by
  have t := of_decide_eq_false t
  have := (cmpR_le x y).1 (by omega)
  exact decide_eq_true (by rw [← h2]; exact (cmpR_le _ _).2 (nr_mono hP this))
set_option maxRecDepth 100000 in
set_option maxHeartbeats 1000000 in
theorem ord_1 {w : World} {V1 V2 : Value} {x y : Rat} {b2 : Bool} (h1 : RatS w V1 x false) (h2 : RatS w V2 y b2) {k : Int} (ht : PowTab w) : Calls Tryz.prog 10 #[V1, V2, .int .i64 k] w (fun e w' => e = .returned (.bool true) ∧ Keeps w w') := by
  obtain ⟨b3, A3, n3, c3, d3, B3, m3, e3, rfl⟩ := h1.open_
  obtain ⟨b4, A4, n4, c4, d4, B4, m4, e4, rfl⟩ := h2.open_
  have S := (((St.start w).addL h1).addL h2)
  clear h1 h2
  go_enter Tryz.func10, Tryz.ntmps10
  go_wp2_with fail
  replace S := ((S.alloc 28 [.bool b3, .slice A3 n3 c3, .bool d3, .slice B3 m3 e3]).alloc 28 [.bool b4, .slice A4 n4 c4, .bool d4, .slice B4 m4 e4])
  simp only [World.size_alloc] at S
  obtain ⟨W1, eW, S⟩ := S.pack
  rw [eW]
  clear eW
  refine ((known_any _ (ht.keep S.k))).mono ?_
  rintro e W2 ⟨rfl, hk⟩
  replace S := S.below hk
  clear hk
  have r0_0 := S.c 1 0 rfl rfl
  have r0_1 := S.c 1 1 rfl rfl
  have r0_2 := S.c 1 2 rfl rfl
  have r0_3 := S.c 1 3 rfl rfl
  go_wp2_with fail
  refine ((lshort_b (S.li 1 rfl))).mono ?_
  rintro e W3 ⟨rfl, hk⟩
  replace S := S.below hk
  clear hk
  clear r0_0 r0_1 r0_2 r0_3
  go_wp2
  go_ret
  exact ⟨rfl, S.k⟩
set_option maxRecDepth 100000 in
set_option maxHeartbeats 1000000 in
theorem ord_2 {w : World} {V1 V2 : Value} {x y : Rat} (h1 : RatS w V1 x true) (h2 : RatS w V2 y false) {k : Int} (ht : PowTab w) : Calls Tryz.prog 10 #[V1, V2, .int .i64 k] w (fun e w' => e = .returned (.bool true) ∧ Keeps w w') := by
  obtain ⟨b3, A3, n3, c3, d3, B3, m3, e3, rfl⟩ := h1.open_
  obtain ⟨b4, A4, n4, c4, d4, B4, m4, e4, rfl⟩ := h2.open_
  have S := (((St.start w).addL h1).addL h2)
  clear h1 h2
  go_enter Tryz.func10, Tryz.ntmps10
  go_wp2_with fail
  replace S := ((S.alloc 28 [.bool b3, .slice A3 n3 c3, .bool d3, .slice B3 m3 e3]).alloc 28 [.bool b4, .slice A4 n4 c4, .bool d4, .slice B4 m4 e4])
  simp only [World.size_alloc] at S
  obtain ⟨W1, eW, S⟩ := S.pack
  rw [eW]
  clear eW
  refine ((known_any _ (ht.keep S.k))).mono ?_
  rintro e W2 ⟨rfl, hk⟩
  replace S := S.below hk
  clear hk
  have r0_0 := S.c 1 0 rfl rfl
  have r0_1 := S.c 1 1 rfl rfl
  have r0_2 := S.c 1 2 rfl rfl
  have r0_3 := S.c 1 3 rfl rfl
  go_wp2_with fail
  refine ((lshort_b (S.li 1 rfl))).mono ?_
  rintro e W3 ⟨rfl, hk⟩
  replace S := S.below hk
  clear hk
  clear r0_0 r0_1 r0_2 r0_3
  have r1_0 := S.c 0 0 rfl rfl
  have r1_1 := S.c 0 1 rfl rfl
  have r1_2 := S.c 0 2 rfl rfl
  have r1_3 := S.c 0 3 rfl rfl
  go_wp2_with fail
  refine ((lshort_b (S.li 0 rfl))).mono ?_
  rintro e W4 ⟨rfl, hk⟩
  replace S := S.below hk
  clear hk
  clear r1_0 r1_1 r1_2 r1_3
  go_wp2
  go_ret
  exact ⟨rfl, S.k⟩
set_option maxRecDepth 100000 in
set_option maxHeartbeats 1000000 in
theorem ord_neg {w : World} {V1 V2 : Value} {x y : Rat} {k : Int} (h1 : RatS w V1 x true) (h2 : RatS w V2 y true) (ht : PowTab w) (hk : k < 0) : Calls Tryz.prog 10 #[V1, V2, .int .i64 k] w (fun e w' => e = .returned (.bool true) ∧ Keeps w w') := by
  obtain ⟨b3, A3, n3, c3, d3, B3, m3, e3, rfl⟩ := h1.open_
  obtain ⟨b4, A4, n4, c4, d4, B4, m4, e4, rfl⟩ := h2.open_
  have t1 : decide (k < 0) = true := by exact decide_eq_true hk
  have S := (((St.start w).addL h1).addL h2)
  clear h1 h2
  go_enter Tryz.func10, Tryz.ntmps10
  go_wp2_with fail
  replace S := ((S.alloc 28 [.bool b3, .slice A3 n3 c3, .bool d3, .slice B3 m3 e3]).alloc 28 [.bool b4, .slice A4 n4 c4, .bool d4, .slice B4 m4 e4])
  simp only [World.size_alloc] at S
  obtain ⟨W1, eW, S⟩ := S.pack
  rw [eW]
  clear eW
  refine ((known_any _ (ht.keep S.k))).mono ?_
  rintro e W2 ⟨rfl, hk⟩
  replace S := S.below hk
  clear hk
  have r0_0 := S.c 1 0 rfl rfl
  have r0_1 := S.c 1 1 rfl rfl
  have r0_2 := S.c 1 2 rfl rfl
  have r0_3 := S.c 1 3 rfl rfl
  go_wp2_with fail
  refine ((lshort_b (S.li 1 rfl))).mono ?_
  rintro e W3 ⟨rfl, hk⟩
  replace S := S.below hk
  clear hk
  clear r0_0 r0_1 r0_2 r0_3
  have r1_0 := S.c 0 0 rfl rfl
  have r1_1 := S.c 0 1 rfl rfl
  have r1_2 := S.c 0 2 rfl rfl
  have r1_3 := S.c 0 3 rfl rfl
  go_wp2_with fail
  refine ((lshort_b (S.li 0 rfl))).mono ?_
  rintro e W4 ⟨rfl, hk⟩
  replace S := S.below hk
  clear hk
  clear r1_0 r1_1 r1_2 r1_3
  go_wp2
  go_ret
  exact ⟨rfl, S.k⟩
set_option maxRecDepth 100000 in
set_option maxHeartbeats 1000000 in
theorem ord_big {w : World} {V1 V2 : Value} {x y : Rat} {k : Int} (h1 : RatS w V1 x true) (h2 : RatS w V2 y true) (ht : PowTab w) (hk : 60 < k) : Calls Tryz.prog 10 #[V1, V2, .int .i64 k] w (fun e w' => e = .returned (.bool true) ∧ Keeps w w') := by
  obtain ⟨b3, A3, n3, c3, d3, B3, m3, e3, rfl⟩ := h1.open_
  obtain ⟨b4, A4, n4, c4, d4, B4, m4, e4, rfl⟩ := h2.open_
  have t1 : decide (k < 0) = false := by exact decide_eq_false (by omega)
  have t2 : decide (60 < k) = true := by exact decide_eq_true hk
  have S := (((St.start w).addL h1).addL h2)
  clear h1 h2
  go_enter Tryz.func10, Tryz.ntmps10
  go_wp2_with fail
  replace S := ((S.alloc 28 [.bool b3, .slice A3 n3 c3, .bool d3, .slice B3 m3 e3]).alloc 28 [.bool b4, .slice A4 n4 c4, .bool d4, .slice B4 m4 e4])
  simp only [World.size_alloc] at S
  obtain ⟨W1, eW, S⟩ := S.pack
  rw [eW]
  clear eW
  refine ((known_any _ (ht.keep S.k))).mono ?_
  rintro e W2 ⟨rfl, hk⟩
  replace S := S.below hk
  clear hk
  have r0_0 := S.c 1 0 rfl rfl
  have r0_1 := S.c 1 1 rfl rfl
  have r0_2 := S.c 1 2 rfl rfl
  have r0_3 := S.c 1 3 rfl rfl
  go_wp2_with fail
  refine ((lshort_b (S.li 1 rfl))).mono ?_
  rintro e W3 ⟨rfl, hk⟩
  replace S := S.below hk
  clear hk
  clear r0_0 r0_1 r0_2 r0_3
  have r1_0 := S.c 0 0 rfl rfl
  have r1_1 := S.c 0 1 rfl rfl
  have r1_2 := S.c 0 2 rfl rfl
  have r1_3 := S.c 0 3 rfl rfl
  go_wp2_with fail
  refine ((lshort_b (S.li 0 rfl))).mono ?_
  rintro e W4 ⟨rfl, hk⟩
  replace S := S.below hk
  clear hk
  clear r1_0 r1_1 r1_2 r1_3
  go_wp2
  go_ret
  exact ⟨rfl, S.k⟩
set_option maxRecDepth 100000 in
set_option maxHeartbeats 16000000 in
theorem ord_ok {w : World} {V1 V2 : Value} {x y : Rat} {k P : Int} (h1 : RatS w V1 x true) (h2 : RatS w V2 y true) (ht : PowTab w) (h0 : 0 ≤ k) (hk1 : k ≤ 60) (hP : (2 : Int) ^ k.toNat = P) : Calls Tryz.prog 10 #[V1, V2, .int .i64 k] w (fun e w' => e = .returned (.bool true) ∧ Keeps w w') := by
  obtain ⟨b3, A3, n3, c3, d3, B3, m3, e3, rfl⟩ := h1.open_
  obtain ⟨b4, A4, n4, c4, d4, B4, m4, e4, rfl⟩ := h2.open_
  have z0 := h1.sz
  have z1 := h2.sz
  obtain ⟨u1, u2, u3, u4, u5, u6⟩ := ord_sizes h0 hk1 hP z0 z1
  obtain ⟨p1, p2⟩ := pow60 h0 hk1 hP
  have HC := Lib.hid (show placC k = 0 from if_neg (by omega))
  have Q1 := Lib.hid (show placQ Rat.floor x k = dnR x P by unfold placQ; rw [hP]; rfl)
  have Q2 := Lib.hid (show placQ Rat.ceil x k = upR' x P by unfold placQ; rw [hP]; rfl)
  have Q3 := Lib.hid (show placQ nearR x k = nrR halfR x P by unfold placQ; rw [hP]; rfl)
  have Q4 := Lib.hid (show placQ Rat.floor (dnR x P) k = dnR x P by unfold placQ; rw [hP]; exact dn_dn p1)
  have Q5 := Lib.hid (show placQ Rat.ceil (dnR x P) k = dnR x P by unfold placQ; rw [hP]; exact up_dn p1)
  have Q6 := Lib.hid (show placQ Rat.floor y k = dnR y P by unfold placQ; rw [hP]; rfl)
  have Q7 := Lib.hid (show placQ nearR y k = nrR halfR y P by unfold placQ; rw [hP]; rfl)
  have q9 : IntKind.i64.wrap (2 ^ k.toNat) = P := by rw [hP]; exact IntWalk.i64_in _ (by omega)
  have HP := Lib.hid hP
  clear hP
  obtain ⟨bnn, hbn⟩ : ∃ b, decide (nrR halfR x P = dnR x P) = b := ⟨_, rfl⟩
  have HBN := Lib.hid hbn
  clear hbn
  have y0 := szR_sub (upR' x P) (dnR x P)
  obtain ⟨s1, hs1⟩ : ∃ s, cmpR (dnR x P) x = s := ⟨_, rfl⟩
  obtain ⟨s2, hs2⟩ : ∃ s, cmpR x (upR' x P) = s := ⟨_, rfl⟩
  obtain ⟨s3, hs3⟩ : ∃ s, ((upR' x P) - (dnR x P)).num.sign = s := ⟨_, rfl⟩
  obtain ⟨s4, hs4⟩ : ∃ s, cmpR x y = s := ⟨_, rfl⟩
  obtain ⟨s5, hs5⟩ : ∃ s, cmpR (dnR x P) (dnR y P) = s := ⟨_, rfl⟩
  obtain ⟨s6, hs6⟩ : ∃ s, cmpR (nrR halfR x P) (nrR halfR y P) = s := ⟨_, rfl⟩
  have t1 : decide (k < 0) = false := by exact decide_eq_false (by omega)
  have t2 : decide (60 < k) = false := by exact decide_eq_false (by omega)
  have t3 : decide (0 < s1) = false := by exact decide_eq_false (by rw [← hs1]; have := (cmpR_le _ _).2 (dn_le (x := x) p1); omega)
  have t4 : decide (0 < s2) = false := by exact decide_eq_false (by rw [← hs2]; have := (cmpR_le _ _).2 (le_up (x := x) p1); omega)
  have HS1 := Lib.hid hs1
  clear hs1
  have HS2 := Lib.hid hs2
  clear hs2
  have HS3 := Lib.hid hs3
  clear hs3
  have HS4 := Lib.hid hs4
  clear hs4
  have HS5 := Lib.hid hs5
  clear hs5
  have HS6 := Lib.hid hs6
  clear hs6
  have S := (((St.start w).addL h1).addL h2)
  clear h1 h2
  go_enter Tryz.func10, Tryz.ntmps10
  go_wp2_with fail
  replace S := ((S.alloc 28 [.bool b3, .slice A3 n3 c3, .bool d3, .slice B3 m3 e3]).alloc 28 [.bool b4, .slice A4 n4 c4, .bool d4, .slice B4 m4 e4])
  simp only [World.size_alloc] at S
  obtain ⟨W1, eW, S⟩ := S.pack
  rw [eW]
  clear eW
  refine ((known_any _ (ht.keep S.k))).mono ?_
  rintro e W2 ⟨rfl, hk⟩
  replace S := S.below hk
  clear hk
  have r0_0 := S.c 1 0 rfl rfl
  have r0_1 := S.c 1 1 rfl rfl
  have r0_2 := S.c 1 2 rfl rfl
  have r0_3 := S.c 1 3 rfl rfl
  go_wp2_with fail
  refine ((lshort_b (S.li 1 rfl))).mono ?_
  rintro e W3 ⟨rfl, hk⟩
  replace S := S.below hk
  clear hk
  clear r0_0 r0_1 r0_2 r0_3
  have r1_0 := S.c 0 0 rfl rfl
  have r1_1 := S.c 0 1 rfl rfl
  have r1_2 := S.c 0 2 rfl rfl
  have r1_3 := S.c 0 3 rfl rfl
  go_wp2_with fail
  refine ((lshort_b (S.li 0 rfl))).mono ?_
  rintro e W4 ⟨rfl, hk⟩
  replace S := S.below hk
  clear hk
  clear r1_0 r1_1 r1_2 r1_3
  have r0_0 := S.c 1 0 rfl rfl
  have r0_1 := S.c 1 1 rfl rfl
  have r0_2 := S.c 1 2 rfl rfl
  have r0_3 := S.c 1 3 rfl rfl
  go_wp2_with fail
  refine ((rcode_eq (fdown_num (k := k) ((S.li 1 rfl).num) (by omega) (ht.keep S.k)) HC.out Q1.out)).mono ?_
  rintro e W5 ⟨U5, rfl, hp, hk⟩
  rw [if_pos rfl] at hp
  obtain ⟨b5, A5, n5, c5, d5, B5, m5, e5, rfl⟩ := hp.open_
  replace S := (S.below hk).addQ hp
  clear hk hp
  clear r0_0 r0_1 r0_2 r0_3
  go_upto_region 6 with fail
  replace S := (S.alloc 28 [.bool b5, .slice A5 n5 c5, .bool d5, .slice B5 m5 e5])
  obtain ⟨W6, eW, S⟩ := S.pack
  rw [eW]
  clear eW
  generalize W5.heap.size = P1 at *
  have r0_0 := S.c 2 0 rfl rfl
  have r0_1 := S.c 2 1 rfl rfl
  have r0_2 := S.c 2 2 rfl rfl
  have r0_3 := S.c 2 3 rfl rfl
  go_wp2_with fail
  refine ((rcode_eq (fup_num (k := k) ((S.li 2 rfl).num) (by omega) (ht.keep S.k)) HC.out Q2.out)).mono ?_
  rintro e W7 ⟨U7, rfl, hp, hk⟩
  rw [if_pos rfl] at hp
  obtain ⟨b6, A6, n6, c6, d6, B6, m6, e6, rfl⟩ := hp.open_
  replace S := (S.below hk).addQ hp
  clear hk hp
  clear r0_0 r0_1 r0_2 r0_3
  go_upto_region 7 with fail
  replace S := (S.alloc 28 [.bool b6, .slice A6 n6 c6, .bool d6, .slice B6 m6 e6])
  obtain ⟨W8, eW, S⟩ := S.pack
  rw [eW]
  clear eW
  generalize W7.heap.size = P2 at *
  have r0_0 := S.c 3 0 rfl rfl
  have r0_1 := S.c 3 1 rfl rfl
  have r0_2 := S.c 3 2 rfl rfl
  have r0_3 := S.c 3 3 rfl rfl
  go_wp2_with fail
  refine ((rcode_eq (fnear_num (k := k) ((S.li 3 rfl).num) (by omega) (ht.keep S.k)) HC.out Q3.out)).mono ?_
  rintro e W9 ⟨U9, rfl, hp, hk⟩
  rw [if_pos rfl] at hp
  obtain ⟨b7, A7, n7, c7, d7, B7, m7, e7, rfl⟩ := hp.open_
  replace S := (S.below hk).addQ hp
  clear hk hp
  clear r0_0 r0_1 r0_2 r0_3
  go_upto_region 8 with fail
  replace S := (S.alloc 28 [.bool b7, .slice A7 n7 c7, .bool d7, .slice B7 m7 e7])
  obtain ⟨W10, eW, S⟩ := S.pack
  rw [eW]
  clear eW
  generalize W9.heap.size = P3 at *
  have r0_0 := S.c 4 0 rfl rfl
  have r0_1 := S.c 4 1 rfl rfl
  have r0_2 := S.c 4 2 rfl rfl
  have r0_3 := S.c 4 3 rfl rfl
  have r2_0 := S.c 2 0 rfl rfl
  have r2_1 := S.c 2 1 rfl rfl
  have r2_2 := S.c 2 2 rfl rfl
  have r2_3 := S.c 2 3 rfl rfl
  go_wp2_with fail
  refine ((fcompare_s ((S.qi 2 rfl).num (by omega)) ((S.li 4 rfl).num) HS1.out)).mono ?_
  rintro e W11 ⟨rfl, hk⟩
  replace S := S.below hk
  clear hk
  clear r0_0 r0_1 r0_2 r0_3 r2_0 r2_1 r2_2 r2_3
  have r0_0 := S.c 4 0 rfl rfl
  have r0_1 := S.c 4 1 rfl rfl
  have r0_2 := S.c 4 2 rfl rfl
  have r0_3 := S.c 4 3 rfl rfl
  have r3_0 := S.c 1 0 rfl rfl
  have r3_1 := S.c 1 1 rfl rfl
  have r3_2 := S.c 1 2 rfl rfl
  have r3_3 := S.c 1 3 rfl rfl
  go_wp2_with fail
  refine ((fcompare_s ((S.li 4 rfl).num) ((S.qi 1 rfl).num (by omega)) HS2.out)).mono ?_
  rintro e W12 ⟨rfl, hk⟩
  replace S := S.below hk
  clear hk
  clear r0_0 r0_1 r0_2 r0_3 r3_0 r3_1 r3_2 r3_3
  have r2_0 := S.c 2 0 rfl rfl
  have r2_1 := S.c 2 1 rfl rfl
  have r2_2 := S.c 2 2 rfl rfl
  have r2_3 := S.c 2 3 rfl rfl
  have r3_0 := S.c 1 0 rfl rfl
  have r3_1 := S.c 1 1 rfl rfl
  have r3_2 := S.c 1 2 rfl rfl
  have r3_3 := S.c 1 3 rfl rfl
  go_wp2_with fail
  refine ((fsub_num ((S.qi 1 rfl).num (by omega)) ((S.qi 2 rfl).num (by omega)))).mono ?_
  rintro e W13 ⟨U13, rfl, hp, hk⟩
  obtain ⟨b8, A8, n8, c8, d8, B8, m8, e8, rfl⟩ := hp.open_
  replace S := (S.below hk).addQ hp
  clear hk hp
  clear r2_0 r2_1 r2_2 r2_3 r3_0 r3_1 r3_2 r3_3
  go_upto_region 11 with fail
  replace S := (S.alloc 28 [.bool b8, .slice A8 n8 c8, .bool d8, .slice B8 m8 e8])
  obtain ⟨W14, eW, S⟩ := S.pack
  rw [eW]
  clear eW
  generalize W13.heap.size = P4 at *
  rcases Bool.eq_false_or_eq_true ((s3 != 0)) with t5 | t5
  · skip
    rcases Bool.eq_false_or_eq_true (bnn) with rfl | rfl
    · skip
      refine wp_region_steps (m := 23) rfl (by kernel_rfl) (fun iΦ vΦ wΦ => (List.getD [fun vΦ _ => vΦ = .agg #[.bool b8, .slice A8 n8 c8, .bool d8, .slice B8 m8 e8], fun vΦ _ => vΦ = .int .i64 s3, fun vΦ _ => vΦ = .bool true, fun vΦ _ => vΦ = .bool true, fun vΦ _ => vΦ = .agg #[.bool b8, .slice A8 n8 c8, .bool d8, .slice B8 m8 e8], fun vΦ _ => vΦ = .int .i64 k, fun vΦ _ => vΦ = .int .i64 P, fun vΦ wΦ => RatRep wΦ vΦ (Rat.divInt 1 P), fun vΦ _ => vΦ = .bool true, fun vΦ _ => vΦ = .bool false, fun vΦ _ => vΦ = .bool false, fun vΦ _ => vΦ = .bool false, fun vΦ _ => vΦ = .agg #[.bool b7, .slice A7 n7 c7, .bool d7, .slice B7 m7 e7], fun vΦ _ => vΦ = .agg #[.bool b5, .slice A5 n5 c5, .bool d5, .slice B5 m5 e5], fun vΦ _ => vΦ = .bool true, fun vΦ _ => vΦ = .bool false, fun vΦ _ => vΦ = .bool false, fun vΦ _ => vΦ = undef, fun vΦ _ => vΦ = undef, fun vΦ _ => vΦ = undef, fun vΦ _ => vΦ = undef, fun vΦ _ => vΦ = .bool false, fun vΦ _ => vΦ = .bool false] iΦ (fun _ _ => True)) vΦ wΦ) [] ?_ ?_ ?_
      · intro i v w w' _ h hk
        refine stabL_get ?_ i v w w' h hk
        exact stab_cons st_e (stab_cons st_e (stab_cons st_e (stab_cons st_e (stab_cons st_e (stab_cons st_e (stab_cons st_e (stab_cons st_q (stab_cons st_e (stab_cons st_e (stab_cons st_e (stab_cons st_e (stab_cons st_e (stab_cons st_e (stab_cons st_e (stab_cons st_e (stab_cons st_e (stab_cons st_e (stab_cons st_e (stab_cons st_e (stab_cons st_e (stab_cons st_e (stab_cons st_e stab_nil))))))))))))))))))))))
      · intro i hi vs w3 hk3 hd
        have S3 := S.drew.below hk3
        have a0 := S3.c 3 0 rfl rfl
        have a1 := S3.c 3 1 rfl rfl
        have a2 := S3.c 3 2 rfl rfl
        have a3 := S3.c 3 3 rfl rfl
        have a4 := S3.c 1 0 rfl rfl
        have a5 := S3.c 1 1 rfl rfl
        have a6 := S3.c 1 2 rfl rfl
        have a7 := S3.c 1 3 rfl rfl
        have a8 := S3.c 0 0 rfl rfl
        have a9 := S3.c 0 1 rfl rfl
        have a10 := S3.c 0 2 rfl rfl
        have a11 := S3.c 0 3 rfl rfl
        match i, hi with
        | 0, _ =>
          refine step_val0 [] (fun vΦ _ => vΦ = .agg #[.bool b8, .slice A8 n8 c8, .bool d8, .slice B8 m8 e8]) rfl (by kernel_rfl) rfl (fun _ _ h => h) rfl fun K hK => ?_; clear hd; simp only [frD] at hK ⊢; go_simp
          exact hK _ _ (Below.refl _ _) rfl
        | 1, _ =>
          have qe0 : (vs 0) = .agg #[.bool b8, .slice A8 n8 c8, .bool d8, .slice B8 m8 e8] := hd 0 (cm (by kernel_rfl))
          refine step_call (F := 33) (X := .func (.func 33) #[] #[]) (A := #[(vs 0)]) (B := #[.agg #[.bool b8, .slice A8 n8 c8, .bool d8, .slice B8 m8 e8]]) [(0, some 79)] (fun vΦ _ => vΦ = .int .i64 s3) rfl (by kernel_rfl) (fun _ _ h => h) rfl (wanted_none rfl) rfl rfl (by kernel_rfl) rfl (by kernel_rfl) (by rw [qe0]) Tryz.func33 (by kernel_rfl) (by kernel_rfl) ?_
          refine ((fsign_s ((S3.qi 0 rfl).num (by omega)) HS3.out)).mono ?_; rintro e w4 ⟨rfl, hk4⟩; exact ⟨_, rfl, hk4, rfl⟩
        | 2, _ =>
          have qe1 : (vs 1) = .int .i64 s3 := hd 1 (cm (by kernel_rfl))
          refine step_val0 [(1, some 80)] (fun vΦ _ => vΦ = .bool true) rfl (by kernel_rfl) rfl (fun _ _ h => h) rfl fun K hK => ?_; clear hd; simp only [frD, qe1] at hK ⊢; go_simp
          exact hK _ _ (Below.refl _ _) rfl
        | 3, _ =>
          have qe1 : (vs 1) = .int .i64 s3 := hd 1 (cm (by kernel_rfl)); have qe2 : (vs 2) = .bool true := hd 2 (cm (by kernel_rfl))
          refine step_val0 [(1, some 80), (2, some 81)] (fun vΦ _ => vΦ = .bool true) rfl (by kernel_rfl) rfl (fun _ _ h => h) rfl fun K hK => ?_; clear hd; simp only [frD, qe1, qe2] at hK ⊢; go_simp
          exact hK _ _ (Below.refl _ _) rfl
        | 4, _ =>
          have qe3 : (vs 3) = .bool true := hd 3 (cm (by kernel_rfl))
          refine step_valg [(3, some 82)] (fun vΦ _ => vΦ = .agg #[.bool b8, .slice A8 n8 c8, .bool d8, .slice B8 m8 e8]) rfl (by kernel_rfl) (fun _ _ h => h) rfl (wanted_some 82 rfl (by rfl) (by kernel_rfl) qe3) fun K hK => ?_; clear hd; simp only [frD, qe3] at hK ⊢; go_simp
          exact hK _ _ (Below.refl _ _) rfl
        | 5, _ =>
          have qe3 : (vs 3) = .bool true := hd 3 (cm (by kernel_rfl))
          refine step_valg [(3, some 82)] (fun vΦ _ => vΦ = .int .i64 k) rfl (by kernel_rfl) (fun _ _ h => h) rfl (wanted_some 82 rfl (by rfl) (by kernel_rfl) qe3) fun K hK => ?_; clear hd; simp only [frD, qe3] at hK ⊢; go_simp
          exact hK _ _ (Below.refl _ _) rfl
        | 6, _ =>
          have qe3 : (vs 3) = .bool true := hd 3 (cm (by kernel_rfl)); have qe5 : (vs 5) = .int .i64 k := hd 5 (cm (by kernel_rfl))
          refine step_valg [(3, some 82), (5, some 84)] (fun vΦ _ => vΦ = .int .i64 P) rfl (by kernel_rfl) (fun _ _ h => h) rfl (wanted_some 82 rfl (by rfl) (by kernel_rfl) qe3) fun K hK => ?_; clear hd; simp only [frD, qe3, qe5] at hK ⊢; go_simp
          exact hK _ _ (Below.refl _ _) rfl
        | 7, _ =>
          have qe3 : (vs 3) = .bool true := hd 3 (cm (by kernel_rfl)); have qe6 : (vs 6) = .int .i64 P := hd 6 (cm (by kernel_rfl))
          refine step_call (F := 42) (X := .func (.func 42) #[] #[]) (A := #[.int .i64 1, (vs 6)]) (B := #[.int .i64 1, .int .i64 P]) [(3, some 82), (6, some 85)] (fun vΦ wΦ => RatRep wΦ vΦ (Rat.divInt 1 P)) rfl (by kernel_rfl) (fun _ _ h => h) rfl (wanted_some 82 rfl (by rfl) (by kernel_rfl) qe3) rfl rfl (by kernel_rfl) rfl (by kernel_rfl) (by rw [qe6]) Tryz.func42 (by kernel_rfl) (by kernel_rfl) ?_
          refine ((lof_num 1 P (by omega) (by omega) (by omega) (by omega) (by omega))).mono ?_; rintro e w4 ⟨U, rfl, hr, hk4⟩; exact ⟨_, rfl, hk4, hr⟩
        | 8, _ =>
          have qe3 : (vs 3) = .bool true := hd 3 (cm (by kernel_rfl)); have qe4 : (vs 4) = .agg #[.bool b8, .slice A8 n8 c8, .bool d8, .slice B8 m8 e8] := hd 4 (cm (by kernel_rfl)); have h7 : RatRep w3 (vs 7) (Rat.divInt 1 P) := hd 7 (cm (by kernel_rfl))
          refine step_call (F := 21) (X := .func (.func 21) #[] #[]) (A := #[(vs 4), (vs 7)]) (B := #[.agg #[.bool b8, .slice A8 n8 c8, .bool d8, .slice B8 m8 e8], (vs 7)]) [(3, some 82), (4, some 83), (7, some 86)] (fun vΦ _ => vΦ = .bool true) rfl (by kernel_rfl) (fun _ _ h => h) rfl (wanted_some 82 rfl (by rfl) (by kernel_rfl) qe3) rfl rfl (by kernel_rfl) rfl (by kernel_rfl) (by rw [qe4]) Tryz.func21 (by kernel_rfl) (by kernel_rfl) ?_
          refine ((gsame_s (b := true) (S3.qi 0 rfl) h7 (by omega) (wid_one HS3.out t5 p1))).mono ?_; rintro e w4 ⟨rfl, hk4⟩; exact ⟨_, rfl, hk4, rfl⟩
        | 9, _ =>
          have qe3 : (vs 3) = .bool true := hd 3 (cm (by kernel_rfl)); have qe8 : (vs 8) = .bool true := hd 8 (cm (by kernel_rfl))
          refine step_valg [(3, some 82), (8, some 87)] (fun vΦ _ => vΦ = .bool false) rfl (by kernel_rfl) (fun _ _ h => h) rfl (wanted_some 82 rfl (by rfl) (by kernel_rfl) qe3) fun K hK => ?_; clear hd; simp only [frD, qe3, qe8] at hK ⊢; go_simp
          exact hK _ _ (Below.refl _ _) rfl
        | 10, _ =>
          have qe3 : (vs 3) = .bool true := hd 3 (cm (by kernel_rfl)); have qe9 : (vs 9) = .bool false := hd 9 (cm (by kernel_rfl))
          refine step_val0 [(3, some 82), (9, some 88)] (fun vΦ _ => vΦ = .bool false) rfl (by kernel_rfl) rfl (fun _ _ h => h) rfl fun K hK => ?_; clear hd; simp only [frD, qe3, qe9] at hK ⊢; go_simp
          exact hK _ _ (Below.refl _ _) rfl
        | 11, _ =>
          have qe8 : (vs 8) = .bool true := hd 8 (cm (by kernel_rfl)); have qe10 : (vs 10) = .bool false := hd 10 (cm (by kernel_rfl))
          refine step_val0 [(8, some 87), (10, some 89)] (fun vΦ _ => vΦ = .bool false) rfl (by kernel_rfl) rfl (fun _ _ h => h) rfl fun K hK => ?_; clear hd; simp only [frD, qe8, qe10] at hK ⊢; go_simp
          exact hK _ _ (Below.refl _ _) rfl
        | 12, _ =>
          have qe11 : (vs 11) = .bool false := hd 11 (cm (by kernel_rfl))
          refine step_valg [(11, some 90)] (fun vΦ _ => vΦ = .agg #[.bool b7, .slice A7 n7 c7, .bool d7, .slice B7 m7 e7]) rfl (by kernel_rfl) (fun _ _ h => h) rfl (wanted_some 90 rfl (by rfl) (by kernel_rfl) qe11) fun K hK => ?_; clear hd; simp only [frD, qe11] at hK ⊢; go_simp
          exact hK _ _ (Below.refl _ _) rfl
        | 13, _ =>
          have qe11 : (vs 11) = .bool false := hd 11 (cm (by kernel_rfl))
          refine step_valg [(11, some 90)] (fun vΦ _ => vΦ = .agg #[.bool b5, .slice A5 n5 c5, .bool d5, .slice B5 m5 e5]) rfl (by kernel_rfl) (fun _ _ h => h) rfl (wanted_some 90 rfl (by rfl) (by kernel_rfl) qe11) fun K hK => ?_; clear hd; simp only [frD, qe11] at hK ⊢; go_simp
          exact hK _ _ (Below.refl _ _) rfl
        | 14, _ =>
          have qe11 : (vs 11) = .bool false := hd 11 (cm (by kernel_rfl)); have qe12 : (vs 12) = .agg #[.bool b7, .slice A7 n7 c7, .bool d7, .slice B7 m7 e7] := hd 12 (cm (by kernel_rfl)); have qe13 : (vs 13) = .agg #[.bool b5, .slice A5 n5 c5, .bool d5, .slice B5 m5 e5] := hd 13 (cm (by kernel_rfl))
          refine step_call (F := 21) (X := .func (.func 21) #[] #[]) (A := #[(vs 12), (vs 13)]) (B := #[.agg #[.bool b7, .slice A7 n7 c7, .bool d7, .slice B7 m7 e7], .agg #[.bool b5, .slice A5 n5 c5, .bool d5, .slice B5 m5 e5]]) [(11, some 90), (12, some 91), (13, some 92)] (fun vΦ _ => vΦ = .bool true) rfl (by kernel_rfl) (fun _ _ h => h) rfl (wanted_some 90 rfl (by rfl) (by kernel_rfl) qe11) rfl rfl (by kernel_rfl) rfl (by kernel_rfl) (by rw [qe12, qe13]) Tryz.func21 (by kernel_rfl) (by kernel_rfl) ?_
          refine ((gsame_s (b := true) (S3.qi 1 rfl) (S3.qi 3 rfl) (by omega) HBN.out)).mono ?_; rintro e w4 ⟨rfl, hk4⟩; exact ⟨_, rfl, hk4, rfl⟩
        | 15, _ =>
          have qe11 : (vs 11) = .bool false := hd 11 (cm (by kernel_rfl)); have qe14 : (vs 14) = .bool true := hd 14 (cm (by kernel_rfl))
          refine step_valg [(11, some 90), (14, some 93)] (fun vΦ _ => vΦ = .bool false) rfl (by kernel_rfl) (fun _ _ h => h) rfl (wanted_some 90 rfl (by rfl) (by kernel_rfl) qe11) fun K hK => ?_; clear hd; simp only [frD, qe11, qe14] at hK ⊢; go_simp
          exact hK _ _ (Below.refl _ _) rfl
        | 16, _ =>
          have qe11 : (vs 11) = .bool false := hd 11 (cm (by kernel_rfl)); have qe14 : (vs 14) = .bool true := hd 14 (cm (by kernel_rfl)); have qe15 : (vs 15) = .bool false := hd 15 (cm (by kernel_rfl))
          refine step_valg [(11, some 90), (14, some 93), (15, some 94)] (fun vΦ _ => vΦ = .bool false) rfl (by kernel_rfl) (fun _ _ h => h) rfl (wanted_some 90 rfl (by rfl) (by kernel_rfl) qe11) fun K hK => ?_; clear hd; simp only [frD, qe11, qe14, qe15] at hK ⊢; go_simp
          exact hK _ _ (Below.refl _ _) rfl
        | 17, _ =>
          have qe16 : (vs 16) = .bool false := hd 16 (cm (by kernel_rfl))
          exact step_no [(16, some 95)] rfl (by kernel_rfl) (by simp only [frD, qe16]; rfl) rfl (by simp)
        | 18, _ =>
          have qe16 : (vs 16) = .bool false := hd 16 (cm (by kernel_rfl))
          exact step_no [(16, some 95)] rfl (by kernel_rfl) (by simp only [frD, qe16]; rfl) rfl (by simp)
        | 19, _ =>
          have qe16 : (vs 16) = .bool false := hd 16 (cm (by kernel_rfl)); have qe17 : (vs 17) = undef := hd 17 (cm (by kernel_rfl)); have qe18 : (vs 18) = undef := hd 18 (cm (by kernel_rfl))
          exact step_no [(16, some 95), (17, some 96), (18, some 97)] rfl (by kernel_rfl) (by simp only [frD, qe16, qe17, qe18]; rfl) rfl (by simp)
        | 20, _ =>
          have qe16 : (vs 16) = .bool false := hd 16 (cm (by kernel_rfl)); have qe19 : (vs 19) = undef := hd 19 (cm (by kernel_rfl))
          exact step_no [(16, some 95), (19, some 98)] rfl (by kernel_rfl) (by simp only [frD, qe16, qe19]; rfl) rfl (by simp)
        | 21, _ =>
          have qe11 : (vs 11) = .bool false := hd 11 (cm (by kernel_rfl)); have qe16 : (vs 16) = .bool false := hd 16 (cm (by kernel_rfl)); have qe20 : (vs 20) = undef := hd 20 (cm (by kernel_rfl))
          refine step_valg [(11, some 90), (16, some 95), (20, some 99)] (fun vΦ _ => vΦ = .bool false) rfl (by kernel_rfl) (fun _ _ h => h) rfl (wanted_some 90 rfl (by rfl) (by kernel_rfl) qe11) fun K hK => ?_; clear hd; simp only [frD, qe11, qe16, qe20] at hK ⊢; go_simp
          exact hK _ _ (Below.refl _ _) rfl
        | 22, _ =>
          have qe11 : (vs 11) = .bool false := hd 11 (cm (by kernel_rfl)); have qe21 : (vs 21) = .bool false := hd 21 (cm (by kernel_rfl))
          refine step_val0 [(11, some 90), (21, some 100)] (fun vΦ _ => vΦ = .bool false) rfl (by kernel_rfl) rfl (fun _ _ h => h) rfl fun K hK => ?_; clear hd; simp only [frD, qe11, qe21] at hK ⊢; go_simp
          exact hK _ _ (Below.refl _ _) rfl
        | i + 23, hi => exact absurd hi (by omega)
      · intro vs W15 hk3 hΦ _
        simp only [List.drop_succ_cons, List.drop_zero]
        rw [fr_frD, show (List.range 23).map _ = [(0, some 79), (1, some 80), (2, some 81), (3, some 82), (4, some 83), (5, some 84), (6, some 85), (7, some 86), (8, some 87), (9, some 88), (10, some 89), (11, some 90), (12, some 91), (13, some 92), (14, some 93), (15, some 94), (16, some 95), (17, some 96), (18, some 97), (19, some 98), (20, some 99), (21, some 100), (22, some 101)] by kernel_rfl]
        have pa0 : (vs 0) = .agg #[.bool b8, .slice A8 n8 c8, .bool d8, .slice B8 m8 e8] := hΦ 0 (by decide)
        have pa1 : (vs 1) = .int .i64 s3 := hΦ 1 (by decide)
        have pa2 : (vs 2) = .bool true := hΦ 2 (by decide)
        have pa3 : (vs 3) = .bool true := hΦ 3 (by decide)
        have pa4 : (vs 4) = .agg #[.bool b8, .slice A8 n8 c8, .bool d8, .slice B8 m8 e8] := hΦ 4 (by decide)
        have pa5 : (vs 5) = .int .i64 k := hΦ 5 (by decide)
        have pa6 : (vs 6) = .int .i64 P := hΦ 6 (by decide)
        have pa7 : RatRep W15 (vs 7) (Rat.divInt 1 P) := hΦ 7 (by decide)
        have pa8 : (vs 8) = .bool true := hΦ 8 (by decide)
        have pa9 : (vs 9) = .bool false := hΦ 9 (by decide)
        have pa10 : (vs 10) = .bool false := hΦ 10 (by decide)
        have pa11 : (vs 11) = .bool false := hΦ 11 (by decide)
        have pa12 : (vs 12) = .agg #[.bool b7, .slice A7 n7 c7, .bool d7, .slice B7 m7 e7] := hΦ 12 (by decide)
        have pa13 : (vs 13) = .agg #[.bool b5, .slice A5 n5 c5, .bool d5, .slice B5 m5 e5] := hΦ 13 (by decide)
        have pa14 : (vs 14) = .bool true := hΦ 14 (by decide)
        have pa15 : (vs 15) = .bool false := hΦ 15 (by decide)
        have pa16 : (vs 16) = .bool false := hΦ 16 (by decide)
        have pa17 : (vs 17) = undef := hΦ 17 (by decide)
        have pa18 : (vs 18) = undef := hΦ 18 (by decide)
        have pa19 : (vs 19) = undef := hΦ 19 (by decide)
        have pa20 : (vs 20) = undef := hΦ 20 (by decide)
        have pa21 : (vs 21) = .bool false := hΦ 21 (by decide)
        have pa22 : (vs 22) = .bool false := hΦ 22 (by decide)
        clear hΦ
        simp only [frD, pa0, pa1, pa2, pa3, pa4, pa5, pa6, pa8, pa9, pa10, pa11, pa12, pa13, pa14, pa15, pa16, pa17, pa18, pa19, pa20, pa21, pa22]
        simp only [Act.put, List.setIfInBounds_toArray, List.set_cons_zero, List.set_cons_succ]
        clear pa0 pa1 pa2 pa3 pa4 pa5 pa6 pa8 pa9 pa10 pa11 pa12 pa13 pa14 pa15 pa16 pa17 pa18 pa19 pa20 pa21 pa22
        generalize vs 7 = Upa7 at pa7 ⊢
        replace S := S.drew.below hk3
        clear pa7
        clear hk3
        have r2_0 := S.c 3 0 rfl rfl
        have r2_1 := S.c 3 1 rfl rfl
        have r2_2 := S.c 3 2 rfl rfl
        have r2_3 := S.c 3 3 rfl rfl
        go_wp2_with fail
        refine ((rcode_eq (fdown_num (k := k) ((S.qi 3 rfl).num (by omega)) (by omega) (ht.keep S.k)) HC.out Q4.out)).mono ?_
        rintro e W16 ⟨U16, rfl, hp, hk⟩
        rw [if_pos rfl] at hp
        obtain ⟨b9, A9, n9, c9, d9, B9, m9, e9, rfl⟩ := hp.open_
        replace S := (S.below hk).addQ hp
        clear hk hp
        clear r2_0 r2_1 r2_2 r2_3
        go_upto_region 14 with fail
        replace S := (S.alloc 28 [.bool b9, .slice A9 n9 c9, .bool d9, .slice B9 m9 e9])
        obtain ⟨W17, eW, S⟩ := S.pack
        rw [eW]
        clear eW
        generalize W16.heap.size = P5 at *
        have r2_0 := S.c 4 0 rfl rfl
        have r2_1 := S.c 4 1 rfl rfl
        have r2_2 := S.c 4 2 rfl rfl
        have r2_3 := S.c 4 3 rfl rfl
        go_wp2_with fail
        refine ((rcode_eq (fup_num (k := k) ((S.qi 4 rfl).num (by omega)) (by omega) (ht.keep S.k)) HC.out Q5.out)).mono ?_
        rintro e W18 ⟨U18, rfl, hp, hk⟩
        rw [if_pos rfl] at hp
        obtain ⟨b10, A10, n10, c10, d10, B10, m10, e10, rfl⟩ := hp.open_
        replace S := (S.below hk).addQ hp
        clear hk hp
        clear r2_0 r2_1 r2_2 r2_3
        go_upto_region 15 with fail
        replace S := (S.alloc 28 [.bool b10, .slice A10 n10 c10, .bool d10, .slice B10 m10 e10])
        obtain ⟨W19, eW, S⟩ := S.pack
        rw [eW]
        clear eW
        generalize W18.heap.size = P6 at *
        have r2_0 := S.c 5 0 rfl rfl
        have r2_1 := S.c 5 1 rfl rfl
        have r2_2 := S.c 5 2 rfl rfl
        have r2_3 := S.c 5 3 rfl rfl
        have r6_0 := S.c 1 0 rfl rfl
        have r6_1 := S.c 1 1 rfl rfl
        have r6_2 := S.c 1 2 rfl rfl
        have r6_3 := S.c 1 3 rfl rfl
        go_wp2_with fail
        refine ((gsame_s (b := true) (S.qi 1 rfl) (S.qi 5 rfl) (by omega) (decide_eq_true rfl))).mono ?_
        rintro e W20 ⟨rfl, hk⟩
        replace S := S.below hk
        clear hk
        clear r2_0 r2_1 r2_2 r2_3 r6_0 r6_1 r6_2 r6_3
        have r2_0 := S.c 5 0 rfl rfl
        have r2_1 := S.c 5 1 rfl rfl
        have r2_2 := S.c 5 2 rfl rfl
        have r2_3 := S.c 5 3 rfl rfl
        have r7_0 := S.c 0 0 rfl rfl
        have r7_1 := S.c 0 1 rfl rfl
        have r7_2 := S.c 0 2 rfl rfl
        have r7_3 := S.c 0 3 rfl rfl
        go_wp2_with fail
        refine ((gsame_s (b := true) (S.qi 0 rfl) (S.qi 5 rfl) (by omega) (decide_eq_true rfl))).mono ?_
        rintro e W21 ⟨rfl, hk⟩
        replace S := S.below hk
        clear hk
        clear r2_0 r2_1 r2_2 r2_3 r7_0 r7_1 r7_2 r7_3
        have r1_0 := S.c 6 0 rfl rfl
        have r1_1 := S.c 6 1 rfl rfl
        have r1_2 := S.c 6 2 rfl rfl
        have r1_3 := S.c 6 3 rfl rfl
        go_wp2_with fail
        refine ((rcode_eq (fdown_num (k := k) ((S.li 6 rfl).num) (by omega) (ht.keep S.k)) HC.out Q6.out)).mono ?_
        rintro e W22 ⟨U22, rfl, hp, hk⟩
        rw [if_pos rfl] at hp
        obtain ⟨b11, A11, n11, c11, d11, B11, m11, e11, rfl⟩ := hp.open_
        replace S := (S.below hk).addQ hp
        clear hk hp
        clear r1_0 r1_1 r1_2 r1_3
        go_upto_region 18 with fail
        replace S := (S.alloc 28 [.bool b11, .slice A11 n11 c11, .bool d11, .slice B11 m11 e11])
        obtain ⟨W23, eW, S⟩ := S.pack
        rw [eW]
        clear eW
        generalize W22.heap.size = P7 at *
        have r1_0 := S.c 7 0 rfl rfl
        have r1_1 := S.c 7 1 rfl rfl
        have r1_2 := S.c 7 2 rfl rfl
        have r1_3 := S.c 7 3 rfl rfl
        go_wp2_with fail
        refine ((rcode_eq (fnear_num (k := k) ((S.li 7 rfl).num) (by omega) (ht.keep S.k)) HC.out Q7.out)).mono ?_
        rintro e W24 ⟨U24, rfl, hp, hk⟩
        rw [if_pos rfl] at hp
        obtain ⟨b12, A12, n12, c12, d12, B12, m12, e12, rfl⟩ := hp.open_
        replace S := (S.below hk).addQ hp
        clear hk hp
        clear r1_0 r1_1 r1_2 r1_3
        go_upto_region 19 with fail
        replace S := (S.alloc 28 [.bool b12, .slice A12 n12 c12, .bool d12, .slice B12 m12 e12])
        obtain ⟨W25, eW, S⟩ := S.pack
        rw [eW]
        clear eW
        generalize W24.heap.size = P8 at *
        have r0_0 := S.c 9 0 rfl rfl
        have r0_1 := S.c 9 1 rfl rfl
        have r0_2 := S.c 9 2 rfl rfl
        have r0_3 := S.c 9 3 rfl rfl
        have r1_0 := S.c 8 0 rfl rfl
        have r1_1 := S.c 8 1 rfl rfl
        have r1_2 := S.c 8 2 rfl rfl
        have r1_3 := S.c 8 3 rfl rfl
        go_wp2_with fail
        refine ((fcompare_s ((S.li 9 rfl).num) ((S.li 8 rfl).num) HS4.out)).mono ?_
        rintro e W26 ⟨rfl, hk⟩
        replace S := S.below hk
        clear hk
        clear r0_0 r0_1 r0_2 r0_3 r1_0 r1_1 r1_2 r1_3
        rcases Bool.eq_false_or_eq_true (decide (0 < s4)) with t7 | t7
        · skip
          go_wp2
          go_ret
          first | exact ⟨rfl, S.k⟩ | exact ⟨by rw [ord_nr p1 HS4.out HS6.out t7] <;> rfl, S.k⟩
        · skip
          have t8 : decide (s5 ≤ 0) = true := by exact ord_dn p1 HS4.out HS5.out t7
          have r2_0 := S.c 7 0 rfl rfl
          have r2_1 := S.c 7 1 rfl rfl
          have r2_2 := S.c 7 2 rfl rfl
          have r2_3 := S.c 7 3 rfl rfl
          have r8_0 := S.c 1 0 rfl rfl
          have r8_1 := S.c 1 1 rfl rfl
          have r8_2 := S.c 1 2 rfl rfl
          have r8_3 := S.c 1 3 rfl rfl
          go_wp2_with fail
          refine ((fcompare_s ((S.qi 7 rfl).num (by omega)) ((S.qi 1 rfl).num (by omega)) HS5.out)).mono ?_
          rintro e W27 ⟨rfl, hk⟩
          replace S := S.below hk
          clear hk
          clear r2_0 r2_1 r2_2 r2_3 r8_0 r8_1 r8_2 r8_3
          have r4_0 := S.c 5 0 rfl rfl
          have r4_1 := S.c 5 1 rfl rfl
          have r4_2 := S.c 5 2 rfl rfl
          have r4_3 := S.c 5 3 rfl rfl
          have r9_0 := S.c 0 0 rfl rfl
          have r9_1 := S.c 0 1 rfl rfl
          have r9_2 := S.c 0 2 rfl rfl
          have r9_3 := S.c 0 3 rfl rfl
          go_wp2_with fail
          refine ((fcompare_s ((S.qi 5 rfl).num (by omega)) ((S.qi 0 rfl).num (by omega)) HS6.out)).mono ?_
          rintro e W28 ⟨rfl, hk⟩
          replace S := S.below hk
          clear hk
          clear r4_0 r4_1 r4_2 r4_3 r9_0 r9_1 r9_2 r9_3
          go_wp2
          go_ret
          first | exact ⟨rfl, S.k⟩ | exact ⟨by rw [ord_nr p1 HS4.out HS6.out t7] <;> rfl, S.k⟩
    · skip
      refine wp_region_steps (m := 23) rfl (by kernel_rfl) (fun iΦ vΦ wΦ => (List.getD [fun vΦ _ => vΦ = .agg #[.bool b8, .slice A8 n8 c8, .bool d8, .slice B8 m8 e8], fun vΦ _ => vΦ = .int .i64 s3, fun vΦ _ => vΦ = .bool true, fun vΦ _ => vΦ = .bool true, fun vΦ _ => vΦ = .agg #[.bool b8, .slice A8 n8 c8, .bool d8, .slice B8 m8 e8], fun vΦ _ => vΦ = .int .i64 k, fun vΦ _ => vΦ = .int .i64 P, fun vΦ wΦ => RatRep wΦ vΦ (Rat.divInt 1 P), fun vΦ _ => vΦ = .bool true, fun vΦ _ => vΦ = .bool false, fun vΦ _ => vΦ = .bool false, fun vΦ _ => vΦ = .bool false, fun vΦ _ => vΦ = .agg #[.bool b7, .slice A7 n7 c7, .bool d7, .slice B7 m7 e7], fun vΦ _ => vΦ = .agg #[.bool b5, .slice A5 n5 c5, .bool d5, .slice B5 m5 e5], fun vΦ _ => vΦ = .bool false, fun vΦ _ => vΦ = .bool true, fun vΦ _ => vΦ = .bool true, fun vΦ _ => vΦ = .agg #[.bool b7, .slice A7 n7 c7, .bool d7, .slice B7 m7 e7], fun vΦ _ => vΦ = .agg #[.bool b6, .slice A6 n6 c6, .bool d6, .slice B6 m6 e6], fun vΦ _ => vΦ = .bool true, fun vΦ _ => vΦ = .bool false, fun vΦ _ => vΦ = .bool false, fun vΦ _ => vΦ = .bool false] iΦ (fun _ _ => True)) vΦ wΦ) [] ?_ ?_ ?_
      · intro i v w w' _ h hk
        refine stabL_get ?_ i v w w' h hk
        exact stab_cons st_e (stab_cons st_e (stab_cons st_e (stab_cons st_e (stab_cons st_e (stab_cons st_e (stab_cons st_e (stab_cons st_q (stab_cons st_e (stab_cons st_e (stab_cons st_e (stab_cons st_e (stab_cons st_e (stab_cons st_e (stab_cons st_e (stab_cons st_e (stab_cons st_e (stab_cons st_e (stab_cons st_e (stab_cons st_e (stab_cons st_e (stab_cons st_e (stab_cons st_e stab_nil))))))))))))))))))))))
      · intro i hi vs w3 hk3 hd
        have S3 := S.drew.below hk3
        have a0 := S3.c 3 0 rfl rfl
        have a1 := S3.c 3 1 rfl rfl
        have a2 := S3.c 3 2 rfl rfl
        have a3 := S3.c 3 3 rfl rfl
        have a4 := S3.c 2 0 rfl rfl
        have a5 := S3.c 2 1 rfl rfl
        have a6 := S3.c 2 2 rfl rfl
        have a7 := S3.c 2 3 rfl rfl
        have a8 := S3.c 1 0 rfl rfl
        have a9 := S3.c 1 1 rfl rfl
        have a10 := S3.c 1 2 rfl rfl
        have a11 := S3.c 1 3 rfl rfl
        have a12 := S3.c 0 0 rfl rfl
        have a13 := S3.c 0 1 rfl rfl
        have a14 := S3.c 0 2 rfl rfl
        have a15 := S3.c 0 3 rfl rfl
        match i, hi with
        | 0, _ =>
          refine step_val0 [] (fun vΦ _ => vΦ = .agg #[.bool b8, .slice A8 n8 c8, .bool d8, .slice B8 m8 e8]) rfl (by kernel_rfl) rfl (fun _ _ h => h) rfl fun K hK => ?_; clear hd; simp only [frD] at hK ⊢; go_simp
          exact hK _ _ (Below.refl _ _) rfl
        | 1, _ =>
          have qe0 : (vs 0) = .agg #[.bool b8, .slice A8 n8 c8, .bool d8, .slice B8 m8 e8] := hd 0 (cm (by kernel_rfl))
          refine step_call (F := 33) (X := .func (.func 33) #[] #[]) (A := #[(vs 0)]) (B := #[.agg #[.bool b8, .slice A8 n8 c8, .bool d8, .slice B8 m8 e8]]) [(0, some 79)] (fun vΦ _ => vΦ = .int .i64 s3) rfl (by kernel_rfl) (fun _ _ h => h) rfl (wanted_none rfl) rfl rfl (by kernel_rfl) rfl (by kernel_rfl) (by rw [qe0]) Tryz.func33 (by kernel_rfl) (by kernel_rfl) ?_
          refine ((fsign_s ((S3.qi 0 rfl).num (by omega)) HS3.out)).mono ?_; rintro e w4 ⟨rfl, hk4⟩; exact ⟨_, rfl, hk4, rfl⟩
        | 2, _ =>
          have qe1 : (vs 1) = .int .i64 s3 := hd 1 (cm (by kernel_rfl))
          refine step_val0 [(1, some 80)] (fun vΦ _ => vΦ = .bool true) rfl (by kernel_rfl) rfl (fun _ _ h => h) rfl fun K hK => ?_; clear hd; simp only [frD, qe1] at hK ⊢; go_simp
          exact hK _ _ (Below.refl _ _) rfl
        | 3, _ =>
          have qe1 : (vs 1) = .int .i64 s3 := hd 1 (cm (by kernel_rfl)); have qe2 : (vs 2) = .bool true := hd 2 (cm (by kernel_rfl))
          refine step_val0 [(1, some 80), (2, some 81)] (fun vΦ _ => vΦ = .bool true) rfl (by kernel_rfl) rfl (fun _ _ h => h) rfl fun K hK => ?_; clear hd; simp only [frD, qe1, qe2] at hK ⊢; go_simp
          exact hK _ _ (Below.refl _ _) rfl
        | 4, _ =>
          have qe3 : (vs 3) = .bool true := hd 3 (cm (by kernel_rfl))
          refine step_valg [(3, some 82)] (fun vΦ _ => vΦ = .agg #[.bool b8, .slice A8 n8 c8, .bool d8, .slice B8 m8 e8]) rfl (by kernel_rfl) (fun _ _ h => h) rfl (wanted_some 82 rfl (by rfl) (by kernel_rfl) qe3) fun K hK => ?_; clear hd; simp only [frD, qe3] at hK ⊢; go_simp
          exact hK _ _ (Below.refl _ _) rfl
        | 5, _ =>
          have qe3 : (vs 3) = .bool true := hd 3 (cm (by kernel_rfl))
          refine step_valg [(3, some 82)] (fun vΦ _ => vΦ = .int .i64 k) rfl (by kernel_rfl) (fun _ _ h => h) rfl (wanted_some 82 rfl (by rfl) (by kernel_rfl) qe3) fun K hK => ?_; clear hd; simp only [frD, qe3] at hK ⊢; go_simp
          exact hK _ _ (Below.refl _ _) rfl
        | 6, _ =>
          have qe3 : (vs 3) = .bool true := hd 3 (cm (by kernel_rfl)); have qe5 : (vs 5) = .int .i64 k := hd 5 (cm (by kernel_rfl))
          refine step_valg [(3, some 82), (5, some 84)] (fun vΦ _ => vΦ = .int .i64 P) rfl (by kernel_rfl) (fun _ _ h => h) rfl (wanted_some 82 rfl (by rfl) (by kernel_rfl) qe3) fun K hK => ?_; clear hd; simp only [frD, qe3, qe5] at hK ⊢; go_simp
          exact hK _ _ (Below.refl _ _) rfl
        | 7, _ =>
          have qe3 : (vs 3) = .bool true := hd 3 (cm (by kernel_rfl)); have qe6 : (vs 6) = .int .i64 P := hd 6 (cm (by kernel_rfl))
          refine step_call (F := 42) (X := .func (.func 42) #[] #[]) (A := #[.int .i64 1, (vs 6)]) (B := #[.int .i64 1, .int .i64 P]) [(3, some 82), (6, some 85)] (fun vΦ wΦ => RatRep wΦ vΦ (Rat.divInt 1 P)) rfl (by kernel_rfl) (fun _ _ h => h) rfl (wanted_some 82 rfl (by rfl) (by kernel_rfl) qe3) rfl rfl (by kernel_rfl) rfl (by kernel_rfl) (by rw [qe6]) Tryz.func42 (by kernel_rfl) (by kernel_rfl) ?_
          refine ((lof_num 1 P (by omega) (by omega) (by omega) (by omega) (by omega))).mono ?_; rintro e w4 ⟨U, rfl, hr, hk4⟩; exact ⟨_, rfl, hk4, hr⟩
        | 8, _ =>
          have qe3 : (vs 3) = .bool true := hd 3 (cm (by kernel_rfl)); have qe4 : (vs 4) = .agg #[.bool b8, .slice A8 n8 c8, .bool d8, .slice B8 m8 e8] := hd 4 (cm (by kernel_rfl)); have h7 : RatRep w3 (vs 7) (Rat.divInt 1 P) := hd 7 (cm (by kernel_rfl))
          refine step_call (F := 21) (X := .func (.func 21) #[] #[]) (A := #[(vs 4), (vs 7)]) (B := #[.agg #[.bool b8, .slice A8 n8 c8, .bool d8, .slice B8 m8 e8], (vs 7)]) [(3, some 82), (4, some 83), (7, some 86)] (fun vΦ _ => vΦ = .bool true) rfl (by kernel_rfl) (fun _ _ h => h) rfl (wanted_some 82 rfl (by rfl) (by kernel_rfl) qe3) rfl rfl (by kernel_rfl) rfl (by kernel_rfl) (by rw [qe4]) Tryz.func21 (by kernel_rfl) (by kernel_rfl) ?_
          refine ((gsame_s (b := true) (S3.qi 0 rfl) h7 (by omega) (wid_one HS3.out t5 p1))).mono ?_; rintro e w4 ⟨rfl, hk4⟩; exact ⟨_, rfl, hk4, rfl⟩
        | 9, _ =>
          have qe3 : (vs 3) = .bool true := hd 3 (cm (by kernel_rfl)); have qe8 : (vs 8) = .bool true := hd 8 (cm (by kernel_rfl))
          refine step_valg [(3, some 82), (8, some 87)] (fun vΦ _ => vΦ = .bool false) rfl (by kernel_rfl) (fun _ _ h => h) rfl (wanted_some 82 rfl (by rfl) (by kernel_rfl) qe3) fun K hK => ?_; clear hd; simp only [frD, qe3, qe8] at hK ⊢; go_simp
          exact hK _ _ (Below.refl _ _) rfl
        | 10, _ =>
          have qe3 : (vs 3) = .bool true := hd 3 (cm (by kernel_rfl)); have qe9 : (vs 9) = .bool false := hd 9 (cm (by kernel_rfl))
          refine step_val0 [(3, some 82), (9, some 88)] (fun vΦ _ => vΦ = .bool false) rfl (by kernel_rfl) rfl (fun _ _ h => h) rfl fun K hK => ?_; clear hd; simp only [frD, qe3, qe9] at hK ⊢; go_simp
          exact hK _ _ (Below.refl _ _) rfl
        | 11, _ =>
          have qe8 : (vs 8) = .bool true := hd 8 (cm (by kernel_rfl)); have qe10 : (vs 10) = .bool false := hd 10 (cm (by kernel_rfl))
          refine step_val0 [(8, some 87), (10, some 89)] (fun vΦ _ => vΦ = .bool false) rfl (by kernel_rfl) rfl (fun _ _ h => h) rfl fun K hK => ?_; clear hd; simp only [frD, qe8, qe10] at hK ⊢; go_simp
          exact hK _ _ (Below.refl _ _) rfl
        | 12, _ =>
          have qe11 : (vs 11) = .bool false := hd 11 (cm (by kernel_rfl))
          refine step_valg [(11, some 90)] (fun vΦ _ => vΦ = .agg #[.bool b7, .slice A7 n7 c7, .bool d7, .slice B7 m7 e7]) rfl (by kernel_rfl) (fun _ _ h => h) rfl (wanted_some 90 rfl (by rfl) (by kernel_rfl) qe11) fun K hK => ?_; clear hd; simp only [frD, qe11] at hK ⊢; go_simp
          exact hK _ _ (Below.refl _ _) rfl
        | 13, _ =>
          have qe11 : (vs 11) = .bool false := hd 11 (cm (by kernel_rfl))
          refine step_valg [(11, some 90)] (fun vΦ _ => vΦ = .agg #[.bool b5, .slice A5 n5 c5, .bool d5, .slice B5 m5 e5]) rfl (by kernel_rfl) (fun _ _ h => h) rfl (wanted_some 90 rfl (by rfl) (by kernel_rfl) qe11) fun K hK => ?_; clear hd; simp only [frD, qe11] at hK ⊢; go_simp
          exact hK _ _ (Below.refl _ _) rfl
        | 14, _ =>
          have qe11 : (vs 11) = .bool false := hd 11 (cm (by kernel_rfl)); have qe12 : (vs 12) = .agg #[.bool b7, .slice A7 n7 c7, .bool d7, .slice B7 m7 e7] := hd 12 (cm (by kernel_rfl)); have qe13 : (vs 13) = .agg #[.bool b5, .slice A5 n5 c5, .bool d5, .slice B5 m5 e5] := hd 13 (cm (by kernel_rfl))
          refine step_call (F := 21) (X := .func (.func 21) #[] #[]) (A := #[(vs 12), (vs 13)]) (B := #[.agg #[.bool b7, .slice A7 n7 c7, .bool d7, .slice B7 m7 e7], .agg #[.bool b5, .slice A5 n5 c5, .bool d5, .slice B5 m5 e5]]) [(11, some 90), (12, some 91), (13, some 92)] (fun vΦ _ => vΦ = .bool false) rfl (by kernel_rfl) (fun _ _ h => h) rfl (wanted_some 90 rfl (by rfl) (by kernel_rfl) qe11) rfl rfl (by kernel_rfl) rfl (by kernel_rfl) (by rw [qe12, qe13]) Tryz.func21 (by kernel_rfl) (by kernel_rfl) ?_
          refine ((gsame_s (b := false) (S3.qi 1 rfl) (S3.qi 3 rfl) (by omega) HBN.out)).mono ?_; rintro e w4 ⟨rfl, hk4⟩; exact ⟨_, rfl, hk4, rfl⟩
        | 15, _ =>
          have qe11 : (vs 11) = .bool false := hd 11 (cm (by kernel_rfl)); have qe14 : (vs 14) = .bool false := hd 14 (cm (by kernel_rfl))
          refine step_valg [(11, some 90), (14, some 93)] (fun vΦ _ => vΦ = .bool true) rfl (by kernel_rfl) (fun _ _ h => h) rfl (wanted_some 90 rfl (by rfl) (by kernel_rfl) qe11) fun K hK => ?_; clear hd; simp only [frD, qe11, qe14] at hK ⊢; go_simp
          exact hK _ _ (Below.refl _ _) rfl
        | 16, _ =>
          have qe11 : (vs 11) = .bool false := hd 11 (cm (by kernel_rfl)); have qe14 : (vs 14) = .bool false := hd 14 (cm (by kernel_rfl)); have qe15 : (vs 15) = .bool true := hd 15 (cm (by kernel_rfl))
          refine step_valg [(11, some 90), (14, some 93), (15, some 94)] (fun vΦ _ => vΦ = .bool true) rfl (by kernel_rfl) (fun _ _ h => h) rfl (wanted_some 90 rfl (by rfl) (by kernel_rfl) qe11) fun K hK => ?_; clear hd; simp only [frD, qe11, qe14, qe15] at hK ⊢; go_simp
          exact hK _ _ (Below.refl _ _) rfl
        | 17, _ =>
          have qe16 : (vs 16) = .bool true := hd 16 (cm (by kernel_rfl))
          refine step_valg [(16, some 95)] (fun vΦ _ => vΦ = .agg #[.bool b7, .slice A7 n7 c7, .bool d7, .slice B7 m7 e7]) rfl (by kernel_rfl) (fun _ _ h => h) rfl (wanted_some 95 rfl (by rfl) (by kernel_rfl) qe16) fun K hK => ?_; clear hd; simp only [frD, qe16] at hK ⊢; go_simp
          exact hK _ _ (Below.refl _ _) rfl
        | 18, _ =>
          have qe16 : (vs 16) = .bool true := hd 16 (cm (by kernel_rfl))
          refine step_valg [(16, some 95)] (fun vΦ _ => vΦ = .agg #[.bool b6, .slice A6 n6 c6, .bool d6, .slice B6 m6 e6]) rfl (by kernel_rfl) (fun _ _ h => h) rfl (wanted_some 95 rfl (by rfl) (by kernel_rfl) qe16) fun K hK => ?_; clear hd; simp only [frD, qe16] at hK ⊢; go_simp
          exact hK _ _ (Below.refl _ _) rfl
        | 19, _ =>
          have qe16 : (vs 16) = .bool true := hd 16 (cm (by kernel_rfl)); have qe17 : (vs 17) = .agg #[.bool b7, .slice A7 n7 c7, .bool d7, .slice B7 m7 e7] := hd 17 (cm (by kernel_rfl)); have qe18 : (vs 18) = .agg #[.bool b6, .slice A6 n6 c6, .bool d6, .slice B6 m6 e6] := hd 18 (cm (by kernel_rfl))
          refine step_call (F := 21) (X := .func (.func 21) #[] #[]) (A := #[(vs 17), (vs 18)]) (B := #[.agg #[.bool b7, .slice A7 n7 c7, .bool d7, .slice B7 m7 e7], .agg #[.bool b6, .slice A6 n6 c6, .bool d6, .slice B6 m6 e6]]) [(16, some 95), (17, some 96), (18, some 97)] (fun vΦ _ => vΦ = .bool true) rfl (by kernel_rfl) (fun _ _ h => h) rfl (wanted_some 95 rfl (by rfl) (by kernel_rfl) qe16) rfl rfl (by kernel_rfl) rfl (by kernel_rfl) (by rw [qe17, qe18]) Tryz.func21 (by kernel_rfl) (by kernel_rfl) ?_
          refine ((gsame_s (b := true) (S3.qi 1 rfl) (S3.qi 2 rfl) (by omega) (nr_other HBN.out rfl))).mono ?_; rintro e w4 ⟨rfl, hk4⟩; exact ⟨_, rfl, hk4, rfl⟩
        | 20, _ =>
          have qe16 : (vs 16) = .bool true := hd 16 (cm (by kernel_rfl)); have qe19 : (vs 19) = .bool true := hd 19 (cm (by kernel_rfl))
          refine step_valg [(16, some 95), (19, some 98)] (fun vΦ _ => vΦ = .bool false) rfl (by kernel_rfl) (fun _ _ h => h) rfl (wanted_some 95 rfl (by rfl) (by kernel_rfl) qe16) fun K hK => ?_; clear hd; simp only [frD, qe16, qe19] at hK ⊢; go_simp
          exact hK _ _ (Below.refl _ _) rfl
        | 21, _ =>
          have qe11 : (vs 11) = .bool false := hd 11 (cm (by kernel_rfl)); have qe16 : (vs 16) = .bool true := hd 16 (cm (by kernel_rfl)); have qe20 : (vs 20) = .bool false := hd 20 (cm (by kernel_rfl))
          refine step_valg [(11, some 90), (16, some 95), (20, some 99)] (fun vΦ _ => vΦ = .bool false) rfl (by kernel_rfl) (fun _ _ h => h) rfl (wanted_some 90 rfl (by rfl) (by kernel_rfl) qe11) fun K hK => ?_; clear hd; simp only [frD, qe11, qe16, qe20] at hK ⊢; go_simp
          exact hK _ _ (Below.refl _ _) rfl
        | 22, _ =>
          have qe11 : (vs 11) = .bool false := hd 11 (cm (by kernel_rfl)); have qe21 : (vs 21) = .bool false := hd 21 (cm (by kernel_rfl))
          refine step_val0 [(11, some 90), (21, some 100)] (fun vΦ _ => vΦ = .bool false) rfl (by kernel_rfl) rfl (fun _ _ h => h) rfl fun K hK => ?_; clear hd; simp only [frD, qe11, qe21] at hK ⊢; go_simp
          exact hK _ _ (Below.refl _ _) rfl
        | i + 23, hi => exact absurd hi (by omega)
      · intro vs W15 hk3 hΦ _
        simp only [List.drop_succ_cons, List.drop_zero]
        rw [fr_frD, show (List.range 23).map _ = [(0, some 79), (1, some 80), (2, some 81), (3, some 82), (4, some 83), (5, some 84), (6, some 85), (7, some 86), (8, some 87), (9, some 88), (10, some 89), (11, some 90), (12, some 91), (13, some 92), (14, some 93), (15, some 94), (16, some 95), (17, some 96), (18, some 97), (19, some 98), (20, some 99), (21, some 100), (22, some 101)] by kernel_rfl]
        have pa0 : (vs 0) = .agg #[.bool b8, .slice A8 n8 c8, .bool d8, .slice B8 m8 e8] := hΦ 0 (by decide)
        have pa1 : (vs 1) = .int .i64 s3 := hΦ 1 (by decide)
        have pa2 : (vs 2) = .bool true := hΦ 2 (by decide)
        have pa3 : (vs 3) = .bool true := hΦ 3 (by decide)
        have pa4 : (vs 4) = .agg #[.bool b8, .slice A8 n8 c8, .bool d8, .slice B8 m8 e8] := hΦ 4 (by decide)
        have pa5 : (vs 5) = .int .i64 k := hΦ 5 (by decide)
        have pa6 : (vs 6) = .int .i64 P := hΦ 6 (by decide)
        have pa7 : RatRep W15 (vs 7) (Rat.divInt 1 P) := hΦ 7 (by decide)
        have pa8 : (vs 8) = .bool true := hΦ 8 (by decide)
        have pa9 : (vs 9) = .bool false := hΦ 9 (by decide)
        have pa10 : (vs 10) = .bool false := hΦ 10 (by decide)
        have pa11 : (vs 11) = .bool false := hΦ 11 (by decide)
        have pa12 : (vs 12) = .agg #[.bool b7, .slice A7 n7 c7, .bool d7, .slice B7 m7 e7] := hΦ 12 (by decide)
        have pa13 : (vs 13) = .agg #[.bool b5, .slice A5 n5 c5, .bool d5, .slice B5 m5 e5] := hΦ 13 (by decide)
        have pa14 : (vs 14) = .bool false := hΦ 14 (by decide)
        have pa15 : (vs 15) = .bool true := hΦ 15 (by decide)
        have pa16 : (vs 16) = .bool true := hΦ 16 (by decide)
        have pa17 : (vs 17) = .agg #[.bool b7, .slice A7 n7 c7, .bool d7, .slice B7 m7 e7] := hΦ 17 (by decide)
        have pa18 : (vs 18) = .agg #[.bool b6, .slice A6 n6 c6, .bool d6, .slice B6 m6 e6] := hΦ 18 (by decide)
        have pa19 : (vs 19) = .bool true := hΦ 19 (by decide)
        have pa20 : (vs 20) = .bool false := hΦ 20 (by decide)
        have pa21 : (vs 21) = .bool false := hΦ 21 (by decide)
        have pa22 : (vs 22) = .bool false := hΦ 22 (by decide)
        clear hΦ
        simp only [frD, pa0, pa1, pa2, pa3, pa4, pa5, pa6, pa8, pa9, pa10, pa11, pa12, pa13, pa14, pa15, pa16, pa17, pa18, pa19, pa20, pa21, pa22]
        simp only [Act.put, List.setIfInBounds_toArray, List.set_cons_zero, List.set_cons_succ]
        clear pa0 pa1 pa2 pa3 pa4 pa5 pa6 pa8 pa9 pa10 pa11 pa12 pa13 pa14 pa15 pa16 pa17 pa18 pa19 pa20 pa21 pa22
        generalize vs 7 = Upa7 at pa7 ⊢
        replace S := S.drew.below hk3
        clear pa7
        clear hk3
        have r2_0 := S.c 3 0 rfl rfl
        have r2_1 := S.c 3 1 rfl rfl
        have r2_2 := S.c 3 2 rfl rfl
        have r2_3 := S.c 3 3 rfl rfl
        go_wp2_with fail
        refine ((rcode_eq (fdown_num (k := k) ((S.qi 3 rfl).num (by omega)) (by omega) (ht.keep S.k)) HC.out Q4.out)).mono ?_
        rintro e W16 ⟨U16, rfl, hp, hk⟩
        rw [if_pos rfl] at hp
        obtain ⟨b9, A9, n9, c9, d9, B9, m9, e9, rfl⟩ := hp.open_
        replace S := (S.below hk).addQ hp
        clear hk hp
        clear r2_0 r2_1 r2_2 r2_3
        go_upto_region 14 with fail
        replace S := (S.alloc 28 [.bool b9, .slice A9 n9 c9, .bool d9, .slice B9 m9 e9])
        obtain ⟨W17, eW, S⟩ := S.pack
        rw [eW]
        clear eW
        generalize W16.heap.size = P5 at *
        have r2_0 := S.c 4 0 rfl rfl
        have r2_1 := S.c 4 1 rfl rfl
        have r2_2 := S.c 4 2 rfl rfl
        have r2_3 := S.c 4 3 rfl rfl
        go_wp2_with fail
        refine ((rcode_eq (fup_num (k := k) ((S.qi 4 rfl).num (by omega)) (by omega) (ht.keep S.k)) HC.out Q5.out)).mono ?_
        rintro e W18 ⟨U18, rfl, hp, hk⟩
        rw [if_pos rfl] at hp
        obtain ⟨b10, A10, n10, c10, d10, B10, m10, e10, rfl⟩ := hp.open_
        replace S := (S.below hk).addQ hp
        clear hk hp
        clear r2_0 r2_1 r2_2 r2_3
        go_upto_region 15 with fail
        replace S := (S.alloc 28 [.bool b10, .slice A10 n10 c10, .bool d10, .slice B10 m10 e10])
        obtain ⟨W19, eW, S⟩ := S.pack
        rw [eW]
        clear eW
        generalize W18.heap.size = P6 at *
        have r2_0 := S.c 5 0 rfl rfl
        have r2_1 := S.c 5 1 rfl rfl
        have r2_2 := S.c 5 2 rfl rfl
        have r2_3 := S.c 5 3 rfl rfl
        have r6_0 := S.c 1 0 rfl rfl
        have r6_1 := S.c 1 1 rfl rfl
        have r6_2 := S.c 1 2 rfl rfl
        have r6_3 := S.c 1 3 rfl rfl
        go_wp2_with fail
        refine ((gsame_s (b := true) (S.qi 1 rfl) (S.qi 5 rfl) (by omega) (decide_eq_true rfl))).mono ?_
        rintro e W20 ⟨rfl, hk⟩
        replace S := S.below hk
        clear hk
        clear r2_0 r2_1 r2_2 r2_3 r6_0 r6_1 r6_2 r6_3
        have r2_0 := S.c 5 0 rfl rfl
        have r2_1 := S.c 5 1 rfl rfl
        have r2_2 := S.c 5 2 rfl rfl
        have r2_3 := S.c 5 3 rfl rfl
        have r7_0 := S.c 0 0 rfl rfl
        have r7_1 := S.c 0 1 rfl rfl
        have r7_2 := S.c 0 2 rfl rfl
        have r7_3 := S.c 0 3 rfl rfl
        go_wp2_with fail
        refine ((gsame_s (b := true) (S.qi 0 rfl) (S.qi 5 rfl) (by omega) (decide_eq_true rfl))).mono ?_
        rintro e W21 ⟨rfl, hk⟩
        replace S := S.below hk
        clear hk
        clear r2_0 r2_1 r2_2 r2_3 r7_0 r7_1 r7_2 r7_3
        have r1_0 := S.c 6 0 rfl rfl
        have r1_1 := S.c 6 1 rfl rfl
        have r1_2 := S.c 6 2 rfl rfl
        have r1_3 := S.c 6 3 rfl rfl
        go_wp2_with fail
        refine ((rcode_eq (fdown_num (k := k) ((S.li 6 rfl).num) (by omega) (ht.keep S.k)) HC.out Q6.out)).mono ?_
        rintro e W22 ⟨U22, rfl, hp, hk⟩
        rw [if_pos rfl] at hp
        obtain ⟨b11, A11, n11, c11, d11, B11, m11, e11, rfl⟩ := hp.open_
        replace S := (S.below hk).addQ hp
        clear hk hp
        clear r1_0 r1_1 r1_2 r1_3
        go_upto_region 18 with fail
        replace S := (S.alloc 28 [.bool b11, .slice A11 n11 c11, .bool d11, .slice B11 m11 e11])
        obtain ⟨W23, eW, S⟩ := S.pack
        rw [eW]
        clear eW
        generalize W22.heap.size = P7 at *
        have r1_0 := S.c 7 0 rfl rfl
        have r1_1 := S.c 7 1 rfl rfl
        have r1_2 := S.c 7 2 rfl rfl
        have r1_3 := S.c 7 3 rfl rfl
        go_wp2_with fail
        refine ((rcode_eq (fnear_num (k := k) ((S.li 7 rfl).num) (by omega) (ht.keep S.k)) HC.out Q7.out)).mono ?_
        rintro e W24 ⟨U24, rfl, hp, hk⟩
        rw [if_pos rfl] at hp
        obtain ⟨b12, A12, n12, c12, d12, B12, m12, e12, rfl⟩ := hp.open_
        replace S := (S.below hk).addQ hp
        clear hk hp
        clear r1_0 r1_1 r1_2 r1_3
        go_upto_region 19 with fail
        replace S := (S.alloc 28 [.bool b12, .slice A12 n12 c12, .bool d12, .slice B12 m12 e12])
        obtain ⟨W25, eW, S⟩ := S.pack
        rw [eW]
        clear eW
        generalize W24.heap.size = P8 at *
        have r0_0 := S.c 9 0 rfl rfl
        have r0_1 := S.c 9 1 rfl rfl
        have r0_2 := S.c 9 2 rfl rfl
        have r0_3 := S.c 9 3 rfl rfl
        have r1_0 := S.c 8 0 rfl rfl
        have r1_1 := S.c 8 1 rfl rfl
        have r1_2 := S.c 8 2 rfl rfl
        have r1_3 := S.c 8 3 rfl rfl
        go_wp2_with fail
        refine ((fcompare_s ((S.li 9 rfl).num) ((S.li 8 rfl).num) HS4.out)).mono ?_
        rintro e W26 ⟨rfl, hk⟩
        replace S := S.below hk
        clear hk
        clear r0_0 r0_1 r0_2 r0_3 r1_0 r1_1 r1_2 r1_3
        rcases Bool.eq_false_or_eq_true (decide (0 < s4)) with t7 | t7
        · skip
          go_wp2
          go_ret
          first | exact ⟨rfl, S.k⟩ | exact ⟨by rw [ord_nr p1 HS4.out HS6.out t7] <;> rfl, S.k⟩
        · skip
          have t8 : decide (s5 ≤ 0) = true := by exact ord_dn p1 HS4.out HS5.out t7
          have r2_0 := S.c 7 0 rfl rfl
          have r2_1 := S.c 7 1 rfl rfl
          have r2_2 := S.c 7 2 rfl rfl
          have r2_3 := S.c 7 3 rfl rfl
          have r8_0 := S.c 1 0 rfl rfl
          have r8_1 := S.c 1 1 rfl rfl
          have r8_2 := S.c 1 2 rfl rfl
          have r8_3 := S.c 1 3 rfl rfl
          go_wp2_with fail
          refine ((fcompare_s ((S.qi 7 rfl).num (by omega)) ((S.qi 1 rfl).num (by omega)) HS5.out)).mono ?_
          rintro e W27 ⟨rfl, hk⟩
          replace S := S.below hk
          clear hk
          clear r2_0 r2_1 r2_2 r2_3 r8_0 r8_1 r8_2 r8_3
          have r4_0 := S.c 5 0 rfl rfl
          have r4_1 := S.c 5 1 rfl rfl
          have r4_2 := S.c 5 2 rfl rfl
          have r4_3 := S.c 5 3 rfl rfl
          have r9_0 := S.c 0 0 rfl rfl
          have r9_1 := S.c 0 1 rfl rfl
          have r9_2 := S.c 0 2 rfl rfl
          have r9_3 := S.c 0 3 rfl rfl
          go_wp2_with fail
          refine ((fcompare_s ((S.qi 5 rfl).num (by omega)) ((S.qi 0 rfl).num (by omega)) HS6.out)).mono ?_
          rintro e W28 ⟨rfl, hk⟩
          replace S := S.below hk
          clear hk
          clear r4_0 r4_1 r4_2 r4_3 r9_0 r9_1 r9_2 r9_3
          go_wp2
          go_ret
          first | exact ⟨rfl, S.k⟩ | exact ⟨by rw [ord_nr p1 HS4.out HS6.out t7] <;> rfl, S.k⟩
  · skip
    rcases Bool.eq_false_or_eq_true (bnn) with rfl | rfl
    · skip
      refine wp_region_steps (m := 23) rfl (by kernel_rfl) (fun iΦ vΦ wΦ => (List.getD [fun vΦ _ => vΦ = .agg #[.bool b8, .slice A8 n8 c8, .bool d8, .slice B8 m8 e8], fun vΦ _ => vΦ = .int .i64 s3, fun vΦ _ => vΦ = .bool false, fun vΦ _ => vΦ = .bool false, fun vΦ _ => vΦ = undef, fun vΦ _ => vΦ = undef, fun vΦ _ => vΦ = undef, fun vΦ _ => vΦ = undef, fun vΦ _ => vΦ = undef, fun vΦ _ => vΦ = undef, fun vΦ _ => vΦ = .bool false, fun vΦ _ => vΦ = .bool false, fun vΦ _ => vΦ = .agg #[.bool b7, .slice A7 n7 c7, .bool d7, .slice B7 m7 e7], fun vΦ _ => vΦ = .agg #[.bool b5, .slice A5 n5 c5, .bool d5, .slice B5 m5 e5], fun vΦ _ => vΦ = .bool true, fun vΦ _ => vΦ = .bool false, fun vΦ _ => vΦ = .bool false, fun vΦ _ => vΦ = undef, fun vΦ _ => vΦ = undef, fun vΦ _ => vΦ = undef, fun vΦ _ => vΦ = undef, fun vΦ _ => vΦ = .bool false, fun vΦ _ => vΦ = .bool false] iΦ (fun _ _ => True)) vΦ wΦ) [] ?_ ?_ ?_
      · intro i v w w' _ h hk
        refine stabL_get ?_ i v w w' h hk
        exact stab_cons st_e (stab_cons st_e (stab_cons st_e (stab_cons st_e (stab_cons st_e (stab_cons st_e (stab_cons st_e (stab_cons st_e (stab_cons st_e (stab_cons st_e (stab_cons st_e (stab_cons st_e (stab_cons st_e (stab_cons st_e (stab_cons st_e (stab_cons st_e (stab_cons st_e (stab_cons st_e (stab_cons st_e (stab_cons st_e (stab_cons st_e (stab_cons st_e (stab_cons st_e stab_nil))))))))))))))))))))))
      · intro i hi vs w3 hk3 hd
        have S3 := S.drew.below hk3
        have a0 := S3.c 3 0 rfl rfl
        have a1 := S3.c 3 1 rfl rfl
        have a2 := S3.c 3 2 rfl rfl
        have a3 := S3.c 3 3 rfl rfl
        have a4 := S3.c 1 0 rfl rfl
        have a5 := S3.c 1 1 rfl rfl
        have a6 := S3.c 1 2 rfl rfl
        have a7 := S3.c 1 3 rfl rfl
        have a8 := S3.c 0 0 rfl rfl
        have a9 := S3.c 0 1 rfl rfl
        have a10 := S3.c 0 2 rfl rfl
        have a11 := S3.c 0 3 rfl rfl
        match i, hi with
        | 0, _ =>
          refine step_val0 [] (fun vΦ _ => vΦ = .agg #[.bool b8, .slice A8 n8 c8, .bool d8, .slice B8 m8 e8]) rfl (by kernel_rfl) rfl (fun _ _ h => h) rfl fun K hK => ?_; clear hd; simp only [frD] at hK ⊢; go_simp
          exact hK _ _ (Below.refl _ _) rfl
        | 1, _ =>
          have qe0 : (vs 0) = .agg #[.bool b8, .slice A8 n8 c8, .bool d8, .slice B8 m8 e8] := hd 0 (cm (by kernel_rfl))
          refine step_call (F := 33) (X := .func (.func 33) #[] #[]) (A := #[(vs 0)]) (B := #[.agg #[.bool b8, .slice A8 n8 c8, .bool d8, .slice B8 m8 e8]]) [(0, some 79)] (fun vΦ _ => vΦ = .int .i64 s3) rfl (by kernel_rfl) (fun _ _ h => h) rfl (wanted_none rfl) rfl rfl (by kernel_rfl) rfl (by kernel_rfl) (by rw [qe0]) Tryz.func33 (by kernel_rfl) (by kernel_rfl) ?_
          refine ((fsign_s ((S3.qi 0 rfl).num (by omega)) HS3.out)).mono ?_; rintro e w4 ⟨rfl, hk4⟩; exact ⟨_, rfl, hk4, rfl⟩
        | 2, _ =>
          have qe1 : (vs 1) = .int .i64 s3 := hd 1 (cm (by kernel_rfl))
          refine step_val0 [(1, some 80)] (fun vΦ _ => vΦ = .bool false) rfl (by kernel_rfl) rfl (fun _ _ h => h) rfl fun K hK => ?_; clear hd; simp only [frD, qe1] at hK ⊢; go_simp
          exact hK _ _ (Below.refl _ _) rfl
        | 3, _ =>
          have qe1 : (vs 1) = .int .i64 s3 := hd 1 (cm (by kernel_rfl)); have qe2 : (vs 2) = .bool false := hd 2 (cm (by kernel_rfl))
          refine step_val0 [(1, some 80), (2, some 81)] (fun vΦ _ => vΦ = .bool false) rfl (by kernel_rfl) rfl (fun _ _ h => h) rfl fun K hK => ?_; clear hd; simp only [frD, qe1, qe2] at hK ⊢; go_simp
          exact hK _ _ (Below.refl _ _) rfl
        | 4, _ =>
          have qe3 : (vs 3) = .bool false := hd 3 (cm (by kernel_rfl))
          exact step_no [(3, some 82)] rfl (by kernel_rfl) (by simp only [frD, qe3]; rfl) rfl (by simp)
        | 5, _ =>
          have qe3 : (vs 3) = .bool false := hd 3 (cm (by kernel_rfl))
          exact step_no [(3, some 82)] rfl (by kernel_rfl) (by simp only [frD, qe3]; rfl) rfl (by simp)
        | 6, _ =>
          have qe3 : (vs 3) = .bool false := hd 3 (cm (by kernel_rfl)); have qe5 : (vs 5) = undef := hd 5 (cm (by kernel_rfl))
          exact step_no [(3, some 82), (5, some 84)] rfl (by kernel_rfl) (by simp only [frD, qe3, qe5]; rfl) rfl (by simp)
        | 7, _ =>
          have qe3 : (vs 3) = .bool false := hd 3 (cm (by kernel_rfl)); have qe6 : (vs 6) = undef := hd 6 (cm (by kernel_rfl))
          exact step_no [(3, some 82), (6, some 85)] rfl (by kernel_rfl) (by simp only [frD, qe3, qe6]; rfl) rfl (by simp)
        | 8, _ =>
          have qe3 : (vs 3) = .bool false := hd 3 (cm (by kernel_rfl)); have qe4 : (vs 4) = undef := hd 4 (cm (by kernel_rfl)); have qe7 : (vs 7) = undef := hd 7 (cm (by kernel_rfl))
          exact step_no [(3, some 82), (4, some 83), (7, some 86)] rfl (by kernel_rfl) (by simp only [frD, qe3, qe4, qe7]; rfl) rfl (by simp)
        | 9, _ =>
          have qe3 : (vs 3) = .bool false := hd 3 (cm (by kernel_rfl)); have qe8 : (vs 8) = undef := hd 8 (cm (by kernel_rfl))
          exact step_no [(3, some 82), (8, some 87)] rfl (by kernel_rfl) (by simp only [frD, qe3, qe8]; rfl) rfl (by simp)
        | 10, _ =>
          have qe3 : (vs 3) = .bool false := hd 3 (cm (by kernel_rfl)); have qe9 : (vs 9) = undef := hd 9 (cm (by kernel_rfl))
          refine step_val0 [(3, some 82), (9, some 88)] (fun vΦ _ => vΦ = .bool false) rfl (by kernel_rfl) rfl (fun _ _ h => h) rfl fun K hK => ?_; clear hd; simp only [frD, qe3, qe9] at hK ⊢; go_simp
          exact hK _ _ (Below.refl _ _) rfl
        | 11, _ =>
          have qe8 : (vs 8) = undef := hd 8 (cm (by kernel_rfl)); have qe10 : (vs 10) = .bool false := hd 10 (cm (by kernel_rfl))
          refine step_val0 [(8, some 87), (10, some 89)] (fun vΦ _ => vΦ = .bool false) rfl (by kernel_rfl) rfl (fun _ _ h => h) rfl fun K hK => ?_; clear hd; simp only [frD, qe8, qe10] at hK ⊢; go_simp
          exact hK _ _ (Below.refl _ _) rfl
        | 12, _ =>
          have qe11 : (vs 11) = .bool false := hd 11 (cm (by kernel_rfl))
          refine step_valg [(11, some 90)] (fun vΦ _ => vΦ = .agg #[.bool b7, .slice A7 n7 c7, .bool d7, .slice B7 m7 e7]) rfl (by kernel_rfl) (fun _ _ h => h) rfl (wanted_some 90 rfl (by rfl) (by kernel_rfl) qe11) fun K hK => ?_; clear hd; simp only [frD, qe11] at hK ⊢; go_simp
          exact hK _ _ (Below.refl _ _) rfl
        | 13, _ =>
          have qe11 : (vs 11) = .bool false := hd 11 (cm (by kernel_rfl))
          refine step_valg [(11, some 90)] (fun vΦ _ => vΦ = .agg #[.bool b5, .slice A5 n5 c5, .bool d5, .slice B5 m5 e5]) rfl (by kernel_rfl) (fun _ _ h => h) rfl (wanted_some 90 rfl (by rfl) (by kernel_rfl) qe11) fun K hK => ?_; clear hd; simp only [frD, qe11] at hK ⊢; go_simp
          exact hK _ _ (Below.refl _ _) rfl
        | 14, _ =>
          have qe11 : (vs 11) = .bool false := hd 11 (cm (by kernel_rfl)); have qe12 : (vs 12) = .agg #[.bool b7, .slice A7 n7 c7, .bool d7, .slice B7 m7 e7] := hd 12 (cm (by kernel_rfl)); have qe13 : (vs 13) = .agg #[.bool b5, .slice A5 n5 c5, .bool d5, .slice B5 m5 e5] := hd 13 (cm (by kernel_rfl))
          refine step_call (F := 21) (X := .func (.func 21) #[] #[]) (A := #[(vs 12), (vs 13)]) (B := #[.agg #[.bool b7, .slice A7 n7 c7, .bool d7, .slice B7 m7 e7], .agg #[.bool b5, .slice A5 n5 c5, .bool d5, .slice B5 m5 e5]]) [(11, some 90), (12, some 91), (13, some 92)] (fun vΦ _ => vΦ = .bool true) rfl (by kernel_rfl) (fun _ _ h => h) rfl (wanted_some 90 rfl (by rfl) (by kernel_rfl) qe11) rfl rfl (by kernel_rfl) rfl (by kernel_rfl) (by rw [qe12, qe13]) Tryz.func21 (by kernel_rfl) (by kernel_rfl) ?_
          refine ((gsame_s (b := true) (S3.qi 1 rfl) (S3.qi 3 rfl) (by omega) HBN.out)).mono ?_; rintro e w4 ⟨rfl, hk4⟩; exact ⟨_, rfl, hk4, rfl⟩
        | 15, _ =>
          have qe11 : (vs 11) = .bool false := hd 11 (cm (by kernel_rfl)); have qe14 : (vs 14) = .bool true := hd 14 (cm (by kernel_rfl))
          refine step_valg [(11, some 90), (14, some 93)] (fun vΦ _ => vΦ = .bool false) rfl (by kernel_rfl) (fun _ _ h => h) rfl (wanted_some 90 rfl (by rfl) (by kernel_rfl) qe11) fun K hK => ?_; clear hd; simp only [frD, qe11, qe14] at hK ⊢; go_simp
          exact hK _ _ (Below.refl _ _) rfl
        | 16, _ =>
          have qe11 : (vs 11) = .bool false := hd 11 (cm (by kernel_rfl)); have qe14 : (vs 14) = .bool true := hd 14 (cm (by kernel_rfl)); have qe15 : (vs 15) = .bool false := hd 15 (cm (by kernel_rfl))
          refine step_valg [(11, some 90), (14, some 93), (15, some 94)] (fun vΦ _ => vΦ = .bool false) rfl (by kernel_rfl) (fun _ _ h => h) rfl (wanted_some 90 rfl (by rfl) (by kernel_rfl) qe11) fun K hK => ?_; clear hd; simp only [frD, qe11, qe14, qe15] at hK ⊢; go_simp
          exact hK _ _ (Below.refl _ _) rfl
        | 17, _ =>
          have qe16 : (vs 16) = .bool false := hd 16 (cm (by kernel_rfl))
          exact step_no [(16, some 95)] rfl (by kernel_rfl) (by simp only [frD, qe16]; rfl) rfl (by simp)
        | 18, _ =>
          have qe16 : (vs 16) = .bool false := hd 16 (cm (by kernel_rfl))
          exact step_no [(16, some 95)] rfl (by kernel_rfl) (by simp only [frD, qe16]; rfl) rfl (by simp)
        | 19, _ =>
          have qe16 : (vs 16) = .bool false := hd 16 (cm (by kernel_rfl)); have qe17 : (vs 17) = undef := hd 17 (cm (by kernel_rfl)); have qe18 : (vs 18) = undef := hd 18 (cm (by kernel_rfl))
          exact step_no [(16, some 95), (17, some 96), (18, some 97)] rfl (by kernel_rfl) (by simp only [frD, qe16, qe17, qe18]; rfl) rfl (by simp)
        | 20, _ =>
          have qe16 : (vs 16) = .bool false := hd 16 (cm (by kernel_rfl)); have qe19 : (vs 19) = undef := hd 19 (cm (by kernel_rfl))
          exact step_no [(16, some 95), (19, some 98)] rfl (by kernel_rfl) (by simp only [frD, qe16, qe19]; rfl) rfl (by simp)
        | 21, _ =>
          have qe11 : (vs 11) = .bool false := hd 11 (cm (by kernel_rfl)); have qe16 : (vs 16) = .bool false := hd 16 (cm (by kernel_rfl)); have qe20 : (vs 20) = undef := hd 20 (cm (by kernel_rfl))
          refine step_valg [(11, some 90), (16, some 95), (20, some 99)] (fun vΦ _ => vΦ = .bool false) rfl (by kernel_rfl) (fun _ _ h => h) rfl (wanted_some 90 rfl (by rfl) (by kernel_rfl) qe11) fun K hK => ?_; clear hd; simp only [frD, qe11, qe16, qe20] at hK ⊢; go_simp
          exact hK _ _ (Below.refl _ _) rfl
        | 22, _ =>
          have qe11 : (vs 11) = .bool false := hd 11 (cm (by kernel_rfl)); have qe21 : (vs 21) = .bool false := hd 21 (cm (by kernel_rfl))
          refine step_val0 [(11, some 90), (21, some 100)] (fun vΦ _ => vΦ = .bool false) rfl (by kernel_rfl) rfl (fun _ _ h => h) rfl fun K hK => ?_; clear hd; simp only [frD, qe11, qe21] at hK ⊢; go_simp
          exact hK _ _ (Below.refl _ _) rfl
        | i + 23, hi => exact absurd hi (by omega)
      · intro vs W15 hk3 hΦ _
        simp only [List.drop_succ_cons, List.drop_zero]
        rw [fr_frD, show (List.range 23).map _ = [(0, some 79), (1, some 80), (2, some 81), (3, some 82), (4, some 83), (5, some 84), (6, some 85), (7, some 86), (8, some 87), (9, some 88), (10, some 89), (11, some 90), (12, some 91), (13, some 92), (14, some 93), (15, some 94), (16, some 95), (17, some 96), (18, some 97), (19, some 98), (20, some 99), (21, some 100), (22, some 101)] by kernel_rfl]
        have pa0 : (vs 0) = .agg #[.bool b8, .slice A8 n8 c8, .bool d8, .slice B8 m8 e8] := hΦ 0 (by decide)
        have pa1 : (vs 1) = .int .i64 s3 := hΦ 1 (by decide)
        have pa2 : (vs 2) = .bool false := hΦ 2 (by decide)
        have pa3 : (vs 3) = .bool false := hΦ 3 (by decide)
        have pa4 : (vs 4) = undef := hΦ 4 (by decide)
        have pa5 : (vs 5) = undef := hΦ 5 (by decide)
        have pa6 : (vs 6) = undef := hΦ 6 (by decide)
        have pa7 : (vs 7) = undef := hΦ 7 (by decide)
        have pa8 : (vs 8) = undef := hΦ 8 (by decide)
        have pa9 : (vs 9) = undef := hΦ 9 (by decide)
        have pa10 : (vs 10) = .bool false := hΦ 10 (by decide)
        have pa11 : (vs 11) = .bool false := hΦ 11 (by decide)
        have pa12 : (vs 12) = .agg #[.bool b7, .slice A7 n7 c7, .bool d7, .slice B7 m7 e7] := hΦ 12 (by decide)
        have pa13 : (vs 13) = .agg #[.bool b5, .slice A5 n5 c5, .bool d5, .slice B5 m5 e5] := hΦ 13 (by decide)
        have pa14 : (vs 14) = .bool true := hΦ 14 (by decide)
        have pa15 : (vs 15) = .bool false := hΦ 15 (by decide)
        have pa16 : (vs 16) = .bool false := hΦ 16 (by decide)
        have pa17 : (vs 17) = undef := hΦ 17 (by decide)
        have pa18 : (vs 18) = undef := hΦ 18 (by decide)
        have pa19 : (vs 19) = undef := hΦ 19 (by decide)
        have pa20 : (vs 20) = undef := hΦ 20 (by decide)
        have pa21 : (vs 21) = .bool false := hΦ 21 (by decide)
        have pa22 : (vs 22) = .bool false := hΦ 22 (by decide)
        clear hΦ
        simp only [frD, pa0, pa1, pa2, pa3, pa4, pa5, pa6, pa7, pa8, pa9, pa10, pa11, pa12, pa13, pa14, pa15, pa16, pa17, pa18, pa19, pa20, pa21, pa22]
        simp only [Act.put, List.setIfInBounds_toArray, List.set_cons_zero, List.set_cons_succ]
        clear pa0 pa1 pa2 pa3 pa4 pa5 pa6 pa7 pa8 pa9 pa10 pa11 pa12 pa13 pa14 pa15 pa16 pa17 pa18 pa19 pa20 pa21 pa22
        replace S := S.drew.below hk3
        clear hk3
        have r2_0 := S.c 3 0 rfl rfl
        have r2_1 := S.c 3 1 rfl rfl
        have r2_2 := S.c 3 2 rfl rfl
        have r2_3 := S.c 3 3 rfl rfl
        go_wp2_with fail
        refine ((rcode_eq (fdown_num (k := k) ((S.qi 3 rfl).num (by omega)) (by omega) (ht.keep S.k)) HC.out Q4.out)).mono ?_
        rintro e W16 ⟨U16, rfl, hp, hk⟩
        rw [if_pos rfl] at hp
        obtain ⟨b9, A9, n9, c9, d9, B9, m9, e9, rfl⟩ := hp.open_
        replace S := (S.below hk).addQ hp
        clear hk hp
        clear r2_0 r2_1 r2_2 r2_3
        go_upto_region 14 with fail
        replace S := (S.alloc 28 [.bool b9, .slice A9 n9 c9, .bool d9, .slice B9 m9 e9])
        obtain ⟨W17, eW, S⟩ := S.pack
        rw [eW]
        clear eW
        generalize W16.heap.size = P5 at *
        have r2_0 := S.c 4 0 rfl rfl
        have r2_1 := S.c 4 1 rfl rfl
        have r2_2 := S.c 4 2 rfl rfl
        have r2_3 := S.c 4 3 rfl rfl
        go_wp2_with fail
        refine ((rcode_eq (fup_num (k := k) ((S.qi 4 rfl).num (by omega)) (by omega) (ht.keep S.k)) HC.out Q5.out)).mono ?_
        rintro e W18 ⟨U18, rfl, hp, hk⟩
        rw [if_pos rfl] at hp
        obtain ⟨b10, A10, n10, c10, d10, B10, m10, e10, rfl⟩ := hp.open_
        replace S := (S.below hk).addQ hp
        clear hk hp
        clear r2_0 r2_1 r2_2 r2_3
        go_upto_region 15 with fail
        replace S := (S.alloc 28 [.bool b10, .slice A10 n10 c10, .bool d10, .slice B10 m10 e10])
        obtain ⟨W19, eW, S⟩ := S.pack
        rw [eW]
        clear eW
        generalize W18.heap.size = P6 at *
        have r2_0 := S.c 5 0 rfl rfl
        have r2_1 := S.c 5 1 rfl rfl
        have r2_2 := S.c 5 2 rfl rfl
        have r2_3 := S.c 5 3 rfl rfl
        have r6_0 := S.c 1 0 rfl rfl
        have r6_1 := S.c 1 1 rfl rfl
        have r6_2 := S.c 1 2 rfl rfl
        have r6_3 := S.c 1 3 rfl rfl
        go_wp2_with fail
        refine ((gsame_s (b := true) (S.qi 1 rfl) (S.qi 5 rfl) (by omega) (decide_eq_true rfl))).mono ?_
        rintro e W20 ⟨rfl, hk⟩
        replace S := S.below hk
        clear hk
        clear r2_0 r2_1 r2_2 r2_3 r6_0 r6_1 r6_2 r6_3
        have r2_0 := S.c 5 0 rfl rfl
        have r2_1 := S.c 5 1 rfl rfl
        have r2_2 := S.c 5 2 rfl rfl
        have r2_3 := S.c 5 3 rfl rfl
        have r7_0 := S.c 0 0 rfl rfl
        have r7_1 := S.c 0 1 rfl rfl
        have r7_2 := S.c 0 2 rfl rfl
        have r7_3 := S.c 0 3 rfl rfl
        go_wp2_with fail
        refine ((gsame_s (b := true) (S.qi 0 rfl) (S.qi 5 rfl) (by omega) (decide_eq_true rfl))).mono ?_
        rintro e W21 ⟨rfl, hk⟩
        replace S := S.below hk
        clear hk
        clear r2_0 r2_1 r2_2 r2_3 r7_0 r7_1 r7_2 r7_3
        have r1_0 := S.c 6 0 rfl rfl
        have r1_1 := S.c 6 1 rfl rfl
        have r1_2 := S.c 6 2 rfl rfl
        have r1_3 := S.c 6 3 rfl rfl
        go_wp2_with fail
        refine ((rcode_eq (fdown_num (k := k) ((S.li 6 rfl).num) (by omega) (ht.keep S.k)) HC.out Q6.out)).mono ?_
        rintro e W22 ⟨U22, rfl, hp, hk⟩
        rw [if_pos rfl] at hp
        obtain ⟨b11, A11, n11, c11, d11, B11, m11, e11, rfl⟩ := hp.open_
        replace S := (S.below hk).addQ hp
        clear hk hp
        clear r1_0 r1_1 r1_2 r1_3
        go_upto_region 18 with fail
        replace S := (S.alloc 28 [.bool b11, .slice A11 n11 c11, .bool d11, .slice B11 m11 e11])
        obtain ⟨W23, eW, S⟩ := S.pack
        rw [eW]
        clear eW
        generalize W22.heap.size = P7 at *
        have r1_0 := S.c 7 0 rfl rfl
        have r1_1 := S.c 7 1 rfl rfl
        have r1_2 := S.c 7 2 rfl rfl
        have r1_3 := S.c 7 3 rfl rfl
        go_wp2_with fail
        refine ((rcode_eq (fnear_num (k := k) ((S.li 7 rfl).num) (by omega) (ht.keep S.k)) HC.out Q7.out)).mono ?_
        rintro e W24 ⟨U24, rfl, hp, hk⟩
        rw [if_pos rfl] at hp
        obtain ⟨b12, A12, n12, c12, d12, B12, m12, e12, rfl⟩ := hp.open_
        replace S := (S.below hk).addQ hp
        clear hk hp
        clear r1_0 r1_1 r1_2 r1_3
        go_upto_region 19 with fail
        replace S := (S.alloc 28 [.bool b12, .slice A12 n12 c12, .bool d12, .slice B12 m12 e12])
        obtain ⟨W25, eW, S⟩ := S.pack
        rw [eW]
        clear eW
        generalize W24.heap.size = P8 at *
        have r0_0 := S.c 9 0 rfl rfl
        have r0_1 := S.c 9 1 rfl rfl
        have r0_2 := S.c 9 2 rfl rfl
        have r0_3 := S.c 9 3 rfl rfl
        have r1_0 := S.c 8 0 rfl rfl
        have r1_1 := S.c 8 1 rfl rfl
        have r1_2 := S.c 8 2 rfl rfl
        have r1_3 := S.c 8 3 rfl rfl
        go_wp2_with fail
        refine ((fcompare_s ((S.li 9 rfl).num) ((S.li 8 rfl).num) HS4.out)).mono ?_
        rintro e W26 ⟨rfl, hk⟩
        replace S := S.below hk
        clear hk
        clear r0_0 r0_1 r0_2 r0_3 r1_0 r1_1 r1_2 r1_3
        rcases Bool.eq_false_or_eq_true (decide (0 < s4)) with t7 | t7
        · skip
          go_wp2
          go_ret
          first | exact ⟨rfl, S.k⟩ | exact ⟨by rw [ord_nr p1 HS4.out HS6.out t7] <;> rfl, S.k⟩
        · skip
          have t8 : decide (s5 ≤ 0) = true := by exact ord_dn p1 HS4.out HS5.out t7
          have r2_0 := S.c 7 0 rfl rfl
          have r2_1 := S.c 7 1 rfl rfl
          have r2_2 := S.c 7 2 rfl rfl
          have r2_3 := S.c 7 3 rfl rfl
          have r8_0 := S.c 1 0 rfl rfl
          have r8_1 := S.c 1 1 rfl rfl
          have r8_2 := S.c 1 2 rfl rfl
          have r8_3 := S.c 1 3 rfl rfl
          go_wp2_with fail
          refine ((fcompare_s ((S.qi 7 rfl).num (by omega)) ((S.qi 1 rfl).num (by omega)) HS5.out)).mono ?_
          rintro e W27 ⟨rfl, hk⟩
          replace S := S.below hk
          clear hk
          clear r2_0 r2_1 r2_2 r2_3 r8_0 r8_1 r8_2 r8_3
          have r4_0 := S.c 5 0 rfl rfl
          have r4_1 := S.c 5 1 rfl rfl
          have r4_2 := S.c 5 2 rfl rfl
          have r4_3 := S.c 5 3 rfl rfl
          have r9_0 := S.c 0 0 rfl rfl
          have r9_1 := S.c 0 1 rfl rfl
          have r9_2 := S.c 0 2 rfl rfl
          have r9_3 := S.c 0 3 rfl rfl
          go_wp2_with fail
          refine ((fcompare_s ((S.qi 5 rfl).num (by omega)) ((S.qi 0 rfl).num (by omega)) HS6.out)).mono ?_
          rintro e W28 ⟨rfl, hk⟩
          replace S := S.below hk
          clear hk
          clear r4_0 r4_1 r4_2 r4_3 r9_0 r9_1 r9_2 r9_3
          go_wp2
          go_ret
          first | exact ⟨rfl, S.k⟩ | exact ⟨by rw [ord_nr p1 HS4.out HS6.out t7] <;> rfl, S.k⟩
    · skip
      refine wp_region_steps (m := 23) rfl (by kernel_rfl) (fun iΦ vΦ wΦ => (List.getD [fun vΦ _ => vΦ = .agg #[.bool b8, .slice A8 n8 c8, .bool d8, .slice B8 m8 e8], fun vΦ _ => vΦ = .int .i64 s3, fun vΦ _ => vΦ = .bool false, fun vΦ _ => vΦ = .bool false, fun vΦ _ => vΦ = undef, fun vΦ _ => vΦ = undef, fun vΦ _ => vΦ = undef, fun vΦ _ => vΦ = undef, fun vΦ _ => vΦ = undef, fun vΦ _ => vΦ = undef, fun vΦ _ => vΦ = .bool false, fun vΦ _ => vΦ = .bool false, fun vΦ _ => vΦ = .agg #[.bool b7, .slice A7 n7 c7, .bool d7, .slice B7 m7 e7], fun vΦ _ => vΦ = .agg #[.bool b5, .slice A5 n5 c5, .bool d5, .slice B5 m5 e5], fun vΦ _ => vΦ = .bool false, fun vΦ _ => vΦ = .bool true, fun vΦ _ => vΦ = .bool true, fun vΦ _ => vΦ = .agg #[.bool b7, .slice A7 n7 c7, .bool d7, .slice B7 m7 e7], fun vΦ _ => vΦ = .agg #[.bool b6, .slice A6 n6 c6, .bool d6, .slice B6 m6 e6], fun vΦ _ => vΦ = .bool true, fun vΦ _ => vΦ = .bool false, fun vΦ _ => vΦ = .bool false, fun vΦ _ => vΦ = .bool false] iΦ (fun _ _ => True)) vΦ wΦ) [] ?_ ?_ ?_
      · intro i v w w' _ h hk
        refine stabL_get ?_ i v w w' h hk
        exact stab_cons st_e (stab_cons st_e (stab_cons st_e (stab_cons st_e (stab_cons st_e (stab_cons st_e (stab_cons st_e (stab_cons st_e (stab_cons st_e (stab_cons st_e (stab_cons st_e (stab_cons st_e (stab_cons st_e (stab_cons st_e (stab_cons st_e (stab_cons st_e (stab_cons st_e (stab_cons st_e (stab_cons st_e (stab_cons st_e (stab_cons st_e (stab_cons st_e (stab_cons st_e stab_nil))))))))))))))))))))))
      · intro i hi vs w3 hk3 hd
        have S3 := S.drew.below hk3
        have a0 := S3.c 3 0 rfl rfl
        have a1 := S3.c 3 1 rfl rfl
        have a2 := S3.c 3 2 rfl rfl
        have a3 := S3.c 3 3 rfl rfl
        have a4 := S3.c 2 0 rfl rfl
        have a5 := S3.c 2 1 rfl rfl
        have a6 := S3.c 2 2 rfl rfl
        have a7 := S3.c 2 3 rfl rfl
        have a8 := S3.c 1 0 rfl rfl
        have a9 := S3.c 1 1 rfl rfl
        have a10 := S3.c 1 2 rfl rfl
        have a11 := S3.c 1 3 rfl rfl
        have a12 := S3.c 0 0 rfl rfl
        have a13 := S3.c 0 1 rfl rfl
        have a14 := S3.c 0 2 rfl rfl
        have a15 := S3.c 0 3 rfl rfl
        match i, hi with
        | 0, _ =>
          refine step_val0 [] (fun vΦ _ => vΦ = .agg #[.bool b8, .slice A8 n8 c8, .bool d8, .slice B8 m8 e8]) rfl (by kernel_rfl) rfl (fun _ _ h => h) rfl fun K hK => ?_; clear hd; simp only [frD] at hK ⊢; go_simp
          exact hK _ _ (Below.refl _ _) rfl
        | 1, _ =>
          have qe0 : (vs 0) = .agg #[.bool b8, .slice A8 n8 c8, .bool d8, .slice B8 m8 e8] := hd 0 (cm (by kernel_rfl))
          refine step_call (F := 33) (X := .func (.func 33) #[] #[]) (A := #[(vs 0)]) (B := #[.agg #[.bool b8, .slice A8 n8 c8, .bool d8, .slice B8 m8 e8]]) [(0, some 79)] (fun vΦ _ => vΦ = .int .i64 s3) rfl (by kernel_rfl) (fun _ _ h => h) rfl (wanted_none rfl) rfl rfl (by kernel_rfl) rfl (by kernel_rfl) (by rw [qe0]) Tryz.func33 (by kernel_rfl) (by kernel_rfl) ?_
          refine ((fsign_s ((S3.qi 0 rfl).num (by omega)) HS3.out)).mono ?_; rintro e w4 ⟨rfl, hk4⟩; exact ⟨_, rfl, hk4, rfl⟩
        | 2, _ =>
          have qe1 : (vs 1) = .int .i64 s3 := hd 1 (cm (by kernel_rfl))
          refine step_val0 [(1, some 80)] (fun vΦ _ => vΦ = .bool false) rfl (by kernel_rfl) rfl (fun _ _ h => h) rfl fun K hK => ?_; clear hd; simp only [frD, qe1] at hK ⊢; go_simp
          exact hK _ _ (Below.refl _ _) rfl
        | 3, _ =>
          have qe1 : (vs 1) = .int .i64 s3 := hd 1 (cm (by kernel_rfl)); have qe2 : (vs 2) = .bool false := hd 2 (cm (by kernel_rfl))
          refine step_val0 [(1, some 80), (2, some 81)] (fun vΦ _ => vΦ = .bool false) rfl (by kernel_rfl) rfl (fun _ _ h => h) rfl fun K hK => ?_; clear hd; simp only [frD, qe1, qe2] at hK ⊢; go_simp
          exact hK _ _ (Below.refl _ _) rfl
        | 4, _ =>
          have qe3 : (vs 3) = .bool false := hd 3 (cm (by kernel_rfl))
          exact step_no [(3, some 82)] rfl (by kernel_rfl) (by simp only [frD, qe3]; rfl) rfl (by simp)
        | 5, _ =>
          have qe3 : (vs 3) = .bool false := hd 3 (cm (by kernel_rfl))
          exact step_no [(3, some 82)] rfl (by kernel_rfl) (by simp only [frD, qe3]; rfl) rfl (by simp)
        | 6, _ =>
          have qe3 : (vs 3) = .bool false := hd 3 (cm (by kernel_rfl)); have qe5 : (vs 5) = undef := hd 5 (cm (by kernel_rfl))
          exact step_no [(3, some 82), (5, some 84)] rfl (by kernel_rfl) (by simp only [frD, qe3, qe5]; rfl) rfl (by simp)
        | 7, _ =>
          have qe3 : (vs 3) = .bool false := hd 3 (cm (by kernel_rfl)); have qe6 : (vs 6) = undef := hd 6 (cm (by kernel_rfl))
          exact step_no [(3, some 82), (6, some 85)] rfl (by kernel_rfl) (by simp only [frD, qe3, qe6]; rfl) rfl (by simp)
        | 8, _ =>
          have qe3 : (vs 3) = .bool false := hd 3 (cm (by kernel_rfl)); have qe4 : (vs 4) = undef := hd 4 (cm (by kernel_rfl)); have qe7 : (vs 7) = undef := hd 7 (cm (by kernel_rfl))
          exact step_no [(3, some 82), (4, some 83), (7, some 86)] rfl (by kernel_rfl) (by simp only [frD, qe3, qe4, qe7]; rfl) rfl (by simp)
        | 9, _ =>
          have qe3 : (vs 3) = .bool false := hd 3 (cm (by kernel_rfl)); have qe8 : (vs 8) = undef := hd 8 (cm (by kernel_rfl))
          exact step_no [(3, some 82), (8, some 87)] rfl (by kernel_rfl) (by simp only [frD, qe3, qe8]; rfl) rfl (by simp)
        | 10, _ =>
          have qe3 : (vs 3) = .bool false := hd 3 (cm (by kernel_rfl)); have qe9 : (vs 9) = undef := hd 9 (cm (by kernel_rfl))
          refine step_val0 [(3, some 82), (9, some 88)] (fun vΦ _ => vΦ = .bool false) rfl (by kernel_rfl) rfl (fun _ _ h => h) rfl fun K hK => ?_; clear hd; simp only [frD, qe3, qe9] at hK ⊢; go_simp
          exact hK _ _ (Below.refl _ _) rfl
        | 11, _ =>
          have qe8 : (vs 8) = undef := hd 8 (cm (by kernel_rfl)); have qe10 : (vs 10) = .bool false := hd 10 (cm (by kernel_rfl))
          refine step_val0 [(8, some 87), (10, some 89)] (fun vΦ _ => vΦ = .bool false) rfl (by kernel_rfl) rfl (fun _ _ h => h) rfl fun K hK => ?_; clear hd; simp only [frD, qe8, qe10] at hK ⊢; go_simp
          exact hK _ _ (Below.refl _ _) rfl
        | 12, _ =>
          have qe11 : (vs 11) = .bool false := hd 11 (cm (by kernel_rfl))
          refine step_valg [(11, some 90)] (fun vΦ _ => vΦ = .agg #[.bool b7, .slice A7 n7 c7, .bool d7, .slice B7 m7 e7]) rfl (by kernel_rfl) (fun _ _ h => h) rfl (wanted_some 90 rfl (by rfl) (by kernel_rfl) qe11) fun K hK => ?_; clear hd; simp only [frD, qe11] at hK ⊢; go_simp
          exact hK _ _ (Below.refl _ _) rfl
        | 13, _ =>
          have qe11 : (vs 11) = .bool false := hd 11 (cm (by kernel_rfl))
          refine step_valg [(11, some 90)] (fun vΦ _ => vΦ = .agg #[.bool b5, .slice A5 n5 c5, .bool d5, .slice B5 m5 e5]) rfl (by kernel_rfl) (fun _ _ h => h) rfl (wanted_some 90 rfl (by rfl) (by kernel_rfl) qe11) fun K hK => ?_; clear hd; simp only [frD, qe11] at hK ⊢; go_simp
          exact hK _ _ (Below.refl _ _) rfl
        | 14, _ =>
          have qe11 : (vs 11) = .bool false := hd 11 (cm (by kernel_rfl)); have qe12 : (vs 12) = .agg #[.bool b7, .slice A7 n7 c7, .bool d7, .slice B7 m7 e7] := hd 12 (cm (by kernel_rfl)); have qe13 : (vs 13) = .agg #[.bool b5, .slice A5 n5 c5, .bool d5, .slice B5 m5 e5] := hd 13 (cm (by kernel_rfl))
          refine step_call (F := 21) (X := .func (.func 21) #[] #[]) (A := #[(vs 12), (vs 13)]) (B := #[.agg #[.bool b7, .slice A7 n7 c7, .bool d7, .slice B7 m7 e7], .agg #[.bool b5, .slice A5 n5 c5, .bool d5, .slice B5 m5 e5]]) [(11, some 90), (12, some 91), (13, some 92)] (fun vΦ _ => vΦ = .bool false) rfl (by kernel_rfl) (fun _ _ h => h) rfl (wanted_some 90 rfl (by rfl) (by kernel_rfl) qe11) rfl rfl (by kernel_rfl) rfl (by kernel_rfl) (by rw [qe12, qe13]) Tryz.func21 (by kernel_rfl) (by kernel_rfl) ?_
          refine ((gsame_s (b := false) (S3.qi 1 rfl) (S3.qi 3 rfl) (by omega) HBN.out)).mono ?_; rintro e w4 ⟨rfl, hk4⟩; exact ⟨_, rfl, hk4, rfl⟩
        | 15, _ =>
          have qe11 : (vs 11) = .bool false := hd 11 (cm (by kernel_rfl)); have qe14 : (vs 14) = .bool false := hd 14 (cm (by kernel_rfl))
          refine step_valg [(11, some 90), (14, some 93)] (fun vΦ _ => vΦ = .bool true) rfl (by kernel_rfl) (fun _ _ h => h) rfl (wanted_some 90 rfl (by rfl) (by kernel_rfl) qe11) fun K hK => ?_; clear hd; simp only [frD, qe11, qe14] at hK ⊢; go_simp
          exact hK _ _ (Below.refl _ _) rfl
        | 16, _ =>
          have qe11 : (vs 11) = .bool false := hd 11 (cm (by kernel_rfl)); have qe14 : (vs 14) = .bool false := hd 14 (cm (by kernel_rfl)); have qe15 : (vs 15) = .bool true := hd 15 (cm (by kernel_rfl))
          refine step_valg [(11, some 90), (14, some 93), (15, some 94)] (fun vΦ _ => vΦ = .bool true) rfl (by kernel_rfl) (fun _ _ h => h) rfl (wanted_some 90 rfl (by rfl) (by kernel_rfl) qe11) fun K hK => ?_; clear hd; simp only [frD, qe11, qe14, qe15] at hK ⊢; go_simp
          exact hK _ _ (Below.refl _ _) rfl
        | 17, _ =>
          have qe16 : (vs 16) = .bool true := hd 16 (cm (by kernel_rfl))
          refine step_valg [(16, some 95)] (fun vΦ _ => vΦ = .agg #[.bool b7, .slice A7 n7 c7, .bool d7, .slice B7 m7 e7]) rfl (by kernel_rfl) (fun _ _ h => h) rfl (wanted_some 95 rfl (by rfl) (by kernel_rfl) qe16) fun K hK => ?_; clear hd; simp only [frD, qe16] at hK ⊢; go_simp
          exact hK _ _ (Below.refl _ _) rfl
        | 18, _ =>
          have qe16 : (vs 16) = .bool true := hd 16 (cm (by kernel_rfl))
          refine step_valg [(16, some 95)] (fun vΦ _ => vΦ = .agg #[.bool b6, .slice A6 n6 c6, .bool d6, .slice B6 m6 e6]) rfl (by kernel_rfl) (fun _ _ h => h) rfl (wanted_some 95 rfl (by rfl) (by kernel_rfl) qe16) fun K hK => ?_; clear hd; simp only [frD, qe16] at hK ⊢; go_simp
          exact hK _ _ (Below.refl _ _) rfl
        | 19, _ =>
          have qe16 : (vs 16) = .bool true := hd 16 (cm (by kernel_rfl)); have qe17 : (vs 17) = .agg #[.bool b7, .slice A7 n7 c7, .bool d7, .slice B7 m7 e7] := hd 17 (cm (by kernel_rfl)); have qe18 : (vs 18) = .agg #[.bool b6, .slice A6 n6 c6, .bool d6, .slice B6 m6 e6] := hd 18 (cm (by kernel_rfl))
          refine step_call (F := 21) (X := .func (.func 21) #[] #[]) (A := #[(vs 17), (vs 18)]) (B := #[.agg #[.bool b7, .slice A7 n7 c7, .bool d7, .slice B7 m7 e7], .agg #[.bool b6, .slice A6 n6 c6, .bool d6, .slice B6 m6 e6]]) [(16, some 95), (17, some 96), (18, some 97)] (fun vΦ _ => vΦ = .bool true) rfl (by kernel_rfl) (fun _ _ h => h) rfl (wanted_some 95 rfl (by rfl) (by kernel_rfl) qe16) rfl rfl (by kernel_rfl) rfl (by kernel_rfl) (by rw [qe17, qe18]) Tryz.func21 (by kernel_rfl) (by kernel_rfl) ?_
          refine ((gsame_s (b := true) (S3.qi 1 rfl) (S3.qi 2 rfl) (by omega) (nr_other HBN.out rfl))).mono ?_; rintro e w4 ⟨rfl, hk4⟩; exact ⟨_, rfl, hk4, rfl⟩
        | 20, _ =>
          have qe16 : (vs 16) = .bool true := hd 16 (cm (by kernel_rfl)); have qe19 : (vs 19) = .bool true := hd 19 (cm (by kernel_rfl))
          refine step_valg [(16, some 95), (19, some 98)] (fun vΦ _ => vΦ = .bool false) rfl (by kernel_rfl) (fun _ _ h => h) rfl (wanted_some 95 rfl (by rfl) (by kernel_rfl) qe16) fun K hK => ?_; clear hd; simp only [frD, qe16, qe19] at hK ⊢; go_simp
          exact hK _ _ (Below.refl _ _) rfl
        | 21, _ =>
          have qe11 : (vs 11) = .bool false := hd 11 (cm (by kernel_rfl)); have qe16 : (vs 16) = .bool true := hd 16 (cm (by kernel_rfl)); have qe20 : (vs 20) = .bool false := hd 20 (cm (by kernel_rfl))
          refine step_valg [(11, some 90), (16, some 95), (20, some 99)] (fun vΦ _ => vΦ = .bool false) rfl (by kernel_rfl) (fun _ _ h => h) rfl (wanted_some 90 rfl (by rfl) (by kernel_rfl) qe11) fun K hK => ?_; clear hd; simp only [frD, qe11, qe16, qe20] at hK ⊢; go_simp
          exact hK _ _ (Below.refl _ _) rfl
        | 22, _ =>
          have qe11 : (vs 11) = .bool false := hd 11 (cm (by kernel_rfl)); have qe21 : (vs 21) = .bool false := hd 21 (cm (by kernel_rfl))
          refine step_val0 [(11, some 90), (21, some 100)] (fun vΦ _ => vΦ = .bool false) rfl (by kernel_rfl) rfl (fun _ _ h => h) rfl fun K hK => ?_; clear hd; simp only [frD, qe11, qe21] at hK ⊢; go_simp
          exact hK _ _ (Below.refl _ _) rfl
        | i + 23, hi => exact absurd hi (by omega)
      · intro vs W15 hk3 hΦ _
        simp only [List.drop_succ_cons, List.drop_zero]
        rw [fr_frD, show (List.range 23).map _ = [(0, some 79), (1, some 80), (2, some 81), (3, some 82), (4, some 83), (5, some 84), (6, some 85), (7, some 86), (8, some 87), (9, some 88), (10, some 89), (11, some 90), (12, some 91), (13, some 92), (14, some 93), (15, some 94), (16, some 95), (17, some 96), (18, some 97), (19, some 98), (20, some 99), (21, some 100), (22, some 101)] by kernel_rfl]
        have pa0 : (vs 0) = .agg #[.bool b8, .slice A8 n8 c8, .bool d8, .slice B8 m8 e8] := hΦ 0 (by decide)
        have pa1 : (vs 1) = .int .i64 s3 := hΦ 1 (by decide)
        have pa2 : (vs 2) = .bool false := hΦ 2 (by decide)
        have pa3 : (vs 3) = .bool false := hΦ 3 (by decide)
        have pa4 : (vs 4) = undef := hΦ 4 (by decide)
        have pa5 : (vs 5) = undef := hΦ 5 (by decide)
        have pa6 : (vs 6) = undef := hΦ 6 (by decide)
        have pa7 : (vs 7) = undef := hΦ 7 (by decide)
        have pa8 : (vs 8) = undef := hΦ 8 (by decide)
        have pa9 : (vs 9) = undef := hΦ 9 (by decide)
        have pa10 : (vs 10) = .bool false := hΦ 10 (by decide)
        have pa11 : (vs 11) = .bool false := hΦ 11 (by decide)
        have pa12 : (vs 12) = .agg #[.bool b7, .slice A7 n7 c7, .bool d7, .slice B7 m7 e7] := hΦ 12 (by decide)
        have pa13 : (vs 13) = .agg #[.bool b5, .slice A5 n5 c5, .bool d5, .slice B5 m5 e5] := hΦ 13 (by decide)
        have pa14 : (vs 14) = .bool false := hΦ 14 (by decide)
        have pa15 : (vs 15) = .bool true := hΦ 15 (by decide)
        have pa16 : (vs 16) = .bool true := hΦ 16 (by decide)
        have pa17 : (vs 17) = .agg #[.bool b7, .slice A7 n7 c7, .bool d7, .slice B7 m7 e7] := hΦ 17 (by decide)
        have pa18 : (vs 18) = .agg #[.bool b6, .slice A6 n6 c6, .bool d6, .slice B6 m6 e6] := hΦ 18 (by decide)
        have pa19 : (vs 19) = .bool true := hΦ 19 (by decide)
        have pa20 : (vs 20) = .bool false := hΦ 20 (by decide)
        have pa21 : (vs 21) = .bool false := hΦ 21 (by decide)
        have pa22 : (vs 22) = .bool false := hΦ 22 (by decide)
        clear hΦ
        simp only [frD, pa0, pa1, pa2, pa3, pa4, pa5, pa6, pa7, pa8, pa9, pa10, pa11, pa12, pa13, pa14, pa15, pa16, pa17, pa18, pa19, pa20, pa21, pa22]
        simp only [Act.put, List.setIfInBounds_toArray, List.set_cons_zero, List.set_cons_succ]
        clear pa0 pa1 pa2 pa3 pa4 pa5 pa6 pa7 pa8 pa9 pa10 pa11 pa12 pa13 pa14 pa15 pa16 pa17 pa18 pa19 pa20 pa21 pa22
        replace S := S.drew.below hk3
        clear hk3
        have r2_0 := S.c 3 0 rfl rfl
        have r2_1 := S.c 3 1 rfl rfl
        have r2_2 := S.c 3 2 rfl rfl
        have r2_3 := S.c 3 3 rfl rfl
        go_wp2_with fail
        refine ((rcode_eq (fdown_num (k := k) ((S.qi 3 rfl).num (by omega)) (by omega) (ht.keep S.k)) HC.out Q4.out)).mono ?_
        rintro e W16 ⟨U16, rfl, hp, hk⟩
        rw [if_pos rfl] at hp
        obtain ⟨b9, A9, n9, c9, d9, B9, m9, e9, rfl⟩ := hp.open_
        replace S := (S.below hk).addQ hp
        clear hk hp
        clear r2_0 r2_1 r2_2 r2_3
        go_upto_region 14 with fail
        replace S := (S.alloc 28 [.bool b9, .slice A9 n9 c9, .bool d9, .slice B9 m9 e9])
        obtain ⟨W17, eW, S⟩ := S.pack
        rw [eW]
        clear eW
        generalize W16.heap.size = P5 at *
        have r2_0 := S.c 4 0 rfl rfl
        have r2_1 := S.c 4 1 rfl rfl
        have r2_2 := S.c 4 2 rfl rfl
        have r2_3 := S.c 4 3 rfl rfl
        go_wp2_with fail
        refine ((rcode_eq (fup_num (k := k) ((S.qi 4 rfl).num (by omega)) (by omega) (ht.keep S.k)) HC.out Q5.out)).mono ?_
        rintro e W18 ⟨U18, rfl, hp, hk⟩
        rw [if_pos rfl] at hp
        obtain ⟨b10, A10, n10, c10, d10, B10, m10, e10, rfl⟩ := hp.open_
        replace S := (S.below hk).addQ hp
        clear hk hp
        clear r2_0 r2_1 r2_2 r2_3
        go_upto_region 15 with fail
        replace S := (S.alloc 28 [.bool b10, .slice A10 n10 c10, .bool d10, .slice B10 m10 e10])
        obtain ⟨W19, eW, S⟩ := S.pack
        rw [eW]
        clear eW
        generalize W18.heap.size = P6 at *
        have r2_0 := S.c 5 0 rfl rfl
        have r2_1 := S.c 5 1 rfl rfl
        have r2_2 := S.c 5 2 rfl rfl
        have r2_3 := S.c 5 3 rfl rfl
        have r6_0 := S.c 1 0 rfl rfl
        have r6_1 := S.c 1 1 rfl rfl
        have r6_2 := S.c 1 2 rfl rfl
        have r6_3 := S.c 1 3 rfl rfl
        go_wp2_with fail
        refine ((gsame_s (b := true) (S.qi 1 rfl) (S.qi 5 rfl) (by omega) (decide_eq_true rfl))).mono ?_
        rintro e W20 ⟨rfl, hk⟩
        replace S := S.below hk
        clear hk
        clear r2_0 r2_1 r2_2 r2_3 r6_0 r6_1 r6_2 r6_3
        have r2_0 := S.c 5 0 rfl rfl
        have r2_1 := S.c 5 1 rfl rfl
        have r2_2 := S.c 5 2 rfl rfl
        have r2_3 := S.c 5 3 rfl rfl
        have r7_0 := S.c 0 0 rfl rfl
        have r7_1 := S.c 0 1 rfl rfl
        have r7_2 := S.c 0 2 rfl rfl
        have r7_3 := S.c 0 3 rfl rfl
        go_wp2_with fail
        refine ((gsame_s (b := true) (S.qi 0 rfl) (S.qi 5 rfl) (by omega) (decide_eq_true rfl))).mono ?_
        rintro e W21 ⟨rfl, hk⟩
        replace S := S.below hk
        clear hk
        clear r2_0 r2_1 r2_2 r2_3 r7_0 r7_1 r7_2 r7_3
        have r1_0 := S.c 6 0 rfl rfl
        have r1_1 := S.c 6 1 rfl rfl
        have r1_2 := S.c 6 2 rfl rfl
        have r1_3 := S.c 6 3 rfl rfl
        go_wp2_with fail
        refine ((rcode_eq (fdown_num (k := k) ((S.li 6 rfl).num) (by omega) (ht.keep S.k)) HC.out Q6.out)).mono ?_
        rintro e W22 ⟨U22, rfl, hp, hk⟩
        rw [if_pos rfl] at hp
        obtain ⟨b11, A11, n11, c11, d11, B11, m11, e11, rfl⟩ := hp.open_
        replace S := (S.below hk).addQ hp
        clear hk hp
        clear r1_0 r1_1 r1_2 r1_3
        go_upto_region 18 with fail
        replace S := (S.alloc 28 [.bool b11, .slice A11 n11 c11, .bool d11, .slice B11 m11 e11])
        obtain ⟨W23, eW, S⟩ := S.pack
        rw [eW]
        clear eW
        generalize W22.heap.size = P7 at *
        have r1_0 := S.c 7 0 rfl rfl
        have r1_1 := S.c 7 1 rfl rfl
        have r1_2 := S.c 7 2 rfl rfl
        have r1_3 := S.c 7 3 rfl rfl
        go_wp2_with fail
        refine ((rcode_eq (fnear_num (k := k) ((S.li 7 rfl).num) (by omega) (ht.keep S.k)) HC.out Q7.out)).mono ?_
        rintro e W24 ⟨U24, rfl, hp, hk⟩
        rw [if_pos rfl] at hp
        obtain ⟨b12, A12, n12, c12, d12, B12, m12, e12, rfl⟩ := hp.open_
        replace S := (S.below hk).addQ hp
        clear hk hp
        clear r1_0 r1_1 r1_2 r1_3
        go_upto_region 19 with fail
        replace S := (S.alloc 28 [.bool b12, .slice A12 n12 c12, .bool d12, .slice B12 m12 e12])
        obtain ⟨W25, eW, S⟩ := S.pack
        rw [eW]
        clear eW
        generalize W24.heap.size = P8 at *
        have r0_0 := S.c 9 0 rfl rfl
        have r0_1 := S.c 9 1 rfl rfl
        have r0_2 := S.c 9 2 rfl rfl
        have r0_3 := S.c 9 3 rfl rfl
        have r1_0 := S.c 8 0 rfl rfl
        have r1_1 := S.c 8 1 rfl rfl
        have r1_2 := S.c 8 2 rfl rfl
        have r1_3 := S.c 8 3 rfl rfl
        go_wp2_with fail
        refine ((fcompare_s ((S.li 9 rfl).num) ((S.li 8 rfl).num) HS4.out)).mono ?_
        rintro e W26 ⟨rfl, hk⟩
        replace S := S.below hk
        clear hk
        clear r0_0 r0_1 r0_2 r0_3 r1_0 r1_1 r1_2 r1_3
        rcases Bool.eq_false_or_eq_true (decide (0 < s4)) with t7 | t7
        · skip
          go_wp2
          go_ret
          first | exact ⟨rfl, S.k⟩ | exact ⟨by rw [ord_nr p1 HS4.out HS6.out t7] <;> rfl, S.k⟩
        · skip
          have t8 : decide (s5 ≤ 0) = true := by exact ord_dn p1 HS4.out HS5.out t7
          have r2_0 := S.c 7 0 rfl rfl
          have r2_1 := S.c 7 1 rfl rfl
          have r2_2 := S.c 7 2 rfl rfl
          have r2_3 := S.c 7 3 rfl rfl
          have r8_0 := S.c 1 0 rfl rfl
          have r8_1 := S.c 1 1 rfl rfl
          have r8_2 := S.c 1 2 rfl rfl
          have r8_3 := S.c 1 3 rfl rfl
          go_wp2_with fail
          refine ((fcompare_s ((S.qi 7 rfl).num (by omega)) ((S.qi 1 rfl).num (by omega)) HS5.out)).mono ?_
          rintro e W27 ⟨rfl, hk⟩
          replace S := S.below hk
          clear hk
          clear r2_0 r2_1 r2_2 r2_3 r8_0 r8_1 r8_2 r8_3
          have r4_0 := S.c 5 0 rfl rfl
          have r4_1 := S.c 5 1 rfl rfl
          have r4_2 := S.c 5 2 rfl rfl
          have r4_3 := S.c 5 3 rfl rfl
          have r9_0 := S.c 0 0 rfl rfl
          have r9_1 := S.c 0 1 rfl rfl
          have r9_2 := S.c 0 2 rfl rfl
          have r9_3 := S.c 0 3 rfl rfl
          go_wp2_with fail
          refine ((fcompare_s ((S.qi 5 rfl).num (by omega)) ((S.qi 0 rfl).num (by omega)) HS6.out)).mono ?_
          rintro e W28 ⟨rfl, hk⟩
          replace S := S.below hk
          clear hk
          clear r4_0 r4_1 r4_2 r4_3 r9_0 r9_1 r9_2 r9_3
          go_wp2
          go_ret
          first | exact ⟨rfl, S.k⟩ | exact ⟨by rw [ord_nr p1 HS4.out HS6.out t7] <;> rfl, S.k⟩
theorem orders_walk {w : World} {V1 V2 : Value} {x y : Rat} {b1 b2 : Bool} {k : Int} (h1 : RatS w V1 x b1) (h2 : RatS w V2 y b2) (ht : PowTab w) :
    Calls Tryz.prog 10 #[V1, V2, .int .i64 k] w fun e w' => e = .returned (.bool true) ∧ Keeps w w' := by
  cases b1 with
  | false => exact ord_1 h1 h2 ht
  | true => cases b2 with
    | false => exact ord_2 h1 h2 ht
    | true =>
      by_cases hk : k < 0
      · exact ord_neg h1 h2 ht hk
      · by_cases hk2 : 60 < k
        · exact ord_big h1 h2 ht hk2
        · exact ord_ok h1 h2 ht (by omega) (by omega) rfl
end Go.Proofs.YtmochehkkadjnaaGreatDoor
