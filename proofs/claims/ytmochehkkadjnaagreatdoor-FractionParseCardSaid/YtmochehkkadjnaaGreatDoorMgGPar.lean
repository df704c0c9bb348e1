/- The walk of the reference's Parse. The reference's Parse: the three forms joined. -/
import Derived.Test.YtmochehkkadjnaaGreatDoorMgGVl
import Derived.Test.YtmochehkkadjnaaGreatDoorMgFParse
namespace Go.Proofs.YtmochehkkadjnaaGreatDoor
open Go.RowKit Go.Shelf

set_option maxRecDepth 100000 in
set_option maxHeartbeats 1000000 in
theorem gp_long {w : World} {s : ByteArray} (hs : s.size ≤ 9223372036854775807) (hl : 600 < s.size) : Calls Tryz.prog 78 #[.string s] w (RCode 9 0 w) := by
  have t1 : decide (600 < (s.size : Int)) = true := by exact decide_eq_true (by omega)
  have S := (St.start w)
  go_enter Tryz.func78, Tryz.ntmps78
  go_wp2
  replace S := (S.alloc 28 [.bool false, .slice none 0 0, .bool false, .slice none 0 0])
  obtain ⟨W99, eW, S⟩ := S.pack
  rw [eW]
  clear eW
  refine bodyPost_ret (v := .tuple #[.agg #[.bool false, .slice none 0 0, .bool false, .slice none 0 0], .int .i64 9]) (by simp [results, Tryz.results78, go_sem, S.c 0 0 rfl rfl, S.c 0 1 rfl rfl, S.c 0 2 rfl rfl, S.c 0 3 rfl rfl]) rfl ?_
  exact ⟨_, rfl, by rw [if_neg (by decide)]; rfl, S.k⟩
set_option maxRecDepth 100000 in
set_option maxHeartbeats 1000000 in
theorem gp_d0 {w : World} {s : ByteArray} {n : Nat} {q : Rat} (hs : s.size ≤ 600) (hi : Lib.indexByte s.data.toList 46 = (n : Int)) (hd : ∀ W : World, Calls Tryz.prog 131 #[.string s, .int .i64 (n : Int)] W (RCode 0 q W)) : Calls Tryz.prog 78 #[.string s] w (RCode 0 q w) := by
  have HI := Lib.hid hi
  have HD := Lib.hid hd
  clear hi hd
  have t1 : decide (600 < (s.size : Int)) = false := by exact decide_eq_false (by omega)
  have t2 : decide (0 ≤ (n : Int)) = true := by exact decide_eq_true (by omega)
  have S := (St.start w)
  go_enter Tryz.func78, Tryz.ntmps78
  go_wp2_with fail
  replace S := (S.alloc 28 [.bool false, .slice none 0 0, .bool false, .slice none 0 0])
  obtain ⟨W1, eW, S⟩ := S.pack
  rw [eW]
  clear eW
  refine ((gindex_s (by omega) HI.out)).mono ?_
  rintro e W2 ⟨rfl, hk⟩
  replace S := S.below hk
  clear hk
  go_wp2_with fail
  refine ((gindex_s (by omega) HI.out)).mono ?_
  rintro e W3 ⟨rfl, hk⟩
  replace S := S.below hk
  clear hk
  go_wp2_with fail
  refine ((HD.out _)).mono ?_
  rintro e W4 ⟨U4, rfl, hp, hk⟩
  rw [if_pos rfl] at hp
  obtain ⟨b3, A3, n3, c3, d3, B3, m3, e3, rfl⟩ := hp.open_
  replace S := (S.below hk).addQ hp
  clear hk hp
  have r0_0 := S.c 0 0 rfl rfl
  have f0_0 := S.f 0 0 rfl
  have r0_1 := S.c 0 1 rfl rfl
  have f0_1 := S.f 0 1 rfl
  have r0_2 := S.c 0 2 rfl rfl
  have f0_2 := S.f 0 2 rfl
  have r0_3 := S.c 0 3 rfl rfl
  have f0_3 := S.f 0 3 rfl
  go_wp2
  replace S := (S.put4 0 rfl rfl rfl (x' := .bool b3) (y' := .slice A3 n3 c3) (z' := .bool d3) (u' := .slice B3 m3 e3))
  refine bodyPost_ret (v := .tuple #[.agg #[.bool b3, .slice A3 n3 c3, .bool d3, .slice B3 m3 e3], .int .i64 0]) (by simp [results, Tryz.results78, go_sem, S.c 0 0 rfl rfl, S.c 0 1 rfl rfl, S.c 0 2 rfl rfl, S.c 0 3 rfl rfl]) rfl ?_
  exact ⟨_, rfl, by rw [if_pos rfl]; exact S.qi 0 rfl, S.k⟩
set_option maxRecDepth 100000 in
set_option maxHeartbeats 1000000 in
theorem gp_d8 {w : World} {s : ByteArray} {n : Nat} (hs : s.size ≤ 600) (hi : Lib.indexByte s.data.toList 46 = (n : Int)) (hd : ∀ W : World, Calls Tryz.prog 131 #[.string s, .int .i64 (n : Int)] W (RCode 8 0 W)) : Calls Tryz.prog 78 #[.string s] w (RCode 8 0 w) := by
  have HI := Lib.hid hi
  have HD := Lib.hid hd
  clear hi hd
  have t1 : decide (600 < (s.size : Int)) = false := by exact decide_eq_false (by omega)
  have t2 : decide (0 ≤ (n : Int)) = true := by exact decide_eq_true (by omega)
  have S := (St.start w)
  go_enter Tryz.func78, Tryz.ntmps78
  go_wp2_with fail
  replace S := (S.alloc 28 [.bool false, .slice none 0 0, .bool false, .slice none 0 0])
  obtain ⟨W1, eW, S⟩ := S.pack
  rw [eW]
  clear eW
  refine ((gindex_s (by omega) HI.out)).mono ?_
  rintro e W2 ⟨rfl, hk⟩
  replace S := S.below hk
  clear hk
  go_wp2_with fail
  refine ((gindex_s (by omega) HI.out)).mono ?_
  rintro e W3 ⟨rfl, hk⟩
  replace S := S.below hk
  clear hk
  go_wp2_with fail
  refine ((HD.out _)).mono ?_
  rintro e W4 ⟨U4, rfl, hp, hk⟩
  rw [if_neg (by decide)] at hp
  unfold zeroRat at hp
  subst hp
  replace S := S.below hk
  clear hk
  have r0_0 := S.c 0 0 rfl rfl
  have f0_0 := S.f 0 0 rfl
  have r0_1 := S.c 0 1 rfl rfl
  have f0_1 := S.f 0 1 rfl
  have r0_2 := S.c 0 2 rfl rfl
  have f0_2 := S.f 0 2 rfl
  have r0_3 := S.c 0 3 rfl rfl
  have f0_3 := S.f 0 3 rfl
  go_wp2
  replace S := (S.put4 0 rfl rfl rfl (x' := .bool false) (y' := .slice none 0 0) (z' := .bool false) (u' := .slice none 0 0))
  refine bodyPost_ret (v := .tuple #[.agg #[.bool false, .slice none 0 0, .bool false, .slice none 0 0], .int .i64 8]) (by simp [results, Tryz.results78, go_sem, S.c 0 0 rfl rfl, S.c 0 1 rfl rfl, S.c 0 2 rfl rfl, S.c 0 3 rfl rfl]) rfl ?_
  exact ⟨_, rfl, by rw [if_neg (by decide)]; rfl, S.k⟩
set_option maxRecDepth 100000 in
set_option maxHeartbeats 1000000 in
theorem gp_s1 {w : World} {s : ByteArray} {n m1 : Nat} {a b : List UInt8} {z1 z2 c c2 : Int} (hs : s.size ≤ 600) (hi : Lib.indexByte s.data.toList 46 = -1) (hj : Lib.indexByte s.data.toList 47 = (n : Int)) (hn : n < s.size) (qa : IntKind.i64.wrap ((n : Int) + 1) = (m1 : Int)) (hm1 : n + 1 ≤ m1 ∧ m1 ≤ n + 1) (E1 : s.extract 0 n = ByteArray.mk a.toArray) (E2 : s.extract m1 s.size = ByteArray.mk b.toArray) (la : a.length ≤ 600) (lb : b.length ≤ 600) (hz1 : parseZ a = z1) (hz2 : parseZ b = z2) (hc : parseC a = c) (hc2 : parseC b = c2) (h0 : c ≠ 0) : Calls Tryz.prog 78 #[.string s] w (RCode 8 0 w) := by
  have u1 := parse_len a
  have u2 := parse_len b
  rw [hz1] at u1
  rw [hz2] at u2
  have HI := Lib.hid hi
  have HJ := Lib.hid hj
  have HZ1 := Lib.hid hz1
  have HZ2 := Lib.hid hz2
  have HC := Lib.hid hc
  have HC2 := Lib.hid hc2
  clear hi hj hz1 hz2 hc hc2
  have t1 : decide (600 < (s.size : Int)) = false := by exact decide_eq_false (by omega)
  have t2 : decide ((n : Int) < 0) = false := by exact decide_eq_false (by omega)
  have t3 : (c != 0) = true := by exact bne_iff_ne.2 h0
  have S := (St.start w)
  go_enter Tryz.func78, Tryz.ntmps78
  go_wp2_with fail
  replace S := (S.alloc 28 [.bool false, .slice none 0 0, .bool false, .slice none 0 0])
  obtain ⟨W1, eW, S⟩ := S.pack
  rw [eW]
  clear eW
  refine ((gindex_s (by omega) HI.out)).mono ?_
  rintro e W2 ⟨rfl, hk⟩
  replace S := S.below hk
  clear hk
  go_wp2_with fail
  refine ((gindex_s2 (by omega) HJ.out)).mono ?_
  rintro e W3 ⟨rfl, hk⟩
  replace S := S.below hk
  clear hk
  go_wp2_with fail
  refine ((rparse_c (by omega) HZ1.out HC.out)).mono ?_
  rintro e W4 ⟨U4, rfl, hp, hk⟩
  obtain ⟨b3, A3, n3, c3, rfl⟩ := hp.open3
  replace S := (S.below hk).addI hp
  clear hk hp
  go_wp2_with fail
  replace S := (S.alloc 24 [.bool b3, .slice A3 n3 c3])
  obtain ⟨W5, eW, S⟩ := S.pack
  rw [eW]
  clear eW
  generalize W4.heap.size = P1 at *
  refine ((rparse_c (by omega) HZ2.out HC2.out)).mono ?_
  rintro e W6 ⟨U6, rfl, hp, hk⟩
  obtain ⟨b4, A4, n4, c4, rfl⟩ := hp.open3
  replace S := (S.below hk).addI hp
  clear hk hp
  go_upto_region 13 with fail
  replace S := (S.alloc 24 [.bool b4, .slice A4 n4 c4])
  obtain ⟨W7, eW, S⟩ := S.pack
  rw [eW]
  clear eW
  generalize W6.heap.size = P2 at *
  have r0_0 := S.c 2 0 rfl rfl
  have f0_0 := S.f 2 0 rfl
  have r0_1 := S.c 2 1 rfl rfl
  have f0_1 := S.f 2 1 rfl
  have r0_2 := S.c 2 2 rfl rfl
  have f0_2 := S.f 2 2 rfl
  have r0_3 := S.c 2 3 rfl rfl
  have f0_3 := S.f 2 3 rfl
  go_wp2
  replace S := (S.put4 2 rfl rfl rfl (x' := .bool false) (y' := .slice none 0 0) (z' := .bool false) (u' := .slice none 0 0))
  refine bodyPost_ret (v := .tuple #[.agg #[.bool false, .slice none 0 0, .bool false, .slice none 0 0], .int .i64 8]) (by simp [results, Tryz.results78, go_sem, S.c 2 0 rfl rfl, S.c 2 1 rfl rfl, S.c 2 2 rfl rfl, S.c 2 3 rfl rfl]) rfl ?_
  exact ⟨_, rfl, by rw [if_neg (by decide)]; rfl, S.k⟩
set_option maxRecDepth 100000 in
set_option maxHeartbeats 1000000 in
theorem gp_s2 {w : World} {s : ByteArray} {n m1 : Nat} {a b : List UInt8} {z1 z2 c2 : Int} (hs : s.size ≤ 600) (hi : Lib.indexByte s.data.toList 46 = -1) (hj : Lib.indexByte s.data.toList 47 = (n : Int)) (hn : n < s.size) (qa : IntKind.i64.wrap ((n : Int) + 1) = (m1 : Int)) (hm1 : n + 1 ≤ m1 ∧ m1 ≤ n + 1) (E1 : s.extract 0 n = ByteArray.mk a.toArray) (E2 : s.extract m1 s.size = ByteArray.mk b.toArray) (la : a.length ≤ 600) (lb : b.length ≤ 600) (hz1 : parseZ a = z1) (hz2 : parseZ b = z2) (hc : parseC a = 0) (hc2 : parseC b = c2) (h0 : c2 ≠ 0) : Calls Tryz.prog 78 #[.string s] w (RCode 8 0 w) := by
  have u1 := parse_len a
  have u2 := parse_len b
  rw [hz1] at u1
  rw [hz2] at u2
  have HI := Lib.hid hi
  have HJ := Lib.hid hj
  have HZ1 := Lib.hid hz1
  have HZ2 := Lib.hid hz2
  have HC := Lib.hid hc
  have HC2 := Lib.hid hc2
  clear hi hj hz1 hz2 hc hc2
  have t1 : decide (600 < (s.size : Int)) = false := by exact decide_eq_false (by omega)
  have t2 : decide ((n : Int) < 0) = false := by exact decide_eq_false (by omega)
  have t3 : (c2 != 0) = true := by exact bne_iff_ne.2 h0
  have S := (St.start w)
  go_enter Tryz.func78, Tryz.ntmps78
  go_wp2_with fail
  replace S := (S.alloc 28 [.bool false, .slice none 0 0, .bool false, .slice none 0 0])
  obtain ⟨W1, eW, S⟩ := S.pack
  rw [eW]
  clear eW
  refine ((gindex_s (by omega) HI.out)).mono ?_
  rintro e W2 ⟨rfl, hk⟩
  replace S := S.below hk
  clear hk
  go_wp2_with fail
  refine ((gindex_s2 (by omega) HJ.out)).mono ?_
  rintro e W3 ⟨rfl, hk⟩
  replace S := S.below hk
  clear hk
  go_wp2_with fail
  refine ((rparse_c (by omega) HZ1.out HC.out)).mono ?_
  rintro e W4 ⟨U4, rfl, hp, hk⟩
  obtain ⟨b3, A3, n3, c3, rfl⟩ := hp.open3
  replace S := (S.below hk).addI hp
  clear hk hp
  go_wp2_with fail
  replace S := (S.alloc 24 [.bool b3, .slice A3 n3 c3])
  obtain ⟨W5, eW, S⟩ := S.pack
  rw [eW]
  clear eW
  generalize W4.heap.size = P1 at *
  refine ((rparse_c (by omega) HZ2.out HC2.out)).mono ?_
  rintro e W6 ⟨U6, rfl, hp, hk⟩
  obtain ⟨b4, A4, n4, c4, rfl⟩ := hp.open3
  replace S := (S.below hk).addI hp
  clear hk hp
  go_upto_region 13 with fail
  replace S := (S.alloc 24 [.bool b4, .slice A4 n4 c4])
  obtain ⟨W7, eW, S⟩ := S.pack
  rw [eW]
  clear eW
  generalize W6.heap.size = P2 at *
  have r0_0 := S.c 2 0 rfl rfl
  have f0_0 := S.f 2 0 rfl
  have r0_1 := S.c 2 1 rfl rfl
  have f0_1 := S.f 2 1 rfl
  have r0_2 := S.c 2 2 rfl rfl
  have f0_2 := S.f 2 2 rfl
  have r0_3 := S.c 2 3 rfl rfl
  have f0_3 := S.f 2 3 rfl
  go_wp2
  replace S := (S.put4 2 rfl rfl rfl (x' := .bool false) (y' := .slice none 0 0) (z' := .bool false) (u' := .slice none 0 0))
  refine bodyPost_ret (v := .tuple #[.agg #[.bool false, .slice none 0 0, .bool false, .slice none 0 0], .int .i64 8]) (by simp [results, Tryz.results78, go_sem, S.c 2 0 rfl rfl, S.c 2 1 rfl rfl, S.c 2 2 rfl rfl, S.c 2 3 rfl rfl]) rfl ?_
  exact ⟨_, rfl, by rw [if_neg (by decide)]; rfl, S.k⟩
set_option maxRecDepth 100000 in
set_option maxHeartbeats 1000000 in
theorem gp_s3 {w : World} {s : ByteArray} {n m1 : Nat} {a b : List UInt8} {z1 z2 : Int} (hs : s.size ≤ 600) (hi : Lib.indexByte s.data.toList 46 = -1) (hj : Lib.indexByte s.data.toList 47 = (n : Int)) (hn : n < s.size) (qa : IntKind.i64.wrap ((n : Int) + 1) = (m1 : Int)) (hm1 : n + 1 ≤ m1 ∧ m1 ≤ n + 1) (E1 : s.extract 0 n = ByteArray.mk a.toArray) (E2 : s.extract m1 s.size = ByteArray.mk b.toArray) (la : a.length ≤ 600) (lb : b.length ≤ 600) (hz1 : parseZ a = z1) (hz2 : parseZ b = z2) (hc : parseC a = 0) (hc2 : parseC b = 0) (h0 : ¬ 0 < z2) : Calls Tryz.prog 78 #[.string s] w (RCode 8 0 w) := by
  have u1 := parse_len a
  have u2 := parse_len b
  rw [hz1] at u1
  rw [hz2] at u2
  have HI := Lib.hid hi
  have HJ := Lib.hid hj
  have HZ1 := Lib.hid hz1
  have HZ2 := Lib.hid hz2
  have HC := Lib.hid hc
  have HC2 := Lib.hid hc2
  clear hi hj hz1 hz2 hc hc2
  obtain ⟨s1, hs1⟩ : ∃ s, (z2).sign = s := ⟨_, rfl⟩
  have t1 : decide (600 < (s.size : Int)) = false := by exact decide_eq_false (by omega)
  have t2 : decide ((n : Int) < 0) = false := by exact decide_eq_false (by omega)
  have t3 : decide (s1 ≤ 0) = true := by exact decide_eq_true (by rw [← hs1]; exact Int.not_lt.1 (fun h => h0 ((isgn_pos z2).1 h)))
  have HS1 := Lib.hid hs1
  clear hs1
  have S := (St.start w)
  go_enter Tryz.func78, Tryz.ntmps78
  go_wp2_with fail
  replace S := (S.alloc 28 [.bool false, .slice none 0 0, .bool false, .slice none 0 0])
  obtain ⟨W1, eW, S⟩ := S.pack
  rw [eW]
  clear eW
  refine ((gindex_s (by omega) HI.out)).mono ?_
  rintro e W2 ⟨rfl, hk⟩
  replace S := S.below hk
  clear hk
  go_wp2_with fail
  refine ((gindex_s2 (by omega) HJ.out)).mono ?_
  rintro e W3 ⟨rfl, hk⟩
  replace S := S.below hk
  clear hk
  go_wp2_with fail
  refine ((rparse_c (by omega) HZ1.out HC.out)).mono ?_
  rintro e W4 ⟨U4, rfl, hp, hk⟩
  obtain ⟨b3, A3, n3, c3, rfl⟩ := hp.open3
  replace S := (S.below hk).addI hp
  clear hk hp
  go_wp2_with fail
  replace S := (S.alloc 24 [.bool b3, .slice A3 n3 c3])
  obtain ⟨W5, eW, S⟩ := S.pack
  rw [eW]
  clear eW
  generalize W4.heap.size = P1 at *
  refine ((rparse_c (by omega) HZ2.out HC2.out)).mono ?_
  rintro e W6 ⟨U6, rfl, hp, hk⟩
  obtain ⟨b4, A4, n4, c4, rfl⟩ := hp.open3
  replace S := (S.below hk).addI hp
  clear hk hp
  go_upto_region 13 with fail
  replace S := (S.alloc 24 [.bool b4, .slice A4 n4 c4])
  obtain ⟨W7, eW, S⟩ := S.pack
  rw [eW]
  clear eW
  generalize W6.heap.size = P2 at *
  have r2_0 := S.c 0 0 rfl rfl
  have r2_1 := S.c 0 1 rfl rfl
  go_wp2_with fail
  refine ((rsign_s ((S.ii 0 rfl).num (by omega)) HS1.out)).mono ?_
  rintro e W8 ⟨rfl, hk⟩
  replace S := S.below hk
  clear hk
  clear r2_0 r2_1
  have r0_0 := S.c 2 0 rfl rfl
  have f0_0 := S.f 2 0 rfl
  have r0_1 := S.c 2 1 rfl rfl
  have f0_1 := S.f 2 1 rfl
  have r0_2 := S.c 2 2 rfl rfl
  have f0_2 := S.f 2 2 rfl
  have r0_3 := S.c 2 3 rfl rfl
  have f0_3 := S.f 2 3 rfl
  go_wp2
  replace S := (S.put4 2 rfl rfl rfl (x' := .bool false) (y' := .slice none 0 0) (z' := .bool false) (u' := .slice none 0 0))
  refine bodyPost_ret (v := .tuple #[.agg #[.bool false, .slice none 0 0, .bool false, .slice none 0 0], .int .i64 8]) (by simp [results, Tryz.results78, go_sem, S.c 2 0 rfl rfl, S.c 2 1 rfl rfl, S.c 2 2 rfl rfl, S.c 2 3 rfl rfl]) rfl ?_
  exact ⟨_, rfl, by rw [if_neg (by decide)]; rfl, S.k⟩
set_option maxRecDepth 100000 in
set_option maxHeartbeats 1000000 in
theorem gp_s4 {w : World} {s : ByteArray} {n m1 : Nat} {a b : List UInt8} {z1 z2 : Int} (hs : s.size ≤ 600) (hi : Lib.indexByte s.data.toList 46 = -1) (hj : Lib.indexByte s.data.toList 47 = (n : Int)) (hn : n < s.size) (qa : IntKind.i64.wrap ((n : Int) + 1) = (m1 : Int)) (hm1 : n + 1 ≤ m1 ∧ m1 ≤ n + 1) (E1 : s.extract 0 n = ByteArray.mk a.toArray) (E2 : s.extract m1 s.size = ByteArray.mk b.toArray) (la : a.length ≤ 600) (lb : b.length ≤ 600) (hz1 : parseZ a = z1) (hz2 : parseZ b = z2) (hc : parseC a = 0) (hc2 : parseC b = 0) (h0 : 0 < z2) : Calls Tryz.prog 78 #[.string s] w (RCode 0 (Rat.divInt z1 z2) w) := by
  have u1 := parse_len a
  have u2 := parse_len b
  rw [hz1] at u1
  rw [hz2] at u2
  have HI := Lib.hid hi
  have HJ := Lib.hid hj
  have HZ1 := Lib.hid hz1
  have HZ2 := Lib.hid hz2
  have HC := Lib.hid hc
  have HC2 := Lib.hid hc2
  clear hi hj hz1 hz2 hc hc2
  obtain ⟨s1, hs1⟩ : ∃ s, (z2).sign = s := ⟨_, rfl⟩
  have t1 : decide (600 < (s.size : Int)) = false := by exact decide_eq_false (by omega)
  have t2 : decide ((n : Int) < 0) = false := by exact decide_eq_false (by omega)
  have t3 : decide (s1 ≤ 0) = false := by exact decide_eq_false (by rw [← hs1]; exact Int.not_le.2 ((isgn_pos z2).2 h0))
  have HS1 := Lib.hid hs1
  clear hs1
  have S := (St.start w)
  go_enter Tryz.func78, Tryz.ntmps78
  go_wp2_with fail
  replace S := (S.alloc 28 [.bool false, .slice none 0 0, .bool false, .slice none 0 0])
  obtain ⟨W1, eW, S⟩ := S.pack
  rw [eW]
  clear eW
  refine ((gindex_s (by omega) HI.out)).mono ?_
  rintro e W2 ⟨rfl, hk⟩
  replace S := S.below hk
  clear hk
  go_wp2_with fail
  refine ((gindex_s2 (by omega) HJ.out)).mono ?_
  rintro e W3 ⟨rfl, hk⟩
  replace S := S.below hk
  clear hk
  go_wp2_with fail
  refine ((rparse_c (by omega) HZ1.out HC.out)).mono ?_
  rintro e W4 ⟨U4, rfl, hp, hk⟩
  obtain ⟨b3, A3, n3, c3, rfl⟩ := hp.open3
  replace S := (S.below hk).addI hp
  clear hk hp
  go_wp2_with fail
  replace S := (S.alloc 24 [.bool b3, .slice A3 n3 c3])
  obtain ⟨W5, eW, S⟩ := S.pack
  rw [eW]
  clear eW
  generalize W4.heap.size = P1 at *
  refine ((rparse_c (by omega) HZ2.out HC2.out)).mono ?_
  rintro e W6 ⟨U6, rfl, hp, hk⟩
  obtain ⟨b4, A4, n4, c4, rfl⟩ := hp.open3
  replace S := (S.below hk).addI hp
  clear hk hp
  go_upto_region 13 with fail
  replace S := (S.alloc 24 [.bool b4, .slice A4 n4 c4])
  obtain ⟨W7, eW, S⟩ := S.pack
  rw [eW]
  clear eW
  generalize W6.heap.size = P2 at *
  have r2_0 := S.c 0 0 rfl rfl
  have r2_1 := S.c 0 1 rfl rfl
  go_wp2_with fail
  refine ((rsign_s ((S.ii 0 rfl).num (by omega)) HS1.out)).mono ?_
  rintro e W8 ⟨rfl, hk⟩
  replace S := S.below hk
  clear hk
  clear r2_0 r2_1
  have r1_0 := S.c 1 0 rfl rfl
  have r1_1 := S.c 1 1 rfl rfl
  have r2_0 := S.c 0 0 rfl rfl
  have r2_1 := S.c 0 1 rfl rfl
  go_wp2_with fail
  refine ((greduced_num ((S.ii 1 rfl).num4 (by omega)) ((S.ii 0 rfl).num4 (by omega)) (by omega))).mono ?_
  rintro e W9 ⟨U9, rfl, hp, hk⟩
  obtain ⟨b5, A5, n5, c5, d5, B5, m5, e5, rfl⟩ := hp.open_
  replace S := (S.below hk).addQ hp
  clear hk hp
  clear r1_0 r1_1 r2_0 r2_1
  have r0_0 := S.c 2 0 rfl rfl
  have f0_0 := S.f 2 0 rfl
  have r0_1 := S.c 2 1 rfl rfl
  have f0_1 := S.f 2 1 rfl
  have r0_2 := S.c 2 2 rfl rfl
  have f0_2 := S.f 2 2 rfl
  have r0_3 := S.c 2 3 rfl rfl
  have f0_3 := S.f 2 3 rfl
  go_wp2
  replace S := (S.put4 2 rfl rfl rfl (x' := .bool b5) (y' := .slice A5 n5 c5) (z' := .bool d5) (u' := .slice B5 m5 e5))
  refine bodyPost_ret (v := .tuple #[.agg #[.bool b5, .slice A5 n5 c5, .bool d5, .slice B5 m5 e5], .int .i64 0]) (by simp [results, Tryz.results78, go_sem, S.c 2 0 rfl rfl, S.c 2 1 rfl rfl, S.c 2 2 rfl rfl, S.c 2 3 rfl rfl]) rfl ?_
  exact ⟨_, rfl, by rw [if_pos rfl]; exact S.qi 0 rfl, S.k⟩
set_option maxRecDepth 100000 in
set_option maxHeartbeats 1000000 in
theorem gp_i0 {w : World} {s : ByteArray} {z c : Int} (hs : s.size ≤ 600) (hi : Lib.indexByte s.data.toList 46 = -1) (hj : Lib.indexByte s.data.toList 47 = -1) (hz1 : parseZ s.data.toList = z) (hc : parseC s.data.toList = c) (h0 : c ≠ 0) : Calls Tryz.prog 78 #[.string s] w (RCode 8 0 w) := by
  have u1 := parse_len s.data.toList
  rw [hz1] at u1
  have HI := Lib.hid hi
  have HJ := Lib.hid hj
  have HZ1 := Lib.hid hz1
  have HC := Lib.hid hc
  clear hi hj hz1 hc
  have t1 : decide (600 < (s.size : Int)) = false := by exact decide_eq_false (by omega)
  have t2 : (c != 0) = true := by exact bne_iff_ne.2 h0
  have S := (St.start w)
  go_enter Tryz.func78, Tryz.ntmps78
  go_wp2_with fail
  replace S := (S.alloc 28 [.bool false, .slice none 0 0, .bool false, .slice none 0 0])
  obtain ⟨W1, eW, S⟩ := S.pack
  rw [eW]
  clear eW
  refine ((gindex_s (by omega) HI.out)).mono ?_
  rintro e W2 ⟨rfl, hk⟩
  replace S := S.below hk
  clear hk
  go_wp2_with fail
  refine ((gindex_s2 (by omega) HJ.out)).mono ?_
  rintro e W3 ⟨rfl, hk⟩
  replace S := S.below hk
  clear hk
  go_wp2_with fail
  refine ((rparse_s _ (by omega) HZ1.out HC.out)).mono ?_
  rintro e W4 ⟨U4, rfl, hp, hk⟩
  obtain ⟨b3, A3, n3, c3, rfl⟩ := hp.open3
  replace S := (S.below hk).addI hp
  clear hk hp
  go_upto_region 9 with fail
  replace S := (S.alloc 24 [.bool b3, .slice A3 n3 c3])
  obtain ⟨W5, eW, S⟩ := S.pack
  rw [eW]
  clear eW
  generalize W4.heap.size = P1 at *
  have r0_0 := S.c 1 0 rfl rfl
  have f0_0 := S.f 1 0 rfl
  have r0_1 := S.c 1 1 rfl rfl
  have f0_1 := S.f 1 1 rfl
  have r0_2 := S.c 1 2 rfl rfl
  have f0_2 := S.f 1 2 rfl
  have r0_3 := S.c 1 3 rfl rfl
  have f0_3 := S.f 1 3 rfl
  go_wp2
  replace S := (S.put4 1 rfl rfl rfl (x' := .bool false) (y' := .slice none 0 0) (z' := .bool false) (u' := .slice none 0 0))
  refine bodyPost_ret (v := .tuple #[.agg #[.bool false, .slice none 0 0, .bool false, .slice none 0 0], .int .i64 8]) (by simp [results, Tryz.results78, go_sem, S.c 1 0 rfl rfl, S.c 1 1 rfl rfl, S.c 1 2 rfl rfl, S.c 1 3 rfl rfl]) rfl ?_
  exact ⟨_, rfl, by rw [if_neg (by decide)]; rfl, S.k⟩
set_option maxRecDepth 100000 in
set_option maxHeartbeats 1000000 in
theorem gp_i1 {w : World} {s : ByteArray} {z : Int} (hs : s.size ≤ 600) (hi : Lib.indexByte s.data.toList 46 = -1) (hj : Lib.indexByte s.data.toList 47 = -1) (hz1 : parseZ s.data.toList = z) (hc : parseC s.data.toList = 0) : Calls Tryz.prog 78 #[.string s] w (RCode 0 (z : Rat) w) := by
  have u1 := parse_len s.data.toList
  rw [hz1] at u1
  have HI := Lib.hid hi
  have HJ := Lib.hid hj
  have HZ1 := Lib.hid hz1
  have HC := Lib.hid hc
  clear hi hj hz1 hc
  have t1 : decide (600 < (s.size : Int)) = false := by exact decide_eq_false (by omega)
  have S := (St.start w)
  go_enter Tryz.func78, Tryz.ntmps78
  go_wp2_with fail
  replace S := (S.alloc 28 [.bool false, .slice none 0 0, .bool false, .slice none 0 0])
  obtain ⟨W1, eW, S⟩ := S.pack
  rw [eW]
  clear eW
  refine ((gindex_s (by omega) HI.out)).mono ?_
  rintro e W2 ⟨rfl, hk⟩
  replace S := S.below hk
  clear hk
  go_wp2_with fail
  refine ((gindex_s2 (by omega) HJ.out)).mono ?_
  rintro e W3 ⟨rfl, hk⟩
  replace S := S.below hk
  clear hk
  go_wp2_with fail
  refine ((rparse_s _ (by omega) HZ1.out HC.out)).mono ?_
  rintro e W4 ⟨U4, rfl, hp, hk⟩
  obtain ⟨b3, A3, n3, c3, rfl⟩ := hp.open3
  replace S := (S.below hk).addI hp
  clear hk hp
  go_upto_region 10 with fail
  replace S := (S.alloc 24 [.bool b3, .slice A3 n3 c3])
  obtain ⟨W5, eW, S⟩ := S.pack
  rw [eW]
  clear eW
  generalize W4.heap.size = P1 at *
  refine wp_region_steps (m := 2) rfl (by kernel_rfl) (fun iΦ vΦ wΦ => (List.getD [fun vΦ _ => vΦ = .agg #[.bool b3, .slice A3 n3 c3], fun vΦ wΦ => IntRep wΦ vΦ (1)] iΦ (fun _ _ => True)) vΦ wΦ) [] ?_ ?_ ?_
  · intro i v w w' _ h hk
    refine stabL_get ?_ i v w w' h hk
    exact stab_cons st_e (stab_cons st_i stab_nil)
  · intro i hi vs w3 hk3 hd
    have S3 := S.drew.below hk3
    have a0 := S3.c 0 0 rfl rfl
    have a1 := S3.c 0 1 rfl rfl
    match i, hi with
    | 0, _ =>
      refine step_val0 [] (fun vΦ _ => vΦ = .agg #[.bool b3, .slice A3 n3 c3]) rfl (by kernel_rfl) rfl (fun _ _ h => h) rfl fun K hK => ?_; clear hd; simp only [frD] at hK ⊢; go_simp
      exact hK _ _ (Below.refl _ _) rfl
    | 1, _ =>
      refine step_call (F := 85) (X := .func (.func 85) #[] #[]) (A := #[.int .i64 1]) (B := #[.int .i64 1]) [] (fun vΦ wΦ => IntRep wΦ vΦ (1)) rfl (by kernel_rfl) (fun _ _ h => h) rfl (wanted_none rfl) rfl rfl (by kernel_rfl) rfl (by kernel_rfl) rfl Tryz.func85 (by kernel_rfl) (by kernel_rfl) ?_
      refine ((whole_int 1 (by omega) (by omega))).mono ?_; rintro e w4 ⟨U, rfl, hr, hk4⟩; exact ⟨_, rfl, hk4, hr⟩
    | i + 2, hi => exact absurd hi (by omega)
  · intro vs W6 hk3 hΦ _
    simp only [List.drop_succ_cons, List.drop_zero]
    rw [fr_frD, show (List.range 2).map _ = [(0, some 36), (1, some 37)] by kernel_rfl]
    have pa0 : (vs 0) = .agg #[.bool b3, .slice A3 n3 c3] := hΦ 0 (by decide)
    have pa1 : IntRep W6 (vs 1) (1) := hΦ 1 (by decide)
    clear hΦ
    simp only [frD, pa0]
    simp only [Act.put, List.setIfInBounds_toArray, List.set_cons_zero, List.set_cons_succ]
    clear pa0
    generalize vs 1 = Upa1 at pa1 ⊢
    replace S := S.drew.below hk3
    obtain ⟨b4, A4, n4, c4, rfl⟩ := pa1.open3
    replace S := S.addI pa1
    clear pa1
    clear hk3
    replace S := S.addQ (RatRep.whole (S.ii 1 rfl) (S.ii 0 rfl))
    have r0_0 := S.c 1 0 rfl rfl
    have f0_0 := S.f 1 0 rfl
    have r0_1 := S.c 1 1 rfl rfl
    have f0_1 := S.f 1 1 rfl
    have r0_2 := S.c 1 2 rfl rfl
    have f0_2 := S.f 1 2 rfl
    have r0_3 := S.c 1 3 rfl rfl
    have f0_3 := S.f 1 3 rfl
    go_wp2
    replace S := (S.put4 1 rfl rfl rfl (x' := .bool b3) (y' := .slice A3 n3 c3) (z' := .bool b4) (u' := .slice A4 n4 c4))
    refine bodyPost_ret (v := .tuple #[.agg #[.bool b3, .slice A3 n3 c3, .bool b4, .slice A4 n4 c4], .int .i64 0]) (by simp [results, Tryz.results78, go_sem, S.c 1 0 rfl rfl, S.c 1 1 rfl rfl, S.c 1 2 rfl rfl, S.c 1 3 rfl rfl]) rfl ?_
    exact ⟨_, rfl, by rw [if_pos rfl]; exact S.qi 0 rfl, S.k⟩
end Go.Proofs.YtmochehkkadjnaaGreatDoor

namespace Go.Proofs.YtmochehkkadjnaaGreatDoor
open Go.RowKit Go.Shelf

theorem gdig_f (l : List UInt8) (n : Int) : gdigB l n = (fdigB l && decide ((l.length : Int) ≤ n)) := by
  unfold gdigB fdigB
  cases l with
  | nil => simp
  | cons x r =>
    have h1 : decide ((((x :: r).length : Nat) : Int) < 1) = false := decide_eq_false (by rw [List.length_cons]; omega)
    rw [h1, List.isEmpty_cons]
    by_cases h : n < (((x :: r).length : Nat) : Int)
    · rw [decide_eq_true h, decide_eq_false (by omega : ¬ (((x :: r).length : Nat) : Int) ≤ n)]; simp
    · rw [decide_eq_false h, decide_eq_true (by omega : (((x :: r).length : Nat) : Int) ≤ n)]; simp
theorem gdec_any {w : World} {s : ByteArray} {a b : List UInt8} (hs : s.size ≤ 600) (hl : s.data.toList = a ++ 46 :: b) :
    Calls Tryz.prog 131 #[.string s, .int .i64 (a.length : Int)] w (RCode (if decOk a b = true then 0 else 8) (if decOk a b = true then decV a b else 0) w) := by
  have hsz : s.size = a.length + (b.length + 1) := by
    have : s.data.toList.length = s.size := by simp
    rw [← this, hl]; simp
  have qa : IntKind.i64.wrap ((a.length : Int) + 1) = ((a.length + 1 : Nat) : Int) := by rw [IntWalk.i64_in _ (by omega)]; omega
  have E2 : s.extract (a.length + 1) s.size = ByteArray.mk b.toArray := by
    rw [Lib.extract_eq, hl, hsz]
    have e1 : (a ++ 46 :: b).drop (a.length + 1) = b := by simp
    rw [e1, List.take_of_length_le (by omega)]
  have hall : decOk a b = true → (bodyOf a ++ b).all isDg = true := fun h => by
    unfold decOk at h
    simp only [Bool.and_eq_true] at h
    rw [List.all_append, h.1, h.2.2.2.1]; rfl
  have hbl := body_len a
  have uv : decOk a b = true → lenI (valD (bodyOf a ++ b) : Int) ≤ 230 := fun h => by
    have := valD_lt _ (hall h)
    rw [List.length_append] at this
    refine dig_length_le (n := ((valD (bodyOf a ++ b) : Nat) : Int).natAbs) (k := 230) ?_
    rw [Int.natAbs_natCast]
    exact Nat.lt_of_lt_of_le this (pow_230 _ (by omega))
  have hcat : (ByteArray.mk (bodyOf a).toArray ++ ByteArray.mk b.toArray) = ByteArray.mk (bodyOf a ++ b).toArray := cat_str _ _
  have hg1 : gdigB (ByteArray.mk (bodyOf a).toArray).data.toList 600 = fdigB (bodyOf a) := by
    show gdigB (bodyOf a) 600 = _
    rw [gdig_f, decide_eq_true (show (((bodyOf a).length : Nat) : Int) ≤ 600 by omega), Bool.and_true]
  have hg2 : gdigB (ByteArray.mk b.toArray).data.toList 100 = (fdigB b && decide (b.length ≤ 100)) := by
    show gdigB b 100 = _
    rw [gdig_f, show decide (((b.length : Nat) : Int) ≤ 100) = decide (b.length ≤ 100) from decide_eq_decide.2 (by omega)]
  have hb1 : fdigB (bodyOf a) = false → (if decOk a b = true then (0 : Int) else 8) = 8 := fun h => by
    rw [if_neg]; rw [decOk_eq, h]; simp
  have hb2 : 1 < (ByteArray.mk (bodyOf a).toArray).size → (∃ h : 0 < (ByteArray.mk (bodyOf a).toArray).size, (ByteArray.mk (bodyOf a).toArray)[0].toNat = 48) → (if decOk a b = true then (0 : Int) else 8) = 8 := fun h1 h2 => by
    rw [size_mk] at h1
    rw [if_neg]; rw [decOk_eq, (hd48 _).1 h2, decide_eq_true h1]; simp
  have hb3 : (fdigB b && decide (b.length ≤ 100)) = false → (if decOk a b = true then (0 : Int) else 8) = 8 := fun h => by
    rw [if_neg]; rw [decOk_eq, h]; simp
  have hok : fdigB (bodyOf a) = true → ¬ (1 < (ByteArray.mk (bodyOf a).toArray).size ∧ ∃ h : 0 < (ByteArray.mk (bodyOf a).toArray).size, (ByteArray.mk (bodyOf a).toArray)[0].toNat = 48) → (fdigB b && decide (b.length ≤ 100)) = true → decOk a b = true := fun h1 h2 h3 => by
    rw [decOk_eq, h1, h3]
    by_cases hx : 1 < (bodyOf a).length
    · have : ¬ (bodyOf a).head? = some 48 := fun e => h2 ⟨by rw [size_mk]; exact hx, (hd48 _).2 e⟩
      simp [this]
    · simp [hx]
  have e10 : ((10 ^ b.length : Nat) : Int) = 10 ^ ((b.length : Int)).toNat := by rw [Int.toNat_natCast]; norm_cast
  match a, hl, hsz, qa, E2, hall, hbl, uv, hcat, hg1, hg2, hb1, hb2, hb3, hok with
  | [], hl, hsz, qa, E2, hall, hbl, uv, hcat, hg1, hg2, hb1, hb2, hb3, hok =>
    have h8 : decOk [] b = false := by unfold decOk; rfl
    rw [h8]
    exact gd_zero (D := ByteArray.mk #[]) (n := 0) (m1 := 1) hs (by rw [hsz]; simp) qa ⟨by omega, by omega⟩ (by rw [Lib.extract_eq]; simp) E2 (by rfl) (by decide) (by omega)
  | x :: r, hl, hsz, qa, E2, hall, hbl, uv, hcat, hg1, hg2, hb1, hb2, hb3, hok =>
    have hn0 : 0 < (x :: r).length := by simp
    have hs0 : 0 < s.size := by rw [hsz]; omega
    have h0 : s[0] = x := by
      have : s.data.toList[0]'(by simp; exact hs0) = x := by simp [hl]
      exact this
    have hlt : (x :: r).length < s.size := by rw [hsz]; omega
    by_cases hx : x = 45
    · subst hx
      have h45 : ((s[0].toNat : Int) == 45) = true := by rw [h0]; rfl
      have E1 : s.extract 1 (45 :: r).length = ByteArray.mk (bodyOf (45 :: r)).toArray := by
        rw [Lib.extract_eq, hl]
        simp [bodyOf]
      by_cases hr : (bodyOf (45 :: r)).length = 0
      · have h8 : decOk (45 :: r) b = false := by
          rw [decOk_eq, List.eq_nil_of_length_eq_zero hr]; rfl
        rw [h8]
        exact gd_negx hs hlt qa ⟨Nat.le_refl _, Nat.le_refl _⟩ E1 E2 (by rw [hg1, List.eq_nil_of_length_eq_zero hr]; rfl) (by rw [size_mk]; omega) hn0 hs0 h45
      · skip
        refine gd_neg (D := ⟨(bodyOf (45 :: r)).toArray⟩) (E := ⟨b.toArray⟩) (X := ⟨(bodyOf (45 :: r) ++ b).toArray⟩) (v := valD (bodyOf (45 :: r) ++ b)) hs hlt qa ⟨Nat.le_refl _, Nat.le_refl _⟩ E1 E2 hcat hg1 hg2 (by rw [size_mk]; omega) (by rw [size_mk]; omega) hn0 hs0 h45 (by rw [size_mk]; omega) hb1 hb2 hb3 ?_
        intro h1 h2 h3
        have hd := hok h1 h2 h3
        rw [show (ByteArray.mk b.toArray).size = b.length from size_mk b, show (ByteArray.mk (bodyOf (45 :: r) ++ b).toArray).size = (bodyOf (45 :: r) ++ b).length from size_mk _, if_pos hd, if_pos hd]
        refine ⟨rfl, hall hd, by rw [List.length_append]; omega, by simp only [Bool.and_eq_true, decide_eq_true_eq] at h3; exact h3.2, ?_, rfl, uv hd⟩
        unfold decV sgnN
        rw [show negOf (45 :: r) = true from rfl, if_pos rfl, e10, ← Rat.neg_divInt]
    · have hx2 : x.toNat ≠ 45 := fun e => hx (UInt8.toNat_inj.1 e)
      have h45 : ((s[0].toNat : Int) == 45) = false := by rw [h0, beq_eq_false_iff_ne]; omega
      have hbo : bodyOf (x :: r) = x :: r := by simp [bodyOf, hx]
      have E1 : s.extract 0 (x :: r).length = ByteArray.mk (bodyOf (x :: r)).toArray := by
        rw [Lib.extract_eq, hl, hbo]
        simp
      have hr : (bodyOf (x :: r)).length ≠ 0 := by rw [hbo]; simp
      refine gd_pos (D := ⟨(bodyOf (x :: r)).toArray⟩) (E := ⟨b.toArray⟩) (X := ⟨(bodyOf (x :: r) ++ b).toArray⟩) (v := valD (bodyOf (x :: r) ++ b)) hs hlt qa ⟨Nat.le_refl _, Nat.le_refl _⟩ E1 E2 hcat hg1 hg2 (by rw [size_mk]; omega) (by rw [size_mk]; omega) hn0 hs0 h45 (by rw [size_mk]; omega) hb1 hb2 hb3 ?_
      intro h1 h2 h3
      have hd := hok h1 h2 h3
      rw [show (ByteArray.mk b.toArray).size = b.length from size_mk b, show (ByteArray.mk (bodyOf (x :: r) ++ b).toArray).size = (bodyOf (x :: r) ++ b).length from size_mk _, if_pos hd, if_pos hd]
      refine ⟨rfl, hall hd, by rw [List.length_append]; omega, by simp only [Bool.and_eq_true, decide_eq_true_eq] at h3; exact h3.2, ?_, rfl, uv hd⟩
      unfold decV sgnN
      rw [show negOf (x :: r) = false from by simp [negOf, hx], if_neg (by decide), e10]
theorem gparse_any {w : World} {s : ByteArray} (hs : s.size ≤ 9223372036854775807) : Calls Tryz.prog 78 #[.string s] w (RCode (fparse s.data.toList).1 (fparse s.data.toList).2 w) := by
  have hlen : s.data.toList.length = s.size := by simp
  by_cases hl : 600 < s.size
  · rw [fparse_long (by omega)]; exact gp_long hs hl
  by_cases h46 : 46 ∈ s.data.toList
  · rw [fparse_dot (by omega) h46]
    have hi := indexByte_pre 46 s.data.toList
    rw [if_pos h46] at hi
    have hd := fun W : World => gdec_any (w := W) (s := s) (by omega) (cut_at h46)
    split
    · rename_i h
      simp only [h, if_true] at hd
      exact gp_d0 (by omega) hi hd
    · rename_i h
      simp only [h] at hd
      exact gp_d8 (by omega) hi hd
  have hi := indexByte_pre 46 s.data.toList
  rw [if_neg h46] at hi
  by_cases h47 : 47 ∈ s.data.toList
  · rw [fparse_slash (by omega) h47]
    have hj := indexByte_pre 47 s.data.toList
    rw [if_pos h47] at hj
    have hc := cut_at h47
    obtain ⟨a, ha⟩ : ∃ a, pre 47 s.data.toList = a := ⟨_, rfl⟩
    obtain ⟨b, hb⟩ : ∃ b, post 47 s.data.toList = b := ⟨_, rfl⟩
    rw [ha] at hj
    rw [ha, hb] at hc ⊢
    have hsz : s.size = a.length + (b.length + 1) := by rw [← hlen, hc]; simp
    have qa : IntKind.i64.wrap ((a.length : Int) + 1) = ((a.length + 1 : Nat) : Int) := by rw [IntWalk.i64_in _ (by omega)]; omega
    have E1 : s.extract 0 a.length = ByteArray.mk a.toArray := by rw [Lib.extract_eq, hc]; simp
    have E2 : s.extract (a.length + 1) s.size = ByteArray.mk b.toArray := by
      rw [Lib.extract_eq, hc, hsz]
      have e1 : (a ++ 47 :: b).drop (a.length + 1) = b := by simp
      rw [e1, List.take_of_length_le (by omega)]
    by_cases c1 : parseC a = 0
    · by_cases c2 : parseC b = 0
      · by_cases z0 : 0 < parseZ b
        · rw [if_pos ⟨c1, c2, z0⟩]; exact gp_s4 (by omega) hi hj (by omega) qa ⟨Nat.le_refl _, Nat.le_refl _⟩ E1 E2 (by omega) (by omega) rfl rfl c1 c2 z0
        · rw [if_neg (fun h => z0 h.2.2)]; exact gp_s3 (by omega) hi hj (by omega) qa ⟨Nat.le_refl _, Nat.le_refl _⟩ E1 E2 (by omega) (by omega) rfl rfl c1 c2 z0
      · rw [if_neg (fun h => c2 h.2.1)]; exact gp_s2 (by omega) hi hj (by omega) qa ⟨Nat.le_refl _, Nat.le_refl _⟩ E1 E2 (by omega) (by omega) rfl rfl c1 rfl c2
    · rw [if_neg (fun h => c1 h.1)]; exact gp_s1 (by omega) hi hj (by omega) qa ⟨Nat.le_refl _, Nat.le_refl _⟩ E1 E2 (by omega) (by omega) rfl rfl rfl rfl c1
  · have hj := indexByte_pre 47 s.data.toList
    rw [if_neg h47] at hj
    rw [fparse_plain (by omega) h46 h47]
    by_cases c0 : parseC s.data.toList = 0
    · rw [if_pos c0]; exact gp_i1 (by omega) hi hj rfl c0
    · rw [if_neg c0]; exact gp_i0 (by omega) hi hj rfl rfl c0
end Go.Proofs.YtmochehkkadjnaaGreatDoor
