/- The walk of fraction.Parse. fraction.Parse: the three forms joined. -/
import Derived.Test.YtmochehkkadjnaaGreatDoorParseS
import Derived.Test.YtmochehkkadjnaaGreatDoorMgParseNum
import Derived.Test.YtmochehkkadjnaaGreatDoorFDec
import Derived.Test.YtmochehkkadjnaaGreatDoorMgStab
import Derived.Test.YtmochehkkadjnaaGreatDoorMgFMake
namespace Go.Proofs.YtmochehkkadjnaaGreatDoor
open Go.RowKit Go.Shelf

theorem parse_c {l : List UInt8} {z c : Int} {w : World} (hs : l.length ≤ 1000000) (hz : parseZ l = z) (hc : parseC l = c) : Calls Tryz.prog 125 #[.string ⟨l.toArray⟩] w (ParseGives z c w) :=
  parse_s (s := ⟨l.toArray⟩) w (by show l.toArray.size ≤ _; rw [List.size_toArray]; omega) hz hc
theorem fd_no {D : ByteArray} {h : 0 < D.size} (t4 : ((D[0].toNat : Int) == 48) = false) : ¬ (1 < D.size ∧ ∃ h : 0 < D.size, D[0].toNat = 48) := by
  rintro ⟨-, _, e⟩
  rw [e] at t4
  exact absurd t4 (by decide)
theorem fd_48 {D : ByteArray} {h : 0 < D.size} (t4 : ((D[0].toNat : Int) == 48) = true) : D[0].toNat = 48 := by
  have := beq_iff_eq.1 t4
  omega
theorem fd_sm {D : ByteArray} {p : Prop} (t3 : decide (1 < (D.size : Int)) = false) : ¬ (1 < D.size ∧ p) := by
  have := of_decide_eq_false t3
  omega
set_option maxRecDepth 100000 in
set_option maxHeartbeats 1000000 in
theorem fp_long {w : World} {s : ByteArray} (hs : s.size ≤ 9223372036854775807) (hl : 600 < s.size) : Calls Tryz.prog 76 #[.string s] w (RCode 9 0 w) := by
  have t1 : decide (600 < (s.size : Int)) = true := by exact decide_eq_true (by omega)
  have S := (St.start w)
  go_enter Tryz.func76, Tryz.ntmps76
  go_wp2
  replace S := (S.alloc 28 [.bool false, .slice none 0 0, .bool false, .slice none 0 0])
  obtain ⟨W99, eW, S⟩ := S.pack
  rw [eW]
  clear eW
  refine bodyPost_ret (v := .tuple #[.agg #[.bool false, .slice none 0 0, .bool false, .slice none 0 0], .int .i64 9]) (by simp [results, Tryz.results76, go_sem, S.c 0 0 rfl rfl, S.c 0 1 rfl rfl, S.c 0 2 rfl rfl, S.c 0 3 rfl rfl]) rfl ?_
  exact ⟨_, rfl, by rw [if_neg (by decide)]; rfl, S.k⟩
set_option maxRecDepth 100000 in
set_option maxHeartbeats 1000000 in
theorem fp_s1 {w : World} {s : ByteArray} {a b : List UInt8} {z1 z2 c c2 : Int} (hs : s.size ≤ 600) (hm : CutOk w) (h47 : 47 ∈ s.data.toList) (ea : pre 47 s.data.toList = a) (eb : post 47 s.data.toList = b) (la : a.length ≤ 600) (lb : b.length ≤ 600) (hz1 : parseZ a = z1) (hz2 : parseZ b = z2) (hc : parseC a = c) (hc2 : parseC b = c2) (h0 : c ≠ 0) : Calls Tryz.prog 76 #[.string s] w (RCode 8 0 w) := by
  have u1 := parse_len a
  have u2 := parse_len b
  rw [hz1] at u1
  rw [hz2] at u2
  have HM := Lib.hid h47
  have HA := Lib.hid ea
  have HB := Lib.hid eb
  have HZ1 := Lib.hid hz1
  have HZ2 := Lib.hid hz2
  clear h47 ea eb hz1 hz2
  have HC := Lib.hid hc
  have HC2 := Lib.hid hc2
  clear hc hc2
  have t1 : decide (600 < (s.size : Int)) = false := by exact decide_eq_false (by omega)
  have t2 : (c != 0) = true := by exact bne_iff_ne.2 h0
  have S := (St.start w)
  go_enter Tryz.func76, Tryz.ntmps76
  go_wp2_with fail
  replace S := (S.alloc 28 [.bool false, .slice none 0 0, .bool false, .slice none 0 0])
  obtain ⟨W1, eW, S⟩ := S.pack
  rw [eW]
  clear eW
  refine ((cut_yes (hm.keep S.k) (by omega) rfl HM.out HA.out HB.out)).mono ?_
  rintro e W2 ⟨rfl, hk⟩
  replace S := S.below hk
  clear hk
  go_wp2_with fail
  refine ((parse_c (by omega) HZ1.out HC.out)).mono ?_
  rintro e W3 ⟨U3, rfl, hp, hk⟩
  obtain ⟨b3, A3, n3, c3, rfl⟩ := hp.open3
  replace S := (S.below hk).addI hp
  clear hk hp
  go_wp2_with fail
  replace S := (S.alloc 24 [.bool b3, .slice A3 n3 c3])
  obtain ⟨W4, eW, S⟩ := S.pack
  rw [eW]
  clear eW
  generalize W3.heap.size = P1 at *
  refine ((parse_c (by omega) HZ2.out HC2.out)).mono ?_
  rintro e W5 ⟨U5, rfl, hp, hk⟩
  obtain ⟨b4, A4, n4, c4, rfl⟩ := hp.open3
  replace S := (S.below hk).addI hp
  clear hk hp
  go_upto_region 7 with fail
  replace S := (S.alloc 24 [.bool b4, .slice A4 n4 c4])
  obtain ⟨W6, eW, S⟩ := S.pack
  rw [eW]
  clear eW
  generalize W5.heap.size = P2 at *
  have r0_0 := S.c 2 0 rfl rfl
  have f0_0 := S.f 2 0 rfl
  have r0_1 := S.c 2 1 rfl rfl
  have f0_1 := S.f 2 1 rfl
  have r0_2 := S.c 2 2 rfl rfl
  have f0_2 := S.f 2 2 rfl
  have r0_3 := S.c 2 3 rfl rfl
  have f0_3 := S.f 2 3 rfl
  go_wp2
  replace S := (S.put4 2 rfl rfl rfl (x' := .bool false) (y' := .slice none 0 0) (z' := .bool false) (u' := .slice none 0 0))
  refine bodyPost_ret (v := .tuple #[.agg #[.bool false, .slice none 0 0, .bool false, .slice none 0 0], .int .i64 8]) (by simp [results, Tryz.results76, go_sem, S.c 2 0 rfl rfl, S.c 2 1 rfl rfl, S.c 2 2 rfl rfl, S.c 2 3 rfl rfl]) rfl ?_
  exact ⟨_, rfl, by rw [if_neg (by decide)]; rfl, S.k⟩
set_option maxRecDepth 100000 in
set_option maxHeartbeats 1000000 in
theorem fp_s2 {w : World} {s : ByteArray} {a b : List UInt8} {z1 z2 c2 : Int} (hs : s.size ≤ 600) (hm : CutOk w) (h47 : 47 ∈ s.data.toList) (ea : pre 47 s.data.toList = a) (eb : post 47 s.data.toList = b) (la : a.length ≤ 600) (lb : b.length ≤ 600) (hz1 : parseZ a = z1) (hz2 : parseZ b = z2) (hc : parseC a = 0) (hc2 : parseC b = c2) (h0 : c2 ≠ 0) : Calls Tryz.prog 76 #[.string s] w (RCode 8 0 w) := by
  have u1 := parse_len a
  have u2 := parse_len b
  rw [hz1] at u1
  rw [hz2] at u2
  have HM := Lib.hid h47
  have HA := Lib.hid ea
  have HB := Lib.hid eb
  have HZ1 := Lib.hid hz1
  have HZ2 := Lib.hid hz2
  clear h47 ea eb hz1 hz2
  have HC := Lib.hid hc
  have HC2 := Lib.hid hc2
  clear hc hc2
  have t1 : decide (600 < (s.size : Int)) = false := by exact decide_eq_false (by omega)
  have t2 : (c2 != 0) = true := by exact bne_iff_ne.2 h0
  have S := (St.start w)
  go_enter Tryz.func76, Tryz.ntmps76
  go_wp2_with fail
  replace S := (S.alloc 28 [.bool false, .slice none 0 0, .bool false, .slice none 0 0])
  obtain ⟨W1, eW, S⟩ := S.pack
  rw [eW]
  clear eW
  refine ((cut_yes (hm.keep S.k) (by omega) rfl HM.out HA.out HB.out)).mono ?_
  rintro e W2 ⟨rfl, hk⟩
  replace S := S.below hk
  clear hk
  go_wp2_with fail
  refine ((parse_c (by omega) HZ1.out HC.out)).mono ?_
  rintro e W3 ⟨U3, rfl, hp, hk⟩
  obtain ⟨b3, A3, n3, c3, rfl⟩ := hp.open3
  replace S := (S.below hk).addI hp
  clear hk hp
  go_wp2_with fail
  replace S := (S.alloc 24 [.bool b3, .slice A3 n3 c3])
  obtain ⟨W4, eW, S⟩ := S.pack
  rw [eW]
  clear eW
  generalize W3.heap.size = P1 at *
  refine ((parse_c (by omega) HZ2.out HC2.out)).mono ?_
  rintro e W5 ⟨U5, rfl, hp, hk⟩
  obtain ⟨b4, A4, n4, c4, rfl⟩ := hp.open3
  replace S := (S.below hk).addI hp
  clear hk hp
  go_upto_region 7 with fail
  replace S := (S.alloc 24 [.bool b4, .slice A4 n4 c4])
  obtain ⟨W6, eW, S⟩ := S.pack
  rw [eW]
  clear eW
  generalize W5.heap.size = P2 at *
  have r0_0 := S.c 2 0 rfl rfl
  have f0_0 := S.f 2 0 rfl
  have r0_1 := S.c 2 1 rfl rfl
  have f0_1 := S.f 2 1 rfl
  have r0_2 := S.c 2 2 rfl rfl
  have f0_2 := S.f 2 2 rfl
  have r0_3 := S.c 2 3 rfl rfl
  have f0_3 := S.f 2 3 rfl
  go_wp2
  replace S := (S.put4 2 rfl rfl rfl (x' := .bool false) (y' := .slice none 0 0) (z' := .bool false) (u' := .slice none 0 0))
  refine bodyPost_ret (v := .tuple #[.agg #[.bool false, .slice none 0 0, .bool false, .slice none 0 0], .int .i64 8]) (by simp [results, Tryz.results76, go_sem, S.c 2 0 rfl rfl, S.c 2 1 rfl rfl, S.c 2 2 rfl rfl, S.c 2 3 rfl rfl]) rfl ?_
  exact ⟨_, rfl, by rw [if_neg (by decide)]; rfl, S.k⟩
set_option maxRecDepth 100000 in
set_option maxHeartbeats 1000000 in
theorem fp_s3 {w : World} {s : ByteArray} {a b : List UInt8} {z1 z2 : Int} (hs : s.size ≤ 600) (hm : CutOk w) (h47 : 47 ∈ s.data.toList) (ea : pre 47 s.data.toList = a) (eb : post 47 s.data.toList = b) (la : a.length ≤ 600) (lb : b.length ≤ 600) (hz1 : parseZ a = z1) (hz2 : parseZ b = z2) (hc : parseC a = 0) (hc2 : parseC b = 0) (h0 : ¬ 0 < z2) : Calls Tryz.prog 76 #[.string s] w (RCode 8 0 w) := by
  have u1 := parse_len a
  have u2 := parse_len b
  rw [hz1] at u1
  rw [hz2] at u2
  have HM := Lib.hid h47
  have HA := Lib.hid ea
  have HB := Lib.hid eb
  have HZ1 := Lib.hid hz1
  have HZ2 := Lib.hid hz2
  clear h47 ea eb hz1 hz2
  have HC := Lib.hid hc
  have HC2 := Lib.hid hc2
  clear hc hc2
  obtain ⟨s1, hs1⟩ : ∃ s, (z2).sign = s := ⟨_, rfl⟩
  have t1 : decide (600 < (s.size : Int)) = false := by exact decide_eq_false (by omega)
  have t2 : decide (s1 ≤ 0) = true := by exact decide_eq_true (by rw [← hs1]; exact Int.not_lt.1 (fun h => h0 ((isgn_pos z2).1 h)))
  have HS1 := Lib.hid hs1
  clear hs1
  have S := (St.start w)
  go_enter Tryz.func76, Tryz.ntmps76
  go_wp2_with fail
  replace S := (S.alloc 28 [.bool false, .slice none 0 0, .bool false, .slice none 0 0])
  obtain ⟨W1, eW, S⟩ := S.pack
  rw [eW]
  clear eW
  refine ((cut_yes (hm.keep S.k) (by omega) rfl HM.out HA.out HB.out)).mono ?_
  rintro e W2 ⟨rfl, hk⟩
  replace S := S.below hk
  clear hk
  go_wp2_with fail
  refine ((parse_c (by omega) HZ1.out HC.out)).mono ?_
  rintro e W3 ⟨U3, rfl, hp, hk⟩
  obtain ⟨b3, A3, n3, c3, rfl⟩ := hp.open3
  replace S := (S.below hk).addI hp
  clear hk hp
  go_wp2_with fail
  replace S := (S.alloc 24 [.bool b3, .slice A3 n3 c3])
  obtain ⟨W4, eW, S⟩ := S.pack
  rw [eW]
  clear eW
  generalize W3.heap.size = P1 at *
  refine ((parse_c (by omega) HZ2.out HC2.out)).mono ?_
  rintro e W5 ⟨U5, rfl, hp, hk⟩
  obtain ⟨b4, A4, n4, c4, rfl⟩ := hp.open3
  replace S := (S.below hk).addI hp
  clear hk hp
  go_upto_region 7 with fail
  replace S := (S.alloc 24 [.bool b4, .slice A4 n4 c4])
  obtain ⟨W6, eW, S⟩ := S.pack
  rw [eW]
  clear eW
  generalize W5.heap.size = P2 at *
  have r2_0 := S.c 0 0 rfl rfl
  have r2_1 := S.c 0 1 rfl rfl
  go_wp2_with fail
  refine ((sign_s ((S.ii 0 rfl).num (by omega)) HS1.out)).mono ?_
  rintro e W7 ⟨rfl, hk⟩
  replace S := S.below hk
  clear hk
  clear r2_0 r2_1
  have r0_0 := S.c 2 0 rfl rfl
  have f0_0 := S.f 2 0 rfl
  have r0_1 := S.c 2 1 rfl rfl
  have f0_1 := S.f 2 1 rfl
  have r0_2 := S.c 2 2 rfl rfl
  have f0_2 := S.f 2 2 rfl
  have r0_3 := S.c 2 3 rfl rfl
  have f0_3 := S.f 2 3 rfl
  go_wp2
  replace S := (S.put4 2 rfl rfl rfl (x' := .bool false) (y' := .slice none 0 0) (z' := .bool false) (u' := .slice none 0 0))
  refine bodyPost_ret (v := .tuple #[.agg #[.bool false, .slice none 0 0, .bool false, .slice none 0 0], .int .i64 8]) (by simp [results, Tryz.results76, go_sem, S.c 2 0 rfl rfl, S.c 2 1 rfl rfl, S.c 2 2 rfl rfl, S.c 2 3 rfl rfl]) rfl ?_
  exact ⟨_, rfl, by rw [if_neg (by decide)]; rfl, S.k⟩
set_option maxRecDepth 100000 in
set_option maxHeartbeats 1000000 in
theorem fp_s4 {w : World} {s : ByteArray} {a b : List UInt8} {z1 z2 : Int} (hs : s.size ≤ 600) (hm : CutOk w) (h47 : 47 ∈ s.data.toList) (ea : pre 47 s.data.toList = a) (eb : post 47 s.data.toList = b) (la : a.length ≤ 600) (lb : b.length ≤ 600) (hz1 : parseZ a = z1) (hz2 : parseZ b = z2) (hc : parseC a = 0) (hc2 : parseC b = 0) (h0 : 0 < z2) : Calls Tryz.prog 76 #[.string s] w (RCode 0 (Rat.divInt z1 z2) w) := by
  have u1 := parse_len a
  have u2 := parse_len b
  rw [hz1] at u1
  rw [hz2] at u2
  have HM := Lib.hid h47
  have HA := Lib.hid ea
  have HB := Lib.hid eb
  have HZ1 := Lib.hid hz1
  have HZ2 := Lib.hid hz2
  clear h47 ea eb hz1 hz2
  have HC := Lib.hid hc
  have HC2 := Lib.hid hc2
  clear hc hc2
  obtain ⟨s1, hs1⟩ : ∃ s, (z2).sign = s := ⟨_, rfl⟩
  have t1 : decide (600 < (s.size : Int)) = false := by exact decide_eq_false (by omega)
  have t2 : decide (s1 ≤ 0) = false := by exact decide_eq_false (by rw [← hs1]; exact Int.not_le.2 ((isgn_pos z2).2 h0))
  have HS1 := Lib.hid hs1
  clear hs1
  have S := (St.start w)
  go_enter Tryz.func76, Tryz.ntmps76
  go_wp2_with fail
  replace S := (S.alloc 28 [.bool false, .slice none 0 0, .bool false, .slice none 0 0])
  obtain ⟨W1, eW, S⟩ := S.pack
  rw [eW]
  clear eW
  refine ((cut_yes (hm.keep S.k) (by omega) rfl HM.out HA.out HB.out)).mono ?_
  rintro e W2 ⟨rfl, hk⟩
  replace S := S.below hk
  clear hk
  go_wp2_with fail
  refine ((parse_c (by omega) HZ1.out HC.out)).mono ?_
  rintro e W3 ⟨U3, rfl, hp, hk⟩
  obtain ⟨b3, A3, n3, c3, rfl⟩ := hp.open3
  replace S := (S.below hk).addI hp
  clear hk hp
  go_wp2_with fail
  replace S := (S.alloc 24 [.bool b3, .slice A3 n3 c3])
  obtain ⟨W4, eW, S⟩ := S.pack
  rw [eW]
  clear eW
  generalize W3.heap.size = P1 at *
  refine ((parse_c (by omega) HZ2.out HC2.out)).mono ?_
  rintro e W5 ⟨U5, rfl, hp, hk⟩
  obtain ⟨b4, A4, n4, c4, rfl⟩ := hp.open3
  replace S := (S.below hk).addI hp
  clear hk hp
  go_upto_region 7 with fail
  replace S := (S.alloc 24 [.bool b4, .slice A4 n4 c4])
  obtain ⟨W6, eW, S⟩ := S.pack
  rw [eW]
  clear eW
  generalize W5.heap.size = P2 at *
  have r2_0 := S.c 0 0 rfl rfl
  have r2_1 := S.c 0 1 rfl rfl
  go_wp2_with fail
  refine ((sign_s ((S.ii 0 rfl).num (by omega)) HS1.out)).mono ?_
  rintro e W7 ⟨rfl, hk⟩
  replace S := S.below hk
  clear hk
  clear r2_0 r2_1
  have r1_0 := S.c 1 0 rfl rfl
  have r1_1 := S.c 1 1 rfl rfl
  have r2_0 := S.c 0 0 rfl rfl
  have r2_1 := S.c 0 1 rfl rfl
  go_wp2_with fail
  refine ((reduced_num ((S.ii 1 rfl).num (by omega)) ((S.ii 0 rfl).num (by omega)) (by omega))).mono ?_
  rintro e W8 ⟨U8, rfl, hp, hk⟩
  obtain ⟨b5, A5, n5, c5, d5, B5, m5, e5, rfl⟩ := hp.open_
  replace S := (S.below hk).addQ hp
  clear hk hp
  clear r1_0 r1_1 r2_0 r2_1
  have r0_0 := S.c 2 0 rfl rfl
  have f0_0 := S.f 2 0 rfl
  have r0_1 := S.c 2 1 rfl rfl
  have f0_1 := S.f 2 1 rfl
  have r0_2 := S.c 2 2 rfl rfl
  have f0_2 := S.f 2 2 rfl
  have r0_3 := S.c 2 3 rfl rfl
  have f0_3 := S.f 2 3 rfl
  go_wp2
  replace S := (S.put4 2 rfl rfl rfl (x' := .bool b5) (y' := .slice A5 n5 c5) (z' := .bool d5) (u' := .slice B5 m5 e5))
  refine bodyPost_ret (v := .tuple #[.agg #[.bool b5, .slice A5 n5 c5, .bool d5, .slice B5 m5 e5], .int .i64 0]) (by simp [results, Tryz.results76, go_sem, S.c 2 0 rfl rfl, S.c 2 1 rfl rfl, S.c 2 2 rfl rfl, S.c 2 3 rfl rfl]) rfl ?_
  exact ⟨_, rfl, by rw [if_pos rfl]; exact S.qi 0 rfl, S.k⟩
set_option maxRecDepth 100000 in
set_option maxHeartbeats 1000000 in
theorem fp_i0 {w : World} {s : ByteArray} {z c : Int} (hs : s.size ≤ 600) (hm : CutOk w) (h47 : 47 ∉ s.data.toList) (h46 : 46 ∉ s.data.toList) (hz1 : parseZ s.data.toList = z) (hc : parseC s.data.toList = c) (h0 : c ≠ 0) : Calls Tryz.prog 76 #[.string s] w (RCode 8 0 w) := by
  have u1 := parse_len s.data.toList
  rw [hz1] at u1
  have HM := Lib.hid h47
  have HN := Lib.hid h46
  have HZ1 := Lib.hid hz1
  have HC := Lib.hid hc
  clear h47 h46 hz1 hc
  have t1 : decide (600 < (s.size : Int)) = false := by exact decide_eq_false (by omega)
  have t2 : (c != 0) = true := by exact bne_iff_ne.2 h0
  have S := (St.start w)
  go_enter Tryz.func76, Tryz.ntmps76
  go_wp2_with fail
  replace S := (S.alloc 28 [.bool false, .slice none 0 0, .bool false, .slice none 0 0])
  obtain ⟨W1, eW, S⟩ := S.pack
  rw [eW]
  clear eW
  refine ((cut_no (hm.keep S.k) (by omega) rfl HM.out)).mono ?_
  rintro e W2 ⟨rfl, hk⟩
  replace S := S.below hk
  clear hk
  go_wp2_with fail
  refine ((cut_no (hm.keep S.k) (by omega) rfl HN.out)).mono ?_
  rintro e W3 ⟨rfl, hk⟩
  replace S := S.below hk
  clear hk
  go_wp2_with fail
  refine ((parse_s _ (by omega) HZ1.out HC.out)).mono ?_
  rintro e W4 ⟨U4, rfl, hp, hk⟩
  obtain ⟨b3, A3, n3, c3, rfl⟩ := hp.open3
  replace S := (S.below hk).addI hp
  clear hk hp
  go_upto_region 14 with fail
  replace S := (S.alloc 24 [.bool b3, .slice A3 n3 c3])
  obtain ⟨W5, eW, S⟩ := S.pack
  rw [eW]
  clear eW
  generalize W4.heap.size = P1 at *
  have r0_0 := S.c 1 0 rfl rfl
  have f0_0 := S.f 1 0 rfl
  have r0_1 := S.c 1 1 rfl rfl
  have f0_1 := S.f 1 1 rfl
  have r0_2 := S.c 1 2 rfl rfl
  have f0_2 := S.f 1 2 rfl
  have r0_3 := S.c 1 3 rfl rfl
  have f0_3 := S.f 1 3 rfl
  go_wp2
  replace S := (S.put4 1 rfl rfl rfl (x' := .bool false) (y' := .slice none 0 0) (z' := .bool false) (u' := .slice none 0 0))
  refine bodyPost_ret (v := .tuple #[.agg #[.bool false, .slice none 0 0, .bool false, .slice none 0 0], .int .i64 8]) (by simp [results, Tryz.results76, go_sem, S.c 1 0 rfl rfl, S.c 1 1 rfl rfl, S.c 1 2 rfl rfl, S.c 1 3 rfl rfl]) rfl ?_
  exact ⟨_, rfl, by rw [if_neg (by decide)]; rfl, S.k⟩
set_option maxRecDepth 100000 in
set_option maxHeartbeats 1000000 in
theorem fp_i1 {w : World} {s : ByteArray} {z : Int} (hs : s.size ≤ 600) (hm : CutOk w) (h47 : 47 ∉ s.data.toList) (h46 : 46 ∉ s.data.toList) (hz1 : parseZ s.data.toList = z) (hc : parseC s.data.toList = 0) : Calls Tryz.prog 76 #[.string s] w (RCode 0 (z : Rat) w) := by
  have u1 := parse_len s.data.toList
  rw [hz1] at u1
  have HM := Lib.hid h47
  have HN := Lib.hid h46
  have HZ1 := Lib.hid hz1
  have HC := Lib.hid hc
  clear h47 h46 hz1 hc
  have t1 : decide (600 < (s.size : Int)) = false := by exact decide_eq_false (by omega)
  have S := (St.start w)
  go_enter Tryz.func76, Tryz.ntmps76
  go_wp2_with fail
  replace S := (S.alloc 28 [.bool false, .slice none 0 0, .bool false, .slice none 0 0])
  obtain ⟨W1, eW, S⟩ := S.pack
  rw [eW]
  clear eW
  refine ((cut_no (hm.keep S.k) (by omega) rfl HM.out)).mono ?_
  rintro e W2 ⟨rfl, hk⟩
  replace S := S.below hk
  clear hk
  go_wp2_with fail
  refine ((cut_no (hm.keep S.k) (by omega) rfl HN.out)).mono ?_
  rintro e W3 ⟨rfl, hk⟩
  replace S := S.below hk
  clear hk
  go_wp2_with fail
  refine ((parse_s _ (by omega) HZ1.out HC.out)).mono ?_
  rintro e W4 ⟨U4, rfl, hp, hk⟩
  obtain ⟨b3, A3, n3, c3, rfl⟩ := hp.open3
  replace S := (S.below hk).addI hp
  clear hk hp
  go_upto_region 15 with fail
  replace S := (S.alloc 24 [.bool b3, .slice A3 n3 c3])
  obtain ⟨W5, eW, S⟩ := S.pack
  rw [eW]
  clear eW
  generalize W4.heap.size = P1 at *
  refine wp_region_steps (m := 2) rfl (by kernel_rfl) (fun iΦ vΦ wΦ => (List.getD [fun vΦ _ => vΦ = .agg #[.bool b3, .slice A3 n3 c3], fun vΦ wΦ => IntRep wΦ vΦ (1)] iΦ (fun _ _ => True)) vΦ wΦ) [] ?_ ?_ ?_
  · intro i v w w' _ h hk
    refine stabL_get ?_ i v w w' h hk
    exact stab_cons st_e (stab_cons st_i stab_nil)
  · intro i hi vs w3 hk3 hd
    have S3 := S.drew.below hk3
    have a0 := S3.c 0 0 rfl rfl
    have a1 := S3.c 0 1 rfl rfl
    match i, hi with
    | 0, _ =>
      refine step_val0 [] (fun vΦ _ => vΦ = .agg #[.bool b3, .slice A3 n3 c3]) rfl (by kernel_rfl) rfl (fun _ _ h => h) rfl fun K hK => ?_; clear hd; simp only [frD] at hK ⊢; go_simp
      exact hK _ _ (Below.refl _ _) rfl
    | 1, _ =>
      refine step_call (F := 84) (X := .func (.func 84) #[] #[]) (A := #[.int .i64 1]) (B := #[.int .i64 1]) [] (fun vΦ wΦ => IntRep wΦ vΦ (1)) rfl (by kernel_rfl) (fun _ _ h => h) rfl (wanted_none rfl) rfl rfl (by kernel_rfl) rfl (by kernel_rfl) rfl Tryz.func84 (by kernel_rfl) (by kernel_rfl) ?_
      refine ((of_num 1 (by omega) (by omega))).mono ?_; rintro e w4 ⟨U, rfl, hr, hk4⟩; exact ⟨_, rfl, hk4, hr⟩
    | i + 2, hi => exact absurd hi (by omega)
  · intro vs W6 hk3 hΦ _
    simp only [List.drop_succ_cons, List.drop_zero]
    rw [fr_frD, show (List.range 2).map _ = [(0, some 72), (1, some 73)] by kernel_rfl]
    have pa0 : (vs 0) = .agg #[.bool b3, .slice A3 n3 c3] := hΦ 0 (by decide)
    have pa1 : IntRep W6 (vs 1) (1) := hΦ 1 (by decide)
    clear hΦ
    simp only [frD, pa0]
    simp only [Act.put, List.setIfInBounds_toArray, List.set_cons_zero, List.set_cons_succ]
    clear pa0
    generalize vs 1 = Upa1 at pa1 ⊢
    replace S := S.drew.below hk3
    obtain ⟨b4, A4, n4, c4, rfl⟩ := pa1.open3
    replace S := S.addI pa1
    clear pa1
    clear hk3
    replace S := S.addQ (RatRep.whole (S.ii 1 rfl) (S.ii 0 rfl))
    have r0_0 := S.c 1 0 rfl rfl
    have f0_0 := S.f 1 0 rfl
    have r0_1 := S.c 1 1 rfl rfl
    have f0_1 := S.f 1 1 rfl
    have r0_2 := S.c 1 2 rfl rfl
    have f0_2 := S.f 1 2 rfl
    have r0_3 := S.c 1 3 rfl rfl
    have f0_3 := S.f 1 3 rfl
    go_wp2
    replace S := (S.put4 1 rfl rfl rfl (x' := .bool b3) (y' := .slice A3 n3 c3) (z' := .bool b4) (u' := .slice A4 n4 c4))
    refine bodyPost_ret (v := .tuple #[.agg #[.bool b3, .slice A3 n3 c3, .bool b4, .slice A4 n4 c4], .int .i64 0]) (by simp [results, Tryz.results76, go_sem, S.c 1 0 rfl rfl, S.c 1 1 rfl rfl, S.c 1 2 rfl rfl, S.c 1 3 rfl rfl]) rfl ?_
    exact ⟨_, rfl, by rw [if_pos rfl]; exact S.qi 0 rfl, S.k⟩
set_option maxRecDepth 100000 in
set_option maxHeartbeats 1000000 in
theorem fp_d0 {w : World} {s D E X : ByteArray} {a : List UInt8} {bd1 bd2 bneg bz : Bool} {c v : Int} {q : Rat} (hs : s.size ≤ 600) (hm : CutOk w) (h47 : 47 ∉ s.data.toList) (h46 : 46 ∈ s.data.toList) (ea : pre 46 s.data.toList = a) (eb : ByteArray.mk (post 46 s.data.toList).toArray = E) (hD : ByteArray.mk (bodyOf a).toArray = D) (hn : negOf a = bneg) (h1 : fdigB D.data.toList = bd1) (h2 : fdigB E.data.toList = bd2) (_ : D.size ≤ 600) (_ : E.size ≤ 600) (_ : X.size ≤ 1200) (hX : ByteArray.mk (bare (D ++ E).data.toList).toArray = X) (_ : X.toList.isEmpty = bz) (uv : lenI v ≤ 230) (_ : PowTab w) (hdp : D.size = 0) (h10 : bd1 = false) (hb1 : bd1 = false → c = 8) (hb2 : 1 < D.size → (∃ h : 0 < D.size, D[0].toNat = 48) → c = 8) (hb3 : bd2 = false → c = 8) (hb4 : 100 < E.size → c = 8) (hgood : bd1 = true → ¬ (1 < D.size ∧ ∃ h : 0 < D.size, D[0].toNat = 48) → bd2 = true → E.size ≤ 100 → c = 0 ∧ (bz = true → q = ((0 : Int) : Rat)) ∧ (bz = false → parseC X.data.toList = 0 ∧ parseZ X.data.toList = v ∧ q = Rat.divInt (if bneg then -v else v) (10 ^ ((E.size : Int)).toNat))) : Calls Tryz.prog 76 #[.string s] w (RCode c q w) := by
  have u4 : lenI (-v) ≤ 230 := by rw [lenI_neg]; exact uv
  have u6 : (10 : Int) ^ ((E.size : Int)).toNat ≠ 0 := Int.pow_ne_zero (by decide)
  have HM := Lib.hid h47
  have HN := Lib.hid h46
  have HA := Lib.hid ea
  have HE := Lib.hid eb
  have HD := Lib.hid hD
  have HG := Lib.hid hn
  have H1 := Lib.hid h1
  have H2 := Lib.hid h2
  have HX := Lib.hid hX
  have HB1 := Lib.hid hb1
  have HB2 := Lib.hid hb2
  have HB3 := Lib.hid hb3
  have HB4 := Lib.hid hb4
  have HGOOD := Lib.hid hgood
  clear h47 h46 ea eb hD hn h1 h2 hX hb1 hb2 hb3 hb4 hgood
  subst h10
  have t1 : decide (600 < (s.size : Int)) = false := by exact decide_eq_false (by omega)
  have S := (St.start w)
  go_enter Tryz.func76, Tryz.ntmps76
  go_wp2_with fail
  replace S := (S.alloc 28 [.bool false, .slice none 0 0, .bool false, .slice none 0 0])
  obtain ⟨W1, eW, S⟩ := S.pack
  rw [eW]
  clear eW
  refine ((cut_no (hm.keep S.k) (by omega) rfl HM.out)).mono ?_
  rintro e W2 ⟨rfl, hk⟩
  replace S := S.below hk
  clear hk
  go_wp2_with fail
  refine ((cut_yes2 (hm.keep S.k) (by omega) rfl HN.out HA.out HE.out)).mono ?_
  rintro e W3 ⟨rfl, hk⟩
  replace S := S.below hk
  clear hk
  go_wp2_with fail
  refine ((hasp_s HG.out)).mono ?_
  rintro e W4 ⟨rfl, hk⟩
  replace S := S.below hk
  clear hk
  go_wp2_with fail
  refine ((trimp_s HD.out)).mono ?_
  rintro e W5 ⟨rfl, hk⟩
  replace S := S.below hk
  clear hk
  go_wp2_with fail
  refine ((fdigits_b (by omega) H1.out)).mono ?_
  rintro e W6 ⟨rfl, hk⟩
  replace S := S.below hk
  clear hk
  have r0_0 := S.c 0 0 rfl rfl
  have f0_0 := S.f 0 0 rfl
  have r0_1 := S.c 0 1 rfl rfl
  have f0_1 := S.f 0 1 rfl
  have r0_2 := S.c 0 2 rfl rfl
  have f0_2 := S.f 0 2 rfl
  have r0_3 := S.c 0 3 rfl rfl
  have f0_3 := S.f 0 3 rfl
  go_wp2
  replace S := (S.put4 0 rfl rfl rfl (x' := .bool false) (y' := .slice none 0 0) (z' := .bool false) (u' := .slice none 0 0))
  refine bodyPost_ret (v := .tuple #[.agg #[.bool false, .slice none 0 0, .bool false, .slice none 0 0], .int .i64 8]) (by simp [results, Tryz.results76, go_sem, S.c 0 0 rfl rfl, S.c 0 1 rfl rfl, S.c 0 2 rfl rfl, S.c 0 3 rfl rfl]) rfl ?_
  obtain rfl : c = 8 := HB1.out (by simp)
  exact ⟨_, rfl, by rw [if_neg (by decide)]; rfl, S.k⟩
set_option maxRecDepth 100000 in
set_option maxHeartbeats 4000000 in
theorem fp_d {w : World} {s D E X : ByteArray} {a : List UInt8} {bd1 bd2 bneg bz : Bool} {c v : Int} {q : Rat} (hs : s.size ≤ 600) (hm : CutOk w) (h47 : 47 ∉ s.data.toList) (h46 : 46 ∈ s.data.toList) (ea : pre 46 s.data.toList = a) (eb : ByteArray.mk (post 46 s.data.toList).toArray = E) (hD : ByteArray.mk (bodyOf a).toArray = D) (hn : negOf a = bneg) (h1 : fdigB D.data.toList = bd1) (h2 : fdigB E.data.toList = bd2) (lD : D.size ≤ 600) (_ : E.size ≤ 600) (_ : X.size ≤ 1200) (hX : ByteArray.mk (bare (D ++ E).data.toList).toArray = X) (tz : X.toList.isEmpty = bz) (uv : lenI v ≤ 230) (ht : PowTab w) (hdp : 0 < D.size) (hb1 : bd1 = false → c = 8) (hb2 : 1 < D.size → (∃ h : 0 < D.size, D[0].toNat = 48) → c = 8) (hb3 : bd2 = false → c = 8) (hb4 : 100 < E.size → c = 8) (hgood : bd1 = true → ¬ (1 < D.size ∧ ∃ h : 0 < D.size, D[0].toNat = 48) → bd2 = true → E.size ≤ 100 → c = 0 ∧ (bz = true → q = ((0 : Int) : Rat)) ∧ (bz = false → parseC X.data.toList = 0 ∧ parseZ X.data.toList = v ∧ q = Rat.divInt (if bneg then -v else v) (10 ^ ((E.size : Int)).toNat))) : Calls Tryz.prog 76 #[.string s] w (RCode c q w) := by
  have u4 : lenI (-v) ≤ 230 := by rw [lenI_neg]; exact uv
  have u6 : (10 : Int) ^ ((E.size : Int)).toNat ≠ 0 := Int.pow_ne_zero (by decide)
  have HM := Lib.hid h47
  have HN := Lib.hid h46
  have HA := Lib.hid ea
  have HE := Lib.hid eb
  have HD := Lib.hid hD
  have HG := Lib.hid hn
  have H1 := Lib.hid h1
  have H2 := Lib.hid h2
  have HX := Lib.hid hX
  have HB1 := Lib.hid hb1
  have HB2 := Lib.hid hb2
  have HB3 := Lib.hid hb3
  have HB4 := Lib.hid hb4
  have HGOOD := Lib.hid hgood
  clear h47 h46 ea eb hD hn h1 h2 hX hb1 hb2 hb3 hb4 hgood
  have y0 := szR_int 0
  have t1 : decide (600 < (s.size : Int)) = false := by exact decide_eq_false (by omega)
  have S := (St.start w)
  go_enter Tryz.func76, Tryz.ntmps76
  go_wp2_with fail
  replace S := (S.alloc 28 [.bool false, .slice none 0 0, .bool false, .slice none 0 0])
  obtain ⟨W1, eW, S⟩ := S.pack
  rw [eW]
  clear eW
  refine ((cut_no (hm.keep S.k) (by omega) rfl HM.out)).mono ?_
  rintro e W2 ⟨rfl, hk⟩
  replace S := S.below hk
  clear hk
  go_wp2_with fail
  refine ((cut_yes2 (hm.keep S.k) (by omega) rfl HN.out HA.out HE.out)).mono ?_
  rintro e W3 ⟨rfl, hk⟩
  replace S := S.below hk
  clear hk
  go_wp2_with fail
  refine ((hasp_s HG.out)).mono ?_
  rintro e W4 ⟨rfl, hk⟩
  replace S := S.below hk
  clear hk
  go_wp2_with fail
  refine ((trimp_s HD.out)).mono ?_
  rintro e W5 ⟨rfl, hk⟩
  replace S := S.below hk
  clear hk
  go_wp2_with fail
  refine ((fdigits_b (by omega) H1.out)).mono ?_
  rintro e W6 ⟨rfl, hk⟩
  replace S := S.below hk
  clear hk
  rcases Bool.eq_false_or_eq_true (bd1) with rfl | rfl
  · skip
    rcases Bool.eq_false_or_eq_true (decide (1 < (D.size : Int))) with t3 | t3
    · skip
      rcases Bool.eq_false_or_eq_true (((D[0].toNat : Int) == 48)) with t4 | t4
      · skip
        have r0_0 := S.c 0 0 rfl rfl
        have f0_0 := S.f 0 0 rfl
        have r0_1 := S.c 0 1 rfl rfl
        have f0_1 := S.f 0 1 rfl
        have r0_2 := S.c 0 2 rfl rfl
        have f0_2 := S.f 0 2 rfl
        have r0_3 := S.c 0 3 rfl rfl
        have f0_3 := S.f 0 3 rfl
        go_wp2
        replace S := (S.put4 0 rfl rfl rfl (x' := .bool false) (y' := .slice none 0 0) (z' := .bool false) (u' := .slice none 0 0))
        refine bodyPost_ret (v := .tuple #[.agg #[.bool false, .slice none 0 0, .bool false, .slice none 0 0], .int .i64 8]) (by simp [results, Tryz.results76, go_sem, S.c 0 0 rfl rfl, S.c 0 1 rfl rfl, S.c 0 2 rfl rfl, S.c 0 3 rfl rfl]) rfl ?_
        have hc8 : c = 8 := HB2.out (by have := of_decide_eq_true t3; omega) ⟨hdp, fd_48 t4⟩
        subst hc8
        exact ⟨_, rfl, by rw [if_neg (by decide)]; rfl, S.k⟩
      · skip
        go_wp2_with fail
        refine ((fdigits_b (by omega) H2.out)).mono ?_
        rintro e W7 ⟨rfl, hk⟩
        replace S := S.below hk
        clear hk
        rcases Bool.eq_false_or_eq_true (bd2) with rfl | rfl
        · skip
          rcases Bool.eq_false_or_eq_true (decide (100 < (E.size : Int))) with t6 | t6
          · skip
            have r0_0 := S.c 0 0 rfl rfl
            have f0_0 := S.f 0 0 rfl
            have r0_1 := S.c 0 1 rfl rfl
            have f0_1 := S.f 0 1 rfl
            have r0_2 := S.c 0 2 rfl rfl
            have f0_2 := S.f 0 2 rfl
            have r0_3 := S.c 0 3 rfl rfl
            have f0_3 := S.f 0 3 rfl
            go_wp2
            replace S := (S.put4 0 rfl rfl rfl (x' := .bool false) (y' := .slice none 0 0) (z' := .bool false) (u' := .slice none 0 0))
            refine bodyPost_ret (v := .tuple #[.agg #[.bool false, .slice none 0 0, .bool false, .slice none 0 0], .int .i64 8]) (by simp [results, Tryz.results76, go_sem, S.c 0 0 rfl rfl, S.c 0 1 rfl rfl, S.c 0 2 rfl rfl, S.c 0 3 rfl rfl]) rfl ?_
            have hc8 : c = 8 := HB4.out (by have := of_decide_eq_true t6; omega)
            subst hc8
            exact ⟨_, rfl, by rw [if_neg (by decide)]; rfl, S.k⟩
          · skip
            go_wp2_with fail
            refine ((triml_s HX.out)).mono ?_
            rintro e W8 ⟨rfl, hk⟩
            replace S := S.below hk
            clear hk
            rcases Bool.eq_false_or_eq_true (bz) with rfl | rfl
            · skip
              go_wp2_with fail
              refine ((whole_num 0 (by omega) (by omega))).mono ?_
              rintro e W9 ⟨U9, rfl, hp, hk⟩
              obtain ⟨b3, A3, n3, c3, d3, B3, m3, e3, rfl⟩ := hp.open_
              replace S := (S.below hk).addQ hp
              clear hk hp
              have r0_0 := S.c 0 0 rfl rfl
              have f0_0 := S.f 0 0 rfl
              have r0_1 := S.c 0 1 rfl rfl
              have f0_1 := S.f 0 1 rfl
              have r0_2 := S.c 0 2 rfl rfl
              have f0_2 := S.f 0 2 rfl
              have r0_3 := S.c 0 3 rfl rfl
              have f0_3 := S.f 0 3 rfl
              go_wp2
              replace S := (S.put4 0 rfl rfl rfl (x' := .bool b3) (y' := .slice A3 n3 c3) (z' := .bool d3) (u' := .slice B3 m3 e3))
              refine bodyPost_ret (v := .tuple #[.agg #[.bool b3, .slice A3 n3 c3, .bool d3, .slice B3 m3 e3], .int .i64 0]) (by simp [results, Tryz.results76, go_sem, S.c 0 0 rfl rfl, S.c 0 1 rfl rfl, S.c 0 2 rfl rfl, S.c 0 3 rfl rfl]) rfl ?_
              have hg := HGOOD.out (by simp) (fd_no t4) (by simp) (by have := of_decide_eq_false t6; omega)
              have hq := hg.2.1 (by simp)
              obtain ⟨rfl, -⟩ := hg
              subst hq
              exact ⟨_, rfl, by rw [if_pos rfl]; exact S.qi 0 rfl, S.k⟩
            · skip
              have eI : E.size ≤ 100 := by have := of_decide_eq_false t6; omega
              have u3 : lenI (10 ^ ((E.size : Int)).toNat) ≤ 12 := by have := of_decide_eq_false t6; exact lenI_ten _ (by omega)
              have HV := Lib.hid ((HGOOD.out (by simp) (fd_no t4) (by simp) (by have := of_decide_eq_false t6; omega)).2.2 (by simp))
              go_wp2_with fail
              refine ((parse_s _ (by omega) HV.out.2.1 HV.out.1)).mono ?_
              rintro e W9 ⟨U9, rfl, hp, hk⟩
              obtain ⟨b3, A3, n3, c3, rfl⟩ := hp.open3
              replace S := (S.below hk).addI hp
              clear hk hp
              rcases Bool.eq_false_or_eq_true (bneg) with rfl | rfl
              · skip
                go_upto_region 27 with fail
                replace S := (S.alloc 24 [.bool b3, .slice A3 n3 c3])
                obtain ⟨W10, eW, S⟩ := S.pack
                rw [eW]
                clear eW
                generalize W9.heap.size = P1 at *
                have r1_0 := S.c 0 0 rfl rfl
                have r1_1 := S.c 0 1 rfl rfl
                go_wp2_with fail
                refine ((neg_num ((S.ii 0 rfl).num (by omega)))).mono ?_
                rintro e W11 ⟨U11, rfl, hp, hk⟩
                obtain ⟨b4, A4, n4, c4, rfl⟩ := hp.open3
                replace S := (S.below hk).addI hp
                clear hk hp
                clear r1_0 r1_1
                have r1_0 := S.c 0 0 rfl rfl
                have f1_0 := S.f 0 0 rfl
                have r1_1 := S.c 0 1 rfl rfl
                have f1_1 := S.f 0 1 rfl
                go_upto_region 28 with fail
                replace S := (S.put2 0 rfl rfl rfl (x' := .bool b4) (y' := .slice A4 n4 c4))
                obtain ⟨W12, eW, S⟩ := S.pack
                rw [eW]
                clear eW
                clear r1_0 f1_0 r1_1 f1_1
                refine wp_region_steps (m := 5) rfl (by kernel_rfl) (fun iΦ vΦ wΦ => (List.getD [fun vΦ _ => vΦ = .agg #[.bool b4, .slice A4 n4 c4], fun vΦ _ => vΦ = .string E, fun vΦ _ => vΦ = .int .i64 (E.size : Int), fun vΦ wΦ => IntRep wΦ vΦ (10 ^ (((E.size : Int))).toNat), fun vΦ wΦ => RatRep wΦ vΦ (Rat.divInt (-v) (10 ^ (((E.size : Int))).toNat))] iΦ (fun _ _ => True)) vΦ wΦ) [] ?_ ?_ ?_
                · intro i v w w' _ h hk
                  refine stabL_get ?_ i v w w' h hk
                  exact stab_cons st_e (stab_cons st_e (stab_cons st_e (stab_cons st_i (stab_cons st_q stab_nil))))
                · intro i hi vs w3 hk3 hd
                  have S3 := S.drew.below hk3
                  have a0 := S3.c 0 0 rfl rfl
                  have a1 := S3.c 0 1 rfl rfl
                  match i, hi with
                  | 0, _ =>
                    refine step_val0 [] (fun vΦ _ => vΦ = .agg #[.bool b4, .slice A4 n4 c4]) rfl (by kernel_rfl) rfl (fun _ _ h => h) rfl fun K hK => ?_; clear hd; simp only [frD] at hK ⊢; go_simp
                    exact hK _ _ (Below.refl _ _) rfl
                  | 1, _ =>
                    refine step_val0 [] (fun vΦ _ => vΦ = .string E) rfl (by kernel_rfl) rfl (fun _ _ h => h) rfl fun K hK => ?_; clear hd; simp only [frD] at hK ⊢; go_simp
                    exact hK _ _ (Below.refl _ _) rfl
                  | 2, _ =>
                    have qe1 : (vs 1) = .string E := hd 1 (cm (by kernel_rfl))
                    refine step_val0 [(1, some 122)] (fun vΦ _ => vΦ = .int .i64 (E.size : Int)) rfl (by kernel_rfl) rfl (fun _ _ h => h) rfl fun K hK => ?_; clear hd; simp only [frD, qe1] at hK ⊢; go_simp
                    exact hK _ _ (Below.refl _ _) rfl
                  | 3, _ =>
                    have qe2 : (vs 2) = .int .i64 (E.size : Int) := hd 2 (cm (by kernel_rfl))
                    refine step_call (F := 106) (X := .func (.func 106) #[] #[]) (A := #[(vs 2)]) (B := #[.int .i64 (E.size : Int)]) [(2, some 123)] (fun vΦ wΦ => IntRep wΦ vΦ (10 ^ (((E.size : Int))).toNat)) rfl (by kernel_rfl) (fun _ _ h => h) rfl (wanted_none rfl) rfl rfl (by kernel_rfl) rfl (by kernel_rfl) (by rw [qe2]) Tryz.func106 (by kernel_rfl) (by kernel_rfl) ?_
                    refine ((ftens_num ((E.size : Int)) (ht.keep S3.k) (by omega) (by omega))).mono ?_; rintro e w4 ⟨U, rfl, hr, hk4⟩; exact ⟨_, rfl, hk4, hr⟩
                  | 4, _ =>
                    have qe0 : (vs 0) = .agg #[.bool b4, .slice A4 n4 c4] := hd 0 (cm (by kernel_rfl)); have h3 : IntRep w3 (vs 3) (10 ^ (((E.size : Int))).toNat) := hd 3 (cm (by kernel_rfl))
                    refine step_call (F := 81) (X := .func (.func 81) #[] #[]) (A := #[(vs 0), (vs 3)]) (B := #[.agg #[.bool b4, .slice A4 n4 c4], (vs 3)]) [(0, some 121), (3, some 124)] (fun vΦ wΦ => RatRep wΦ vΦ (Rat.divInt (-v) (10 ^ (((E.size : Int))).toNat))) rfl (by kernel_rfl) (fun _ _ h => h) rfl (wanted_none rfl) rfl rfl (by kernel_rfl) rfl (by kernel_rfl) (by rw [qe0]) Tryz.func81 (by kernel_rfl) (by kernel_rfl) ?_
                    refine ((reduced_num ((S3.ii 0 rfl).num (by omega)) (h3.num (by omega)) (by omega))).mono ?_; rintro e w4 ⟨U, rfl, hr, hk4⟩; exact ⟨_, rfl, hk4, hr⟩
                  | i + 5, hi => exact absurd hi (by omega)
                · intro vs W13 hk3 hΦ _
                  simp only [List.drop_succ_cons, List.drop_zero]
                  rw [fr_frD, show (List.range 5).map _ = [(0, some 121), (1, some 122), (2, some 123), (3, some 124), (4, some 125)] by kernel_rfl]
                  have pa0 : (vs 0) = .agg #[.bool b4, .slice A4 n4 c4] := hΦ 0 (by decide)
                  have pa1 : (vs 1) = .string E := hΦ 1 (by decide)
                  have pa2 : (vs 2) = .int .i64 (E.size : Int) := hΦ 2 (by decide)
                  have pa3 : IntRep W13 (vs 3) (10 ^ (((E.size : Int))).toNat) := hΦ 3 (by decide)
                  have pa4 : RatRep W13 (vs 4) (Rat.divInt (-v) (10 ^ (((E.size : Int))).toNat)) := hΦ 4 (by decide)
                  clear hΦ
                  simp only [frD, pa0, pa1, pa2]
                  simp only [Act.put, List.setIfInBounds_toArray, List.set_cons_zero, List.set_cons_succ]
                  clear pa0 pa1 pa2
                  generalize vs 3 = Upa3 at pa3 ⊢
                  generalize vs 4 = Upa4 at pa4 ⊢
                  replace S := S.drew.below hk3
                  clear pa3
                  obtain ⟨b5, A5, n5, c5, d5, B5, m5, e5, rfl⟩ := pa4.open_
                  replace S := S.addQ pa4
                  clear pa4
                  clear hk3
                  have r0_0 := S.c 1 0 rfl rfl
                  have f0_0 := S.f 1 0 rfl
                  have r0_1 := S.c 1 1 rfl rfl
                  have f0_1 := S.f 1 1 rfl
                  have r0_2 := S.c 1 2 rfl rfl
                  have f0_2 := S.f 1 2 rfl
                  have r0_3 := S.c 1 3 rfl rfl
                  have f0_3 := S.f 1 3 rfl
                  go_wp2
                  replace S := (S.put4 1 rfl rfl rfl (x' := .bool b5) (y' := .slice A5 n5 c5) (z' := .bool d5) (u' := .slice B5 m5 e5))
                  refine bodyPost_ret (v := .tuple #[.agg #[.bool b5, .slice A5 n5 c5, .bool d5, .slice B5 m5 e5], .int .i64 0]) (by simp [results, Tryz.results76, go_sem, S.c 1 0 rfl rfl, S.c 1 1 rfl rfl, S.c 1 2 rfl rfl, S.c 1 3 rfl rfl]) rfl ?_
                  have hg := HGOOD.out (by simp) (fd_no t4) (by simp) (by have := of_decide_eq_false t6; omega)
                  have hq := hg.2.2 (by simp)
                  obtain ⟨rfl, -⟩ := hg
                  obtain ⟨-, -, rfl⟩ := hq
                  exact ⟨_, rfl, by rw [if_pos rfl]; exact S.qi 0 rfl, S.k⟩
              · skip
                go_upto_region 28 with fail
                replace S := (S.alloc 24 [.bool b3, .slice A3 n3 c3])
                obtain ⟨W10, eW, S⟩ := S.pack
                rw [eW]
                clear eW
                generalize W9.heap.size = P1 at *
                refine wp_region_steps (m := 5) rfl (by kernel_rfl) (fun iΦ vΦ wΦ => (List.getD [fun vΦ _ => vΦ = .agg #[.bool b3, .slice A3 n3 c3], fun vΦ _ => vΦ = .string E, fun vΦ _ => vΦ = .int .i64 (E.size : Int), fun vΦ wΦ => IntRep wΦ vΦ (10 ^ (((E.size : Int))).toNat), fun vΦ wΦ => RatRep wΦ vΦ (Rat.divInt v (10 ^ (((E.size : Int))).toNat))] iΦ (fun _ _ => True)) vΦ wΦ) [] ?_ ?_ ?_
                · intro i v w w' _ h hk
                  refine stabL_get ?_ i v w w' h hk
                  exact stab_cons st_e (stab_cons st_e (stab_cons st_e (stab_cons st_i (stab_cons st_q stab_nil))))
                · intro i hi vs w3 hk3 hd
                  have S3 := S.drew.below hk3
                  have a0 := S3.c 0 0 rfl rfl
                  have a1 := S3.c 0 1 rfl rfl
                  match i, hi with
                  | 0, _ =>
                    refine step_val0 [] (fun vΦ _ => vΦ = .agg #[.bool b3, .slice A3 n3 c3]) rfl (by kernel_rfl) rfl (fun _ _ h => h) rfl fun K hK => ?_; clear hd; simp only [frD] at hK ⊢; go_simp
                    exact hK _ _ (Below.refl _ _) rfl
                  | 1, _ =>
                    refine step_val0 [] (fun vΦ _ => vΦ = .string E) rfl (by kernel_rfl) rfl (fun _ _ h => h) rfl fun K hK => ?_; clear hd; simp only [frD] at hK ⊢; go_simp
                    exact hK _ _ (Below.refl _ _) rfl
                  | 2, _ =>
                    have qe1 : (vs 1) = .string E := hd 1 (cm (by kernel_rfl))
                    refine step_val0 [(1, some 122)] (fun vΦ _ => vΦ = .int .i64 (E.size : Int)) rfl (by kernel_rfl) rfl (fun _ _ h => h) rfl fun K hK => ?_; clear hd; simp only [frD, qe1] at hK ⊢; go_simp
                    exact hK _ _ (Below.refl _ _) rfl
                  | 3, _ =>
                    have qe2 : (vs 2) = .int .i64 (E.size : Int) := hd 2 (cm (by kernel_rfl))
                    refine step_call (F := 106) (X := .func (.func 106) #[] #[]) (A := #[(vs 2)]) (B := #[.int .i64 (E.size : Int)]) [(2, some 123)] (fun vΦ wΦ => IntRep wΦ vΦ (10 ^ (((E.size : Int))).toNat)) rfl (by kernel_rfl) (fun _ _ h => h) rfl (wanted_none rfl) rfl rfl (by kernel_rfl) rfl (by kernel_rfl) (by rw [qe2]) Tryz.func106 (by kernel_rfl) (by kernel_rfl) ?_
                    refine ((ftens_num ((E.size : Int)) (ht.keep S3.k) (by omega) (by omega))).mono ?_; rintro e w4 ⟨U, rfl, hr, hk4⟩; exact ⟨_, rfl, hk4, hr⟩
                  | 4, _ =>
                    have qe0 : (vs 0) = .agg #[.bool b3, .slice A3 n3 c3] := hd 0 (cm (by kernel_rfl)); have h3 : IntRep w3 (vs 3) (10 ^ (((E.size : Int))).toNat) := hd 3 (cm (by kernel_rfl))
                    refine step_call (F := 81) (X := .func (.func 81) #[] #[]) (A := #[(vs 0), (vs 3)]) (B := #[.agg #[.bool b3, .slice A3 n3 c3], (vs 3)]) [(0, some 121), (3, some 124)] (fun vΦ wΦ => RatRep wΦ vΦ (Rat.divInt v (10 ^ (((E.size : Int))).toNat))) rfl (by kernel_rfl) (fun _ _ h => h) rfl (wanted_none rfl) rfl rfl (by kernel_rfl) rfl (by kernel_rfl) (by rw [qe0]) Tryz.func81 (by kernel_rfl) (by kernel_rfl) ?_
                    refine ((reduced_num ((S3.ii 0 rfl).num (by omega)) (h3.num (by omega)) (by omega))).mono ?_; rintro e w4 ⟨U, rfl, hr, hk4⟩; exact ⟨_, rfl, hk4, hr⟩
                  | i + 5, hi => exact absurd hi (by omega)
                · intro vs W11 hk3 hΦ _
                  simp only [List.drop_succ_cons, List.drop_zero]
                  rw [fr_frD, show (List.range 5).map _ = [(0, some 121), (1, some 122), (2, some 123), (3, some 124), (4, some 125)] by kernel_rfl]
                  have pa0 : (vs 0) = .agg #[.bool b3, .slice A3 n3 c3] := hΦ 0 (by decide)
                  have pa1 : (vs 1) = .string E := hΦ 1 (by decide)
                  have pa2 : (vs 2) = .int .i64 (E.size : Int) := hΦ 2 (by decide)
                  have pa3 : IntRep W11 (vs 3) (10 ^ (((E.size : Int))).toNat) := hΦ 3 (by decide)
                  have pa4 : RatRep W11 (vs 4) (Rat.divInt v (10 ^ (((E.size : Int))).toNat)) := hΦ 4 (by decide)
                  clear hΦ
                  simp only [frD, pa0, pa1, pa2]
                  simp only [Act.put, List.setIfInBounds_toArray, List.set_cons_zero, List.set_cons_succ]
                  clear pa0 pa1 pa2
                  generalize vs 3 = Upa3 at pa3 ⊢
                  generalize vs 4 = Upa4 at pa4 ⊢
                  replace S := S.drew.below hk3
                  clear pa3
                  obtain ⟨b4, A4, n4, c4, d4, B4, m4, e4, rfl⟩ := pa4.open_
                  replace S := S.addQ pa4
                  clear pa4
                  clear hk3
                  have r0_0 := S.c 1 0 rfl rfl
                  have f0_0 := S.f 1 0 rfl
                  have r0_1 := S.c 1 1 rfl rfl
                  have f0_1 := S.f 1 1 rfl
                  have r0_2 := S.c 1 2 rfl rfl
                  have f0_2 := S.f 1 2 rfl
                  have r0_3 := S.c 1 3 rfl rfl
                  have f0_3 := S.f 1 3 rfl
                  go_wp2
                  replace S := (S.put4 1 rfl rfl rfl (x' := .bool b4) (y' := .slice A4 n4 c4) (z' := .bool d4) (u' := .slice B4 m4 e4))
                  refine bodyPost_ret (v := .tuple #[.agg #[.bool b4, .slice A4 n4 c4, .bool d4, .slice B4 m4 e4], .int .i64 0]) (by simp [results, Tryz.results76, go_sem, S.c 1 0 rfl rfl, S.c 1 1 rfl rfl, S.c 1 2 rfl rfl, S.c 1 3 rfl rfl]) rfl ?_
                  have hg := HGOOD.out (by simp) (fd_no t4) (by simp) (by have := of_decide_eq_false t6; omega)
                  have hq := hg.2.2 (by simp)
                  obtain ⟨rfl, -⟩ := hg
                  obtain ⟨-, -, rfl⟩ := hq
                  exact ⟨_, rfl, by rw [if_pos rfl]; exact S.qi 0 rfl, S.k⟩
        · skip
          have r0_0 := S.c 0 0 rfl rfl
          have f0_0 := S.f 0 0 rfl
          have r0_1 := S.c 0 1 rfl rfl
          have f0_1 := S.f 0 1 rfl
          have r0_2 := S.c 0 2 rfl rfl
          have f0_2 := S.f 0 2 rfl
          have r0_3 := S.c 0 3 rfl rfl
          have f0_3 := S.f 0 3 rfl
          go_wp2
          replace S := (S.put4 0 rfl rfl rfl (x' := .bool false) (y' := .slice none 0 0) (z' := .bool false) (u' := .slice none 0 0))
          refine bodyPost_ret (v := .tuple #[.agg #[.bool false, .slice none 0 0, .bool false, .slice none 0 0], .int .i64 8]) (by simp [results, Tryz.results76, go_sem, S.c 0 0 rfl rfl, S.c 0 1 rfl rfl, S.c 0 2 rfl rfl, S.c 0 3 rfl rfl]) rfl ?_
          have hc8 : c = 8 := HB3.out (by simp)
          subst hc8
          exact ⟨_, rfl, by rw [if_neg (by decide)]; rfl, S.k⟩
    · skip
      go_wp2_with fail
      refine ((fdigits_b (by omega) H2.out)).mono ?_
      rintro e W7 ⟨rfl, hk⟩
      replace S := S.below hk
      clear hk
      rcases Bool.eq_false_or_eq_true (bd2) with rfl | rfl
      · skip
        rcases Bool.eq_false_or_eq_true (decide (100 < (E.size : Int))) with t5 | t5
        · skip
          have r0_0 := S.c 0 0 rfl rfl
          have f0_0 := S.f 0 0 rfl
          have r0_1 := S.c 0 1 rfl rfl
          have f0_1 := S.f 0 1 rfl
          have r0_2 := S.c 0 2 rfl rfl
          have f0_2 := S.f 0 2 rfl
          have r0_3 := S.c 0 3 rfl rfl
          have f0_3 := S.f 0 3 rfl
          go_wp2
          replace S := (S.put4 0 rfl rfl rfl (x' := .bool false) (y' := .slice none 0 0) (z' := .bool false) (u' := .slice none 0 0))
          refine bodyPost_ret (v := .tuple #[.agg #[.bool false, .slice none 0 0, .bool false, .slice none 0 0], .int .i64 8]) (by simp [results, Tryz.results76, go_sem, S.c 0 0 rfl rfl, S.c 0 1 rfl rfl, S.c 0 2 rfl rfl, S.c 0 3 rfl rfl]) rfl ?_
          have hc8 : c = 8 := HB4.out (by have := of_decide_eq_true t5; omega)
          subst hc8
          exact ⟨_, rfl, by rw [if_neg (by decide)]; rfl, S.k⟩
        · skip
          go_wp2_with fail
          refine ((triml_s HX.out)).mono ?_
          rintro e W8 ⟨rfl, hk⟩
          replace S := S.below hk
          clear hk
          rcases Bool.eq_false_or_eq_true (bz) with rfl | rfl
          · skip
            go_wp2_with fail
            refine ((whole_num 0 (by omega) (by omega))).mono ?_
            rintro e W9 ⟨U9, rfl, hp, hk⟩
            obtain ⟨b3, A3, n3, c3, d3, B3, m3, e3, rfl⟩ := hp.open_
            replace S := (S.below hk).addQ hp
            clear hk hp
            have r0_0 := S.c 0 0 rfl rfl
            have f0_0 := S.f 0 0 rfl
            have r0_1 := S.c 0 1 rfl rfl
            have f0_1 := S.f 0 1 rfl
            have r0_2 := S.c 0 2 rfl rfl
            have f0_2 := S.f 0 2 rfl
            have r0_3 := S.c 0 3 rfl rfl
            have f0_3 := S.f 0 3 rfl
            go_wp2
            replace S := (S.put4 0 rfl rfl rfl (x' := .bool b3) (y' := .slice A3 n3 c3) (z' := .bool d3) (u' := .slice B3 m3 e3))
            refine bodyPost_ret (v := .tuple #[.agg #[.bool b3, .slice A3 n3 c3, .bool d3, .slice B3 m3 e3], .int .i64 0]) (by simp [results, Tryz.results76, go_sem, S.c 0 0 rfl rfl, S.c 0 1 rfl rfl, S.c 0 2 rfl rfl, S.c 0 3 rfl rfl]) rfl ?_
            have hg := HGOOD.out (by simp) (fd_sm t3) (by simp) (by have := of_decide_eq_false t5; omega)
            have hq := hg.2.1 (by simp)
            obtain ⟨rfl, -⟩ := hg
            subst hq
            exact ⟨_, rfl, by rw [if_pos rfl]; exact S.qi 0 rfl, S.k⟩
          · skip
            have eI : E.size ≤ 100 := by have := of_decide_eq_false t5; omega
            have u3 : lenI (10 ^ ((E.size : Int)).toNat) ≤ 12 := by have := of_decide_eq_false t5; exact lenI_ten _ (by omega)
            have HV := Lib.hid ((HGOOD.out (by simp) (fd_sm t3) (by simp) (by have := of_decide_eq_false t5; omega)).2.2 (by simp))
            go_wp2_with fail
            refine ((parse_s _ (by omega) HV.out.2.1 HV.out.1)).mono ?_
            rintro e W9 ⟨U9, rfl, hp, hk⟩
            obtain ⟨b3, A3, n3, c3, rfl⟩ := hp.open3
            replace S := (S.below hk).addI hp
            clear hk hp
            rcases Bool.eq_false_or_eq_true (bneg) with rfl | rfl
            · skip
              go_upto_region 27 with fail
              replace S := (S.alloc 24 [.bool b3, .slice A3 n3 c3])
              obtain ⟨W10, eW, S⟩ := S.pack
              rw [eW]
              clear eW
              generalize W9.heap.size = P1 at *
              have r1_0 := S.c 0 0 rfl rfl
              have r1_1 := S.c 0 1 rfl rfl
              go_wp2_with fail
              refine ((neg_num ((S.ii 0 rfl).num (by omega)))).mono ?_
              rintro e W11 ⟨U11, rfl, hp, hk⟩
              obtain ⟨b4, A4, n4, c4, rfl⟩ := hp.open3
              replace S := (S.below hk).addI hp
              clear hk hp
              clear r1_0 r1_1
              have r1_0 := S.c 0 0 rfl rfl
              have f1_0 := S.f 0 0 rfl
              have r1_1 := S.c 0 1 rfl rfl
              have f1_1 := S.f 0 1 rfl
              go_upto_region 28 with fail
              replace S := (S.put2 0 rfl rfl rfl (x' := .bool b4) (y' := .slice A4 n4 c4))
              obtain ⟨W12, eW, S⟩ := S.pack
              rw [eW]
              clear eW
              clear r1_0 f1_0 r1_1 f1_1
              refine wp_region_steps (m := 5) rfl (by kernel_rfl) (fun iΦ vΦ wΦ => (List.getD [fun vΦ _ => vΦ = .agg #[.bool b4, .slice A4 n4 c4], fun vΦ _ => vΦ = .string E, fun vΦ _ => vΦ = .int .i64 (E.size : Int), fun vΦ wΦ => IntRep wΦ vΦ (10 ^ (((E.size : Int))).toNat), fun vΦ wΦ => RatRep wΦ vΦ (Rat.divInt (-v) (10 ^ (((E.size : Int))).toNat))] iΦ (fun _ _ => True)) vΦ wΦ) [] ?_ ?_ ?_
              · intro i v w w' _ h hk
                refine stabL_get ?_ i v w w' h hk
                exact stab_cons st_e (stab_cons st_e (stab_cons st_e (stab_cons st_i (stab_cons st_q stab_nil))))
              · intro i hi vs w3 hk3 hd
                have S3 := S.drew.below hk3
                have a0 := S3.c 0 0 rfl rfl
                have a1 := S3.c 0 1 rfl rfl
                match i, hi with
                | 0, _ =>
                  refine step_val0 [] (fun vΦ _ => vΦ = .agg #[.bool b4, .slice A4 n4 c4]) rfl (by kernel_rfl) rfl (fun _ _ h => h) rfl fun K hK => ?_; clear hd; simp only [frD] at hK ⊢; go_simp
                  exact hK _ _ (Below.refl _ _) rfl
                | 1, _ =>
                  refine step_val0 [] (fun vΦ _ => vΦ = .string E) rfl (by kernel_rfl) rfl (fun _ _ h => h) rfl fun K hK => ?_; clear hd; simp only [frD] at hK ⊢; go_simp
                  exact hK _ _ (Below.refl _ _) rfl
                | 2, _ =>
                  have qe1 : (vs 1) = .string E := hd 1 (cm (by kernel_rfl))
                  refine step_val0 [(1, some 122)] (fun vΦ _ => vΦ = .int .i64 (E.size : Int)) rfl (by kernel_rfl) rfl (fun _ _ h => h) rfl fun K hK => ?_; clear hd; simp only [frD, qe1] at hK ⊢; go_simp
                  exact hK _ _ (Below.refl _ _) rfl
                | 3, _ =>
                  have qe2 : (vs 2) = .int .i64 (E.size : Int) := hd 2 (cm (by kernel_rfl))
                  refine step_call (F := 106) (X := .func (.func 106) #[] #[]) (A := #[(vs 2)]) (B := #[.int .i64 (E.size : Int)]) [(2, some 123)] (fun vΦ wΦ => IntRep wΦ vΦ (10 ^ (((E.size : Int))).toNat)) rfl (by kernel_rfl) (fun _ _ h => h) rfl (wanted_none rfl) rfl rfl (by kernel_rfl) rfl (by kernel_rfl) (by rw [qe2]) Tryz.func106 (by kernel_rfl) (by kernel_rfl) ?_
                  refine ((ftens_num ((E.size : Int)) (ht.keep S3.k) (by omega) (by omega))).mono ?_; rintro e w4 ⟨U, rfl, hr, hk4⟩; exact ⟨_, rfl, hk4, hr⟩
                | 4, _ =>
                  have qe0 : (vs 0) = .agg #[.bool b4, .slice A4 n4 c4] := hd 0 (cm (by kernel_rfl)); have h3 : IntRep w3 (vs 3) (10 ^ (((E.size : Int))).toNat) := hd 3 (cm (by kernel_rfl))
                  refine step_call (F := 81) (X := .func (.func 81) #[] #[]) (A := #[(vs 0), (vs 3)]) (B := #[.agg #[.bool b4, .slice A4 n4 c4], (vs 3)]) [(0, some 121), (3, some 124)] (fun vΦ wΦ => RatRep wΦ vΦ (Rat.divInt (-v) (10 ^ (((E.size : Int))).toNat))) rfl (by kernel_rfl) (fun _ _ h => h) rfl (wanted_none rfl) rfl rfl (by kernel_rfl) rfl (by kernel_rfl) (by rw [qe0]) Tryz.func81 (by kernel_rfl) (by kernel_rfl) ?_
                  refine ((reduced_num ((S3.ii 0 rfl).num (by omega)) (h3.num (by omega)) (by omega))).mono ?_; rintro e w4 ⟨U, rfl, hr, hk4⟩; exact ⟨_, rfl, hk4, hr⟩
                | i + 5, hi => exact absurd hi (by omega)
              · intro vs W13 hk3 hΦ _
                simp only [List.drop_succ_cons, List.drop_zero]
                rw [fr_frD, show (List.range 5).map _ = [(0, some 121), (1, some 122), (2, some 123), (3, some 124), (4, some 125)] by kernel_rfl]
                have pa0 : (vs 0) = .agg #[.bool b4, .slice A4 n4 c4] := hΦ 0 (by decide)
                have pa1 : (vs 1) = .string E := hΦ 1 (by decide)
                have pa2 : (vs 2) = .int .i64 (E.size : Int) := hΦ 2 (by decide)
                have pa3 : IntRep W13 (vs 3) (10 ^ (((E.size : Int))).toNat) := hΦ 3 (by decide)
                have pa4 : RatRep W13 (vs 4) (Rat.divInt (-v) (10 ^ (((E.size : Int))).toNat)) := hΦ 4 (by decide)
                clear hΦ
                simp only [frD, pa0, pa1, pa2]
                simp only [Act.put, List.setIfInBounds_toArray, List.set_cons_zero, List.set_cons_succ]
                clear pa0 pa1 pa2
                generalize vs 3 = Upa3 at pa3 ⊢
                generalize vs 4 = Upa4 at pa4 ⊢
                replace S := S.drew.below hk3
                clear pa3
                obtain ⟨b5, A5, n5, c5, d5, B5, m5, e5, rfl⟩ := pa4.open_
                replace S := S.addQ pa4
                clear pa4
                clear hk3
                have r0_0 := S.c 1 0 rfl rfl
                have f0_0 := S.f 1 0 rfl
                have r0_1 := S.c 1 1 rfl rfl
                have f0_1 := S.f 1 1 rfl
                have r0_2 := S.c 1 2 rfl rfl
                have f0_2 := S.f 1 2 rfl
                have r0_3 := S.c 1 3 rfl rfl
                have f0_3 := S.f 1 3 rfl
                go_wp2
                replace S := (S.put4 1 rfl rfl rfl (x' := .bool b5) (y' := .slice A5 n5 c5) (z' := .bool d5) (u' := .slice B5 m5 e5))
                refine bodyPost_ret (v := .tuple #[.agg #[.bool b5, .slice A5 n5 c5, .bool d5, .slice B5 m5 e5], .int .i64 0]) (by simp [results, Tryz.results76, go_sem, S.c 1 0 rfl rfl, S.c 1 1 rfl rfl, S.c 1 2 rfl rfl, S.c 1 3 rfl rfl]) rfl ?_
                have hg := HGOOD.out (by simp) (fd_sm t3) (by simp) (by have := of_decide_eq_false t5; omega)
                have hq := hg.2.2 (by simp)
                obtain ⟨rfl, -⟩ := hg
                obtain ⟨-, -, rfl⟩ := hq
                exact ⟨_, rfl, by rw [if_pos rfl]; exact S.qi 0 rfl, S.k⟩
            · skip
              go_upto_region 28 with fail
              replace S := (S.alloc 24 [.bool b3, .slice A3 n3 c3])
              obtain ⟨W10, eW, S⟩ := S.pack
              rw [eW]
              clear eW
              generalize W9.heap.size = P1 at *
              refine wp_region_steps (m := 5) rfl (by kernel_rfl) (fun iΦ vΦ wΦ => (List.getD [fun vΦ _ => vΦ = .agg #[.bool b3, .slice A3 n3 c3], fun vΦ _ => vΦ = .string E, fun vΦ _ => vΦ = .int .i64 (E.size : Int), fun vΦ wΦ => IntRep wΦ vΦ (10 ^ (((E.size : Int))).toNat), fun vΦ wΦ => RatRep wΦ vΦ (Rat.divInt v (10 ^ (((E.size : Int))).toNat))] iΦ (fun _ _ => True)) vΦ wΦ) [] ?_ ?_ ?_
              · intro i v w w' _ h hk
                refine stabL_get ?_ i v w w' h hk
                exact stab_cons st_e (stab_cons st_e (stab_cons st_e (stab_cons st_i (stab_cons st_q stab_nil))))
              · intro i hi vs w3 hk3 hd
                have S3 := S.drew.below hk3
                have a0 := S3.c 0 0 rfl rfl
                have a1 := S3.c 0 1 rfl rfl
                match i, hi with
                | 0, _ =>
                  refine step_val0 [] (fun vΦ _ => vΦ = .agg #[.bool b3, .slice A3 n3 c3]) rfl (by kernel_rfl) rfl (fun _ _ h => h) rfl fun K hK => ?_; clear hd; simp only [frD] at hK ⊢; go_simp
                  exact hK _ _ (Below.refl _ _) rfl
                | 1, _ =>
                  refine step_val0 [] (fun vΦ _ => vΦ = .string E) rfl (by kernel_rfl) rfl (fun _ _ h => h) rfl fun K hK => ?_; clear hd; simp only [frD] at hK ⊢; go_simp
                  exact hK _ _ (Below.refl _ _) rfl
                | 2, _ =>
                  have qe1 : (vs 1) = .string E := hd 1 (cm (by kernel_rfl))
                  refine step_val0 [(1, some 122)] (fun vΦ _ => vΦ = .int .i64 (E.size : Int)) rfl (by kernel_rfl) rfl (fun _ _ h => h) rfl fun K hK => ?_; clear hd; simp only [frD, qe1] at hK ⊢; go_simp
                  exact hK _ _ (Below.refl _ _) rfl
                | 3, _ =>
                  have qe2 : (vs 2) = .int .i64 (E.size : Int) := hd 2 (cm (by kernel_rfl))
                  refine step_call (F := 106) (X := .func (.func 106) #[] #[]) (A := #[(vs 2)]) (B := #[.int .i64 (E.size : Int)]) [(2, some 123)] (fun vΦ wΦ => IntRep wΦ vΦ (10 ^ (((E.size : Int))).toNat)) rfl (by kernel_rfl) (fun _ _ h => h) rfl (wanted_none rfl) rfl rfl (by kernel_rfl) rfl (by kernel_rfl) (by rw [qe2]) Tryz.func106 (by kernel_rfl) (by kernel_rfl) ?_
                  refine ((ftens_num ((E.size : Int)) (ht.keep S3.k) (by omega) (by omega))).mono ?_; rintro e w4 ⟨U, rfl, hr, hk4⟩; exact ⟨_, rfl, hk4, hr⟩
                | 4, _ =>
                  have qe0 : (vs 0) = .agg #[.bool b3, .slice A3 n3 c3] := hd 0 (cm (by kernel_rfl)); have h3 : IntRep w3 (vs 3) (10 ^ (((E.size : Int))).toNat) := hd 3 (cm (by kernel_rfl))
                  refine step_call (F := 81) (X := .func (.func 81) #[] #[]) (A := #[(vs 0), (vs 3)]) (B := #[.agg #[.bool b3, .slice A3 n3 c3], (vs 3)]) [(0, some 121), (3, some 124)] (fun vΦ wΦ => RatRep wΦ vΦ (Rat.divInt v (10 ^ (((E.size : Int))).toNat))) rfl (by kernel_rfl) (fun _ _ h => h) rfl (wanted_none rfl) rfl rfl (by kernel_rfl) rfl (by kernel_rfl) (by rw [qe0]) Tryz.func81 (by kernel_rfl) (by kernel_rfl) ?_
                  refine ((reduced_num ((S3.ii 0 rfl).num (by omega)) (h3.num (by omega)) (by omega))).mono ?_; rintro e w4 ⟨U, rfl, hr, hk4⟩; exact ⟨_, rfl, hk4, hr⟩
                | i + 5, hi => exact absurd hi (by omega)
              · intro vs W11 hk3 hΦ _
                simp only [List.drop_succ_cons, List.drop_zero]
                rw [fr_frD, show (List.range 5).map _ = [(0, some 121), (1, some 122), (2, some 123), (3, some 124), (4, some 125)] by kernel_rfl]
                have pa0 : (vs 0) = .agg #[.bool b3, .slice A3 n3 c3] := hΦ 0 (by decide)
                have pa1 : (vs 1) = .string E := hΦ 1 (by decide)
                have pa2 : (vs 2) = .int .i64 (E.size : Int) := hΦ 2 (by decide)
                have pa3 : IntRep W11 (vs 3) (10 ^ (((E.size : Int))).toNat) := hΦ 3 (by decide)
                have pa4 : RatRep W11 (vs 4) (Rat.divInt v (10 ^ (((E.size : Int))).toNat)) := hΦ 4 (by decide)
                clear hΦ
                simp only [frD, pa0, pa1, pa2]
                simp only [Act.put, List.setIfInBounds_toArray, List.set_cons_zero, List.set_cons_succ]
                clear pa0 pa1 pa2
                generalize vs 3 = Upa3 at pa3 ⊢
                generalize vs 4 = Upa4 at pa4 ⊢
                replace S := S.drew.below hk3
                clear pa3
                obtain ⟨b4, A4, n4, c4, d4, B4, m4, e4, rfl⟩ := pa4.open_
                replace S := S.addQ pa4
                clear pa4
                clear hk3
                have r0_0 := S.c 1 0 rfl rfl
                have f0_0 := S.f 1 0 rfl
                have r0_1 := S.c 1 1 rfl rfl
                have f0_1 := S.f 1 1 rfl
                have r0_2 := S.c 1 2 rfl rfl
                have f0_2 := S.f 1 2 rfl
                have r0_3 := S.c 1 3 rfl rfl
                have f0_3 := S.f 1 3 rfl
                go_wp2
                replace S := (S.put4 1 rfl rfl rfl (x' := .bool b4) (y' := .slice A4 n4 c4) (z' := .bool d4) (u' := .slice B4 m4 e4))
                refine bodyPost_ret (v := .tuple #[.agg #[.bool b4, .slice A4 n4 c4, .bool d4, .slice B4 m4 e4], .int .i64 0]) (by simp [results, Tryz.results76, go_sem, S.c 1 0 rfl rfl, S.c 1 1 rfl rfl, S.c 1 2 rfl rfl, S.c 1 3 rfl rfl]) rfl ?_
                have hg := HGOOD.out (by simp) (fd_sm t3) (by simp) (by have := of_decide_eq_false t5; omega)
                have hq := hg.2.2 (by simp)
                obtain ⟨rfl, -⟩ := hg
                obtain ⟨-, -, rfl⟩ := hq
                exact ⟨_, rfl, by rw [if_pos rfl]; exact S.qi 0 rfl, S.k⟩
      · skip
        have r0_0 := S.c 0 0 rfl rfl
        have f0_0 := S.f 0 0 rfl
        have r0_1 := S.c 0 1 rfl rfl
        have f0_1 := S.f 0 1 rfl
        have r0_2 := S.c 0 2 rfl rfl
        have f0_2 := S.f 0 2 rfl
        have r0_3 := S.c 0 3 rfl rfl
        have f0_3 := S.f 0 3 rfl
        go_wp2
        replace S := (S.put4 0 rfl rfl rfl (x' := .bool false) (y' := .slice none 0 0) (z' := .bool false) (u' := .slice none 0 0))
        refine bodyPost_ret (v := .tuple #[.agg #[.bool false, .slice none 0 0, .bool false, .slice none 0 0], .int .i64 8]) (by simp [results, Tryz.results76, go_sem, S.c 0 0 rfl rfl, S.c 0 1 rfl rfl, S.c 0 2 rfl rfl, S.c 0 3 rfl rfl]) rfl ?_
        have hc8 : c = 8 := HB3.out (by simp)
        subst hc8
        exact ⟨_, rfl, by rw [if_neg (by decide)]; rfl, S.k⟩
  · skip
    have r0_0 := S.c 0 0 rfl rfl
    have f0_0 := S.f 0 0 rfl
    have r0_1 := S.c 0 1 rfl rfl
    have f0_1 := S.f 0 1 rfl
    have r0_2 := S.c 0 2 rfl rfl
    have f0_2 := S.f 0 2 rfl
    have r0_3 := S.c 0 3 rfl rfl
    have f0_3 := S.f 0 3 rfl
    go_wp2
    replace S := (S.put4 0 rfl rfl rfl (x' := .bool false) (y' := .slice none 0 0) (z' := .bool false) (u' := .slice none 0 0))
    refine bodyPost_ret (v := .tuple #[.agg #[.bool false, .slice none 0 0, .bool false, .slice none 0 0], .int .i64 8]) (by simp [results, Tryz.results76, go_sem, S.c 0 0 rfl rfl, S.c 0 1 rfl rfl, S.c 0 2 rfl rfl, S.c 0 3 rfl rfl]) rfl ?_
    have hc8 : c = 8 := HB1.out (by simp)
    subst hc8
    exact ⟨_, rfl, by rw [if_neg (by decide)]; rfl, S.k⟩
end Go.Proofs.YtmochehkkadjnaaGreatDoor

namespace Go.Proofs.YtmochehkkadjnaaGreatDoor
open Go.RowKit Go.Shelf

theorem hd48 (L : List UInt8) : (∃ h : 0 < (ByteArray.mk L.toArray).size, (ByteArray.mk L.toArray)[0].toNat = 48) ↔ L.head? = some 48 := by
  cases L with
  | nil => exact ⟨fun ⟨h, _⟩ => absurd h (by decide), fun h => by simp at h⟩
  | cons x r =>
    constructor
    · rintro ⟨h, e⟩
      have e : x.toNat = 48 := e
      rw [List.head?_cons, show x = 48 from UInt8.toNat_inj.1 (by rw [e]; rfl)]
    · intro e
      rw [List.head?_cons] at e
      have : x = 48 := Option.some.inj e
      subst this
      exact ⟨by show 0 < ((48 : UInt8) :: r).toArray.size; rw [List.size_toArray]; simp, rfl⟩
theorem decOk_eq (a b : List UInt8) : decOk a b = (fdigB (bodyOf a) && (!(decide (1 < (bodyOf a).length) && decide ((bodyOf a).head? = some 48)) && (fdigB b && decide (b.length ≤ 100)))) := by
  unfold decOk fdigB
  simp only [Bool.and_assoc]
theorem size_mk (L : List UInt8) : (ByteArray.mk L.toArray).size = L.length := by show L.toArray.size = _; rw [List.size_toArray]
theorem isE_mk (L : List UInt8) : (ByteArray.mk L.toArray).toList.isEmpty = L.isEmpty := by
  cases L with
  | nil => exact empty_yes _ rfl
  | cons x r => rw [List.isEmpty_cons]; exact empty_no _ (by rw [size_mk]; simp)
theorem body_len (a : List UInt8) : (bodyOf a).length ≤ a.length := by
  have := congrArg List.length (body_split a)
  rw [List.length_append] at this
  omega
theorem fp_dec {w : World} {s : ByteArray} (hs : s.size ≤ 600) (hm : CutOk w) (ht : PowTab w) (h47 : 47 ∉ s.data.toList) (h46 : 46 ∈ s.data.toList) {a b : List UInt8} (ha : pre 46 s.data.toList = a) (hb : post 46 s.data.toList = b) :
    Calls Tryz.prog 76 #[.string s] w (RCode (if decOk a b = true then 0 else 8) (if decOk a b = true then decV a b else 0) w) := by
  have hlen : s.data.toList.length = s.size := by simp
  have hal : a.length + (b.length + 1) = s.size := by
    rw [← hlen, ← ha, ← hb]
    conv => rhs; rw [cut_at h46]
    simp
  have hbl := body_len a
  have hcat : (ByteArray.mk (bodyOf a).toArray ++ ByteArray.mk b.toArray).data.toList = bodyOf a ++ b := by rw [cat_str]
  have hall : decOk a b = true → (bodyOf a ++ b).all isDg = true := fun h => by
    unfold decOk at h
    simp only [Bool.and_eq_true] at h
    rw [List.all_append, h.1, h.2.2.2.1]; rfl
  have hbd : ∀ p : Bool, p = false → (decOk a b = (p && true) → decOk a b = false) := fun p hp h => by rw [h, hp]; rfl
  have hbare := bare_len (bodyOf a ++ b)
  have uv : lenI (if decOk a b = true then (valD (bodyOf a ++ b) : Int) else 0) ≤ 230 := by
    split
    · rename_i h
      have := valD_lt _ (hall h)
      rw [List.length_append] at this
      refine dig_length_le (n := ((valD (bodyOf a ++ b) : Nat) : Int).natAbs) (k := 230) ?_
      rw [Int.natAbs_natCast]
      exact Nat.lt_of_lt_of_le this (pow_230 _ (by omega))
    · rw [lenI_zero]; omega
  have hb1 : fdigB (ByteArray.mk (bodyOf a).toArray).data.toList = false → (if decOk a b = true then (0 : Int) else 8) = 8 := fun h => by
    rw [if_neg]; rw [decOk_eq, show fdigB (bodyOf a) = false from h]; simp
  have hb2 : 1 < (ByteArray.mk (bodyOf a).toArray).size → (∃ h : 0 < (ByteArray.mk (bodyOf a).toArray).size, (ByteArray.mk (bodyOf a).toArray)[0].toNat = 48) → (if decOk a b = true then (0 : Int) else 8) = 8 := fun h1 h2 => by
    rw [size_mk] at h1
    rw [if_neg]; rw [decOk_eq, (hd48 _).1 h2, decide_eq_true h1]; simp
  have hb3 : fdigB (ByteArray.mk b.toArray).data.toList = false → (if decOk a b = true then (0 : Int) else 8) = 8 := fun h => by
    rw [if_neg]; rw [decOk_eq, show fdigB b = false from h]; simp
  have hb4 : 100 < (ByteArray.mk b.toArray).size → (if decOk a b = true then (0 : Int) else 8) = 8 := fun h => by
    rw [size_mk] at h
    rw [if_neg]; rw [decOk_eq, decide_eq_false (show ¬ b.length ≤ 100 by omega)]; simp
  have hgood : fdigB (ByteArray.mk (bodyOf a).toArray).data.toList = true → ¬ (1 < (ByteArray.mk (bodyOf a).toArray).size ∧ ∃ h : 0 < (ByteArray.mk (bodyOf a).toArray).size, (ByteArray.mk (bodyOf a).toArray)[0].toNat = 48) →
      fdigB (ByteArray.mk b.toArray).data.toList = true → (ByteArray.mk b.toArray).size ≤ 100 → (if decOk a b = true then (0 : Int) else 8) = 0 ∧ ((bare (bodyOf a ++ b)).isEmpty = true → (if decOk a b = true then decV a b else 0) = ((0 : Int) : Rat)) ∧
      ((bare (bodyOf a ++ b)).isEmpty = false → parseC (ByteArray.mk (bare (bodyOf a ++ b)).toArray).data.toList = 0 ∧ parseZ (ByteArray.mk (bare (bodyOf a ++ b)).toArray).data.toList = (if decOk a b = true then (valD (bodyOf a ++ b) : Int) else 0) ∧
        (if decOk a b = true then decV a b else 0) = Rat.divInt (if negOf a then -(if decOk a b = true then (valD (bodyOf a ++ b) : Int) else 0) else (if decOk a b = true then (valD (bodyOf a ++ b) : Int) else 0)) (10 ^ (((ByteArray.mk b.toArray).size : Int)).toNat)) := fun h1 h2 h3 h4 => by
    have h1 : fdigB (bodyOf a) = true := h1
    have h3 : fdigB b = true := h3
    rw [size_mk] at h4
    rw [show (ByteArray.mk b.toArray).size = b.length from size_mk b]
    have hok : decOk a b = true := by
      rw [decOk_eq, h1, h3, decide_eq_true h4]
      by_cases hx : 1 < (bodyOf a).length
      · have : ¬ (bodyOf a).head? = some 48 := fun e => h2 ⟨by rw [size_mk]; exact hx, (hd48 _).2 e⟩
        simp [this]
      · simp [hx]
    have hdg := hall hok
    have e10 : ((10 ^ b.length : Nat) : Int) = 10 ^ ((b.length : Int)).toNat := by rw [Int.toNat_natCast]; norm_cast
    rw [if_pos hok, if_pos hok, if_pos hok]
    refine ⟨rfl, fun hz => ?_, fun hz => ?_⟩
    · have hz0 := (bare_zero hdg).1 (List.isEmpty_iff.1 hz)
      unfold decV sgnN
      rw [hz0]
      cases negOf a <;> simp [Rat.zero_divInt]
    · have hp := bare_parse hdg (List.isEmpty_eq_false_iff.1 hz) (by rw [List.length_append]; omega)
      refine ⟨hp.1, hp.2, ?_⟩
      unfold decV sgnN
      rw [e10]
  by_cases hD0 : (bodyOf a).length = 0
  · exact fp_d0 (D := ⟨(bodyOf a).toArray⟩) (E := ⟨b.toArray⟩) (X := ⟨(bare (bodyOf a ++ b)).toArray⟩) hs hm h47 h46 ha (by rw [hb]) rfl rfl rfl rfl (by rw [size_mk]; omega) (by rw [size_mk]; omega) (by rw [size_mk]; rw [List.length_append] at hbare; omega)
      (by rw [hcat]) (isE_mk _) uv ht (by rw [size_mk]; exact hD0) (by show fdigB (bodyOf a) = false; rw [List.eq_nil_of_length_eq_zero hD0]; rfl) hb1 hb2 hb3 hb4 hgood
  · exact fp_d (D := ⟨(bodyOf a).toArray⟩) (E := ⟨b.toArray⟩) (X := ⟨(bare (bodyOf a ++ b)).toArray⟩) hs hm h47 h46 ha (by rw [hb]) rfl rfl rfl rfl (by rw [size_mk]; omega) (by rw [size_mk]; omega) (by rw [size_mk]; rw [List.length_append] at hbare; omega)
      (by rw [hcat]) (isE_mk _) uv ht (by rw [size_mk]; omega) hb1 hb2 hb3 hb4 hgood
theorem fparse_any {w : World} {s : ByteArray} (hs : s.size ≤ 9223372036854775807) (hm : CutOk w) (ht : PowTab w) : Calls Tryz.prog 76 #[.string s] w (RCode (fparse s.data.toList).1 (fparse s.data.toList).2 w) := by
  have hlen : s.data.toList.length = s.size := by simp
  by_cases hl : 600 < s.size
  · rw [fparse_long (by omega)]; exact fp_long hs hl
  by_cases h47 : 47 ∈ s.data.toList
  · rw [fparse_slash (by omega) h47]
    have hal : (pre 47 s.data.toList).length + ((post 47 s.data.toList).length + 1) = s.size := by
      rw [← hlen]
      conv => rhs; rw [cut_at h47]
      simp
    by_cases c1 : parseC (pre 47 s.data.toList) = 0
    · by_cases c2 : parseC (post 47 s.data.toList) = 0
      · by_cases z0 : 0 < parseZ (post 47 s.data.toList)
        · rw [if_pos ⟨c1, c2, z0⟩]; exact fp_s4 (by omega) hm h47 rfl rfl (by omega) (by omega) rfl rfl c1 c2 z0
        · rw [if_neg (fun h => z0 h.2.2)]; exact fp_s3 (by omega) hm h47 rfl rfl (by omega) (by omega) rfl rfl c1 c2 z0
      · rw [if_neg (fun h => c2 h.2.1)]; exact fp_s2 (by omega) hm h47 rfl rfl (by omega) (by omega) rfl rfl c1 rfl c2
    · rw [if_neg (fun h => c1 h.1)]; exact fp_s1 (by omega) hm h47 rfl rfl (by omega) (by omega) rfl rfl rfl rfl c1
  by_cases h46 : 46 ∈ s.data.toList
  · rw [fparse_dot (by omega) h46]
    have := fp_dec (by omega) hm ht h47 h46 rfl rfl
    split
    · rename_i h; rw [if_pos h, if_pos h] at this; exact this
    · rename_i h; rw [if_neg h, if_neg h] at this; exact this
  · rw [fparse_plain (by omega) h46 h47]
    by_cases c0 : parseC s.data.toList = 0
    · rw [if_pos c0]; exact fp_i1 (by omega) hm h47 h46 rfl c0
    · rw [if_neg c0]; exact fp_i0 (by omega) hm h47 h46 rfl rfl c0
end Go.Proofs.YtmochehkkadjnaaGreatDoor
