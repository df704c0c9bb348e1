/- The walk of the law FractionParse. -/
import Derived.Test.YtmochehkkadjnaaGreatDoorMgLawF
import Derived.Test.YtmochehkkadjnaaGreatDoorMgStab
import Derived.Test.YtmochehkkadjnaaGreatDoorMgGPar
namespace Go.Proofs.YtmochehkkadjnaaGreatDoor
open Go.RowKit Go.Shelf

theorem fparse_c {w : World} {s : ByteArray} {c : Int} {q : Rat} (hs : s.size ≤ 1000000) (hm : CutOk w) (ht : PowTab w) (h : fparse s.data.toList = (c, q)) : Calls Tryz.prog 76 #[.string s] w (RCode c q w) := by
  have := fparse_any (s := s) (by omega) hm ht
  rwa [h] at this
theorem gparse_c {w : World} {s : ByteArray} {c : Int} {q : Rat} (hs : s.size ≤ 1000000) (h : fparse s.data.toList = (c, q)) : Calls Tryz.prog 78 #[.string s] w (RCode c q w) := by
  have := gparse_any (w := w) (s := s) (by omega)
  rwa [h] at this
theorem szR_zero : szR 0 ≤ 1 := szR_mk (by rw [Rat.zero_num, lenI_zero]; omega) (by rw [Rat.zero_den]; exact lenI_one)
theorem fparse_sz {l : List UInt8} {q : Rat} (h : fparse l = (0, q)) : szR q ≤ 300 := by
  have hz := szR_zero
  unfold fparse at h
  split at h
  · cases h
  · rename_i hl
    split at h
    · split at h
      · rename_i h46 hok
        cases h
        have hall : (bodyOf (pre 46 l) ++ post 46 l).all isDg = true := by
          unfold decOk at hok
          simp only [Bool.and_eq_true] at hok
          rw [List.all_append, hok.1, hok.2.2.2.1]; rfl
        have hlen : (pre 46 l).length + ((post 46 l).length + 1) = l.length := by
          conv => rhs; rw [cut_at h46]
          simp
        have hbl := body_len (pre 46 l)
        have hv := valD_lt _ hall
        rw [List.length_append] at hv
        have h1 : lenI (sgnN (negOf (pre 46 l)) (valD (bodyOf (pre 46 l) ++ post 46 l))) ≤ 230 := by
          refine dig_length_le (k := 230) ?_
          refine Nat.lt_of_le_of_lt ?_ (Nat.lt_of_lt_of_le hv (pow_230 _ (by omega)))
          unfold sgnN
          split <;> simp
        have h2 : lenI ((10 ^ (post 46 l).length : Nat) : Int) ≤ 231 := by
          refine dig_length_le (k := 231) ?_
          rw [Int.natAbs_natCast]
          have := pow_230 (post 46 l).length (by omega)
          refine Nat.lt_of_le_of_lt this ?_
          rw [Nat.pow_succ 1000000000 230]
          have : 0 < 1000000000 ^ 230 := Nat.pow_pos (by omega)
          omega
        have h3 : ((10 ^ (post 46 l).length : Nat) : Int) ≠ 0 := by
          have : 0 < 10 ^ (post 46 l).length := Nat.pow_pos (by omega)
          omega
        have := szR_divInt (sgnN (negOf (pre 46 l)) (valD (bodyOf (pre 46 l) ++ post 46 l))) ((10 ^ (post 46 l).length : Nat) : Int) h3
        unfold decV
        omega
      · cases h
    · split at h
      · split at h
        · rename_i hp
          cases h
          have := szR_divInt (parseZ (pre 47 l)) (parseZ (post 47 l)) (by omega)
          have h1 := parse_len (pre 47 l)
          have h2 := parse_len (post 47 l)
          omega
        · cases h
      · split at h
        · cases h
          have := szR_int (parseZ l)
          have h1 := parse_len l
          omega
        · cases h
theorem fparse_form (l : List UInt8) : (∃ q, fparse l = (0, q)) ∨ fparse l = (8, 0) ∨ fparse l = (9, 0) := by
  unfold fparse
  split
  · exact .inr (.inr rfl)
  · split
    · split
      · exact .inl ⟨_, rfl⟩
      · exact .inr (.inl rfl)
    · split
      · split
        · exact .inl ⟨_, rfl⟩
        · exact .inr (.inl rfl)
      · split
        · exact .inl ⟨_, rfl⟩
        · exact .inr (.inl rfl)
set_option maxRecDepth 100000 in
set_option maxHeartbeats 1000000 in
theorem lp_long {w : World} {s : ByteArray} (ht : PowTab w) (hs : s.size ≤ 9223372036854775807) (hl : 700 < s.size) : Calls Tryz.prog 14 #[.string s] w (fun e w' => e = .returned (.bool true) ∧ Keeps w w') := by
  have t1 : decide (700 < (s.size : Int)) = true := by exact decide_eq_true (by omega)
  have S := (St.start w)
  go_enter Tryz.func14, Tryz.ntmps14
  go_wp2_with fail
  refine ((known_any _ (ht.keep S.k))).mono ?_
  rintro e W1 ⟨rfl, hk⟩
  replace S := S.below hk
  clear hk
  go_wp2
  go_ret
  exact ⟨rfl, S.k⟩
set_option maxRecDepth 100000 in
set_option maxHeartbeats 1000000 in
theorem lp_0 {w : World} {s : ByteArray} {q : Rat} (ht : PowTab w) (hm : CutOk w) (hl : s.size ≤ 700) (hf : fparse s.data.toList = (0, q)) : Calls Tryz.prog 14 #[.string s] w (fun e w' => e = .returned (.bool true) ∧ Keeps w w') := by
  have z9 := fparse_sz (l := s.data.toList) hf
  have HF := Lib.hid hf
  clear hf
  have t1 : decide (700 < (s.size : Int)) = false := by exact decide_eq_false (by omega)
  have S := (St.start w)
  go_enter Tryz.func14, Tryz.ntmps14
  go_wp2_with fail
  refine ((known_any _ (ht.keep S.k))).mono ?_
  rintro e W1 ⟨rfl, hk⟩
  replace S := S.below hk
  clear hk
  go_wp2_with fail
  refine ((fparse_c (by omega) (hm.keep S.k) (ht.keep S.k) HF.out)).mono ?_
  rintro e W2 ⟨U2, rfl, hp, hk⟩
  rw [if_pos rfl] at hp
  obtain ⟨b3, A3, n3, c3, d3, B3, m3, e3, rfl⟩ := hp.open_
  replace S := (S.below hk).addQ hp
  clear hk hp
  go_wp2_with fail
  replace S := (S.alloc 28 [.bool b3, .slice A3 n3 c3, .bool d3, .slice B3 m3 e3])
  obtain ⟨W3, eW, S⟩ := S.pack
  rw [eW]
  clear eW
  generalize W2.heap.size = P1 at *
  refine ((gparse_c (by omega) HF.out)).mono ?_
  rintro e W4 ⟨U4, rfl, hp, hk⟩
  rw [if_pos rfl] at hp
  obtain ⟨b4, A4, n4, c4, d4, B4, m4, e4, rfl⟩ := hp.open_
  replace S := (S.below hk).addQ hp
  clear hk hp
  go_upto_region 7 with fail
  replace S := (S.alloc 28 [.bool b4, .slice A4 n4 c4, .bool d4, .slice B4 m4 e4])
  obtain ⟨W5, eW, S⟩ := S.pack
  rw [eW]
  clear eW
  generalize W4.heap.size = P2 at *
  have r0_0 := S.c 1 0 rfl rfl
  have r0_1 := S.c 1 1 rfl rfl
  have r0_2 := S.c 1 2 rfl rfl
  have r0_3 := S.c 1 3 rfl rfl
  have r1_0 := S.c 0 0 rfl rfl
  have r1_1 := S.c 0 1 rfl rfl
  have r1_2 := S.c 0 2 rfl rfl
  have r1_3 := S.c 0 3 rfl rfl
  go_wp2_with fail
  refine ((lsame_ok (S.qi 1 rfl) (S.qi 0 rfl) (by omega) (decide_eq_true rfl))).mono ?_
  rintro e W6 ⟨rfl, hk⟩
  replace S := S.below hk
  clear hk
  clear r0_0 r0_1 r0_2 r0_3 r1_0 r1_1 r1_2 r1_3
  go_wp2
  go_ret
  exact ⟨rfl, S.k⟩
set_option maxRecDepth 100000 in
set_option maxHeartbeats 1000000 in
theorem lp_8 {w : World} {s : ByteArray} (ht : PowTab w) (hm : CutOk w) (hl : s.size ≤ 700) (hf : fparse s.data.toList = (8, 0)) : Calls Tryz.prog 14 #[.string s] w (fun e w' => e = .returned (.bool true) ∧ Keeps w w') := by
  skip
  have HF := Lib.hid hf
  clear hf
  have t1 : decide (700 < (s.size : Int)) = false := by exact decide_eq_false (by omega)
  have S := (St.start w)
  go_enter Tryz.func14, Tryz.ntmps14
  go_wp2_with fail
  refine ((known_any _ (ht.keep S.k))).mono ?_
  rintro e W1 ⟨rfl, hk⟩
  replace S := S.below hk
  clear hk
  go_wp2_with fail
  refine ((fparse_c (by omega) (hm.keep S.k) (ht.keep S.k) HF.out)).mono ?_
  rintro e W2 ⟨U2, rfl, hp, hk⟩
  rw [if_neg (by decide)] at hp
  unfold zeroRat at hp
  subst hp
  replace S := S.below hk
  clear hk
  go_wp2_with fail
  replace S := (S.alloc 28 [.bool false, .slice none 0 0, .bool false, .slice none 0 0])
  obtain ⟨W3, eW, S⟩ := S.pack
  rw [eW]
  clear eW
  generalize W2.heap.size = P1 at *
  refine ((gparse_c (by omega) HF.out)).mono ?_
  rintro e W4 ⟨U4, rfl, hp, hk⟩
  rw [if_neg (by decide)] at hp
  unfold zeroRat at hp
  subst hp
  replace S := S.below hk
  clear hk
  go_upto_region 7 with fail
  replace S := (S.alloc 28 [.bool false, .slice none 0 0, .bool false, .slice none 0 0])
  obtain ⟨W5, eW, S⟩ := S.pack
  rw [eW]
  clear eW
  generalize W4.heap.size = P2 at *
  have r0_0 := S.c 1 0 rfl rfl
  have r0_1 := S.c 1 1 rfl rfl
  have r0_2 := S.c 1 2 rfl rfl
  have r0_3 := S.c 1 3 rfl rfl
  have r1_0 := S.c 0 0 rfl rfl
  have r1_1 := S.c 0 1 rfl rfl
  have r1_2 := S.c 0 2 rfl rfl
  have r1_3 := S.c 0 3 rfl rfl
  go_wp2_with fail
  refine ((lsame_err (by decide))).mono ?_
  rintro e W6 ⟨rfl, hk⟩
  replace S := S.below hk
  clear hk
  clear r0_0 r0_1 r0_2 r0_3 r1_0 r1_1 r1_2 r1_3
  go_wp2
  go_ret
  exact ⟨rfl, S.k⟩
set_option maxRecDepth 100000 in
set_option maxHeartbeats 1000000 in
theorem lp_9 {w : World} {s : ByteArray} (ht : PowTab w) (hm : CutOk w) (hl : s.size ≤ 700) (hf : fparse s.data.toList = (9, 0)) : Calls Tryz.prog 14 #[.string s] w (fun e w' => e = .returned (.bool true) ∧ Keeps w w') := by
  skip
  have HF := Lib.hid hf
  clear hf
  have t1 : decide (700 < (s.size : Int)) = false := by exact decide_eq_false (by omega)
  have S := (St.start w)
  go_enter Tryz.func14, Tryz.ntmps14
  go_wp2_with fail
  refine ((known_any _ (ht.keep S.k))).mono ?_
  rintro e W1 ⟨rfl, hk⟩
  replace S := S.below hk
  clear hk
  go_wp2_with fail
  refine ((fparse_c (by omega) (hm.keep S.k) (ht.keep S.k) HF.out)).mono ?_
  rintro e W2 ⟨U2, rfl, hp, hk⟩
  rw [if_neg (by decide)] at hp
  unfold zeroRat at hp
  subst hp
  replace S := S.below hk
  clear hk
  go_wp2_with fail
  replace S := (S.alloc 28 [.bool false, .slice none 0 0, .bool false, .slice none 0 0])
  obtain ⟨W3, eW, S⟩ := S.pack
  rw [eW]
  clear eW
  generalize W2.heap.size = P1 at *
  refine ((gparse_c (by omega) HF.out)).mono ?_
  rintro e W4 ⟨U4, rfl, hp, hk⟩
  rw [if_neg (by decide)] at hp
  unfold zeroRat at hp
  subst hp
  replace S := S.below hk
  clear hk
  go_upto_region 7 with fail
  replace S := (S.alloc 28 [.bool false, .slice none 0 0, .bool false, .slice none 0 0])
  obtain ⟨W5, eW, S⟩ := S.pack
  rw [eW]
  clear eW
  generalize W4.heap.size = P2 at *
  have r0_0 := S.c 1 0 rfl rfl
  have r0_1 := S.c 1 1 rfl rfl
  have r0_2 := S.c 1 2 rfl rfl
  have r0_3 := S.c 1 3 rfl rfl
  have r1_0 := S.c 0 0 rfl rfl
  have r1_1 := S.c 0 1 rfl rfl
  have r1_2 := S.c 0 2 rfl rfl
  have r1_3 := S.c 0 3 rfl rfl
  go_wp2_with fail
  refine ((lsame_err (by decide))).mono ?_
  rintro e W6 ⟨rfl, hk⟩
  replace S := S.below hk
  clear hk
  clear r0_0 r0_1 r0_2 r0_3 r1_0 r1_1 r1_2 r1_3
  go_wp2
  go_ret
  exact ⟨rfl, S.k⟩
theorem parse_walk {w : World} {s : ByteArray} (hm : CutOk w) (ht : PowTab w) (hs : s.size ≤ 9223372036854775807) :
    Calls Tryz.prog 14 #[.string s] w fun e w' => e = .returned (.bool true) ∧ Keeps w w' := by
  by_cases hl : 700 < s.size
  · exact lp_long ht hs hl
  · rcases fparse_form s.data.toList with ⟨q, h⟩ | h | h
    · exact lp_0 ht hm (by omega) h
    · exact lp_8 ht hm (by omega) h
    · exact lp_9 ht hm (by omega) h
end Go.Proofs.YtmochehkkadjnaaGreatDoor
