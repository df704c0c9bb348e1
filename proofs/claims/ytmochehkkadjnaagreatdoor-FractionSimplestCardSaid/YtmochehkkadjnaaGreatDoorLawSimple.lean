/- The walk of the law FractionSimplest. -/
import Derived.Test.YtmochehkkadjnaaGreatDoorGSimp
namespace Go.Proofs.YtmochehkkadjnaaGreatDoor
open Go.RowKit Go.Shelf

set_option maxRecDepth 100000 in
set_option maxHeartbeats 1000000 in
theorem sls_1 {w : World} {V1 V2 : Value} {x y : Rat} {b2 : Bool} (h1 : RatS w V1 x false) (h2 : RatS w V2 y b2)  (ht : PowTab w) : Calls Tryz.prog 6 #[V1, V2] w (fun e w' => e = .returned (.bool true) ∧ Keeps w w') := by
  obtain ⟨b3, A3, n3, c3, d3, B3, m3, e3, rfl⟩ := h1.open_
  obtain ⟨b4, A4, n4, c4, d4, B4, m4, e4, rfl⟩ := h2.open_
  have S := (((St.start w).addL h1).addL h2)
  clear h1 h2
  go_enter Tryz.func6, Tryz.ntmps6
  go_wp2_with fail
  replace S := ((S.alloc 28 [.bool b3, .slice A3 n3 c3, .bool d3, .slice B3 m3 e3]).alloc 28 [.bool b4, .slice A4 n4 c4, .bool d4, .slice B4 m4 e4])
  simp only [World.size_alloc] at S
  obtain ⟨W1, eW, S⟩ := S.pack
  rw [eW]
  clear eW
  refine ((known_any _ (ht.keep S.k))).mono ?_
  rintro e W2 ⟨rfl, hk⟩
  replace S := S.below hk
  clear hk
  have r0_0 := S.c 1 0 rfl rfl
  have r0_1 := S.c 1 1 rfl rfl
  have r0_2 := S.c 1 2 rfl rfl
  have r0_3 := S.c 1 3 rfl rfl
  go_wp2_with fail
  refine ((lshort_b (S.li 1 rfl))).mono ?_
  rintro e W3 ⟨rfl, hk⟩
  replace S := S.below hk
  clear hk
  clear r0_0 r0_1 r0_2 r0_3
  go_wp2
  go_ret
  exact ⟨rfl, S.k⟩
set_option maxRecDepth 100000 in
set_option maxHeartbeats 1000000 in
theorem sls_2 {w : World} {V1 V2 : Value} {x y : Rat} (h1 : RatS w V1 x true) (h2 : RatS w V2 y false)  (ht : PowTab w) : Calls Tryz.prog 6 #[V1, V2] w (fun e w' => e = .returned (.bool true) ∧ Keeps w w') := by
  obtain ⟨b3, A3, n3, c3, d3, B3, m3, e3, rfl⟩ := h1.open_
  obtain ⟨b4, A4, n4, c4, d4, B4, m4, e4, rfl⟩ := h2.open_
  have S := (((St.start w).addL h1).addL h2)
  clear h1 h2
  go_enter Tryz.func6, Tryz.ntmps6
  go_wp2_with fail
  replace S := ((S.alloc 28 [.bool b3, .slice A3 n3 c3, .bool d3, .slice B3 m3 e3]).alloc 28 [.bool b4, .slice A4 n4 c4, .bool d4, .slice B4 m4 e4])
  simp only [World.size_alloc] at S
  obtain ⟨W1, eW, S⟩ := S.pack
  rw [eW]
  clear eW
  refine ((known_any _ (ht.keep S.k))).mono ?_
  rintro e W2 ⟨rfl, hk⟩
  replace S := S.below hk
  clear hk
  have r0_0 := S.c 1 0 rfl rfl
  have r0_1 := S.c 1 1 rfl rfl
  have r0_2 := S.c 1 2 rfl rfl
  have r0_3 := S.c 1 3 rfl rfl
  go_wp2_with fail
  refine ((lshort_b (S.li 1 rfl))).mono ?_
  rintro e W3 ⟨rfl, hk⟩
  replace S := S.below hk
  clear hk
  clear r0_0 r0_1 r0_2 r0_3
  have r1_0 := S.c 0 0 rfl rfl
  have r1_1 := S.c 0 1 rfl rfl
  have r1_2 := S.c 0 2 rfl rfl
  have r1_3 := S.c 0 3 rfl rfl
  go_wp2_with fail
  refine ((lshort_b (S.li 0 rfl))).mono ?_
  rintro e W4 ⟨rfl, hk⟩
  replace S := S.below hk
  clear hk
  clear r1_0 r1_1 r1_2 r1_3
  go_wp2
  go_ret
  exact ⟨rfl, S.k⟩
set_option maxRecDepth 100000 in
set_option maxHeartbeats 4000000 in
theorem sl_err {w : World} {V1 V2 : Value} {x y : Rat} (h1 : RatS w V1 x true) (h2 : RatS w V2 y true) (ht : PowTab w) (hxy : y < x) : Calls Tryz.prog 6 #[V1, V2] w (fun e w' => e = .returned (.bool true) ∧ Keeps w w') := by
  obtain ⟨b3, A3, n3, c3, d3, B3, m3, e3, rfl⟩ := h1.open_
  obtain ⟨b4, A4, n4, c4, d4, B4, m4, e4, rfl⟩ := h2.open_
  have z0 := h1.sz
  have z1 := h2.sz
  have HC := Lib.hid (show simC x y = 5 from if_pos hxy)
  have HK := Lib.hid hxy
  clear hxy
  have S := (((St.start w).addL h1).addL h2)
  clear h1 h2
  go_enter Tryz.func6, Tryz.ntmps6
  go_wp2_with fail
  replace S := ((S.alloc 28 [.bool b3, .slice A3 n3 c3, .bool d3, .slice B3 m3 e3]).alloc 28 [.bool b4, .slice A4 n4 c4, .bool d4, .slice B4 m4 e4])
  simp only [World.size_alloc] at S
  obtain ⟨W1, eW, S⟩ := S.pack
  rw [eW]
  clear eW
  refine ((known_any _ (ht.keep S.k))).mono ?_
  rintro e W2 ⟨rfl, hk⟩
  replace S := S.below hk
  clear hk
  have r0_0 := S.c 1 0 rfl rfl
  have r0_1 := S.c 1 1 rfl rfl
  have r0_2 := S.c 1 2 rfl rfl
  have r0_3 := S.c 1 3 rfl rfl
  go_wp2_with fail
  refine ((lshort_b (S.li 1 rfl))).mono ?_
  rintro e W3 ⟨rfl, hk⟩
  replace S := S.below hk
  clear hk
  clear r0_0 r0_1 r0_2 r0_3
  have r1_0 := S.c 0 0 rfl rfl
  have r1_1 := S.c 0 1 rfl rfl
  have r1_2 := S.c 0 2 rfl rfl
  have r1_3 := S.c 0 3 rfl rfl
  go_wp2_with fail
  refine ((lshort_b (S.li 0 rfl))).mono ?_
  rintro e W4 ⟨rfl, hk⟩
  replace S := S.below hk
  clear hk
  clear r1_0 r1_1 r1_2 r1_3
  have r0_0 := S.c 1 0 rfl rfl
  have r0_1 := S.c 1 1 rfl rfl
  have r0_2 := S.c 1 2 rfl rfl
  have r0_3 := S.c 1 3 rfl rfl
  have r1_0 := S.c 0 0 rfl rfl
  have r1_1 := S.c 0 1 rfl rfl
  have r1_2 := S.c 0 2 rfl rfl
  have r1_3 := S.c 0 3 rfl rfl
  go_wp2_with fail
  refine ((rcode_eq (fsimpl_num ((S.li 1 rfl).num) ((S.li 0 rfl).num) (by omega) (by omega)) HC.out rfl)).mono ?_
  rintro e W5 ⟨U5, rfl, hp, hk⟩
  rw [if_neg (by decide)] at hp
  unfold zeroRat at hp
  subst hp
  replace S := S.below hk
  clear hk
  clear r0_0 r0_1 r0_2 r0_3 r1_0 r1_1 r1_2 r1_3
  go_upto_region 6 with fail
  replace S := (S.alloc 28 [.bool false, .slice none 0 0, .bool false, .slice none 0 0])
  obtain ⟨W6, eW, S⟩ := S.pack
  rw [eW]
  clear eW
  generalize W5.heap.size = P1 at *
  have r0_0 := S.c 2 0 rfl rfl
  have r0_1 := S.c 2 1 rfl rfl
  have r0_2 := S.c 2 2 rfl rfl
  have r0_3 := S.c 2 3 rfl rfl
  have r1_0 := S.c 1 0 rfl rfl
  have r1_1 := S.c 1 1 rfl rfl
  have r1_2 := S.c 1 2 rfl rfl
  have r1_3 := S.c 1 3 rfl rfl
  go_wp2_with fail
  refine ((gsp_order ((S.li 1 rfl).num) ((S.li 0 rfl).num) HK.out (by omega) (by omega))).mono ?_
  rintro e W7 ⟨U7, rfl, hp, hk⟩
  rw [if_neg (by decide)] at hp
  unfold zeroRat at hp
  subst hp
  replace S := S.below hk
  clear hk
  clear r0_0 r0_1 r0_2 r0_3 r1_0 r1_1 r1_2 r1_3
  go_upto_region 7 with fail
  replace S := (S.alloc 28 [.bool false, .slice none 0 0, .bool false, .slice none 0 0])
  obtain ⟨W8, eW, S⟩ := S.pack
  rw [eW]
  clear eW
  generalize W7.heap.size = P2 at *
  have r2_0 := S.c 1 0 rfl rfl
  have r2_1 := S.c 1 1 rfl rfl
  have r2_2 := S.c 1 2 rfl rfl
  have r2_3 := S.c 1 3 rfl rfl
  have r3_0 := S.c 0 0 rfl rfl
  have r3_1 := S.c 0 1 rfl rfl
  have r3_2 := S.c 0 2 rfl rfl
  have r3_3 := S.c 0 3 rfl rfl
  go_wp2_with fail
  refine ((lsame_err (by decide))).mono ?_
  rintro e W9 ⟨rfl, hk⟩
  replace S := S.below hk
  clear hk
  clear r2_0 r2_1 r2_2 r2_3 r3_0 r3_1 r3_2 r3_3
  go_wp2
  go_ret
  exact ⟨rfl, S.k⟩
set_option maxRecDepth 100000 in
set_option maxHeartbeats 4000000 in
theorem sl_ok {w : World} {V1 V2 : Value} {x y : Rat} (h1 : RatS w V1 x true) (h2 : RatS w V2 y true) (ht : PowTab w) (hxy : x ≤ y) : Calls Tryz.prog 6 #[V1, V2] w (fun e w' => e = .returned (.bool true) ∧ Keeps w w') := by
  obtain ⟨b3, A3, n3, c3, d3, B3, m3, e3, rfl⟩ := h1.open_
  obtain ⟨b4, A4, n4, c4, d4, B4, m4, e4, rfl⟩ := h2.open_
  have z0 := h1.sz
  have z1 := h2.sz
  have z2 := simV_sz hxy
  have HC := Lib.hid (show simC x y = 0 from if_neg (Rat.not_lt.2 hxy))
  have HK := Lib.hid hxy
  clear hxy
  have S := (((St.start w).addL h1).addL h2)
  clear h1 h2
  go_enter Tryz.func6, Tryz.ntmps6
  go_wp2_with fail
  replace S := ((S.alloc 28 [.bool b3, .slice A3 n3 c3, .bool d3, .slice B3 m3 e3]).alloc 28 [.bool b4, .slice A4 n4 c4, .bool d4, .slice B4 m4 e4])
  simp only [World.size_alloc] at S
  obtain ⟨W1, eW, S⟩ := S.pack
  rw [eW]
  clear eW
  refine ((known_any _ (ht.keep S.k))).mono ?_
  rintro e W2 ⟨rfl, hk⟩
  replace S := S.below hk
  clear hk
  have r0_0 := S.c 1 0 rfl rfl
  have r0_1 := S.c 1 1 rfl rfl
  have r0_2 := S.c 1 2 rfl rfl
  have r0_3 := S.c 1 3 rfl rfl
  go_wp2_with fail
  refine ((lshort_b (S.li 1 rfl))).mono ?_
  rintro e W3 ⟨rfl, hk⟩
  replace S := S.below hk
  clear hk
  clear r0_0 r0_1 r0_2 r0_3
  have r1_0 := S.c 0 0 rfl rfl
  have r1_1 := S.c 0 1 rfl rfl
  have r1_2 := S.c 0 2 rfl rfl
  have r1_3 := S.c 0 3 rfl rfl
  go_wp2_with fail
  refine ((lshort_b (S.li 0 rfl))).mono ?_
  rintro e W4 ⟨rfl, hk⟩
  replace S := S.below hk
  clear hk
  clear r1_0 r1_1 r1_2 r1_3
  have r0_0 := S.c 1 0 rfl rfl
  have r0_1 := S.c 1 1 rfl rfl
  have r0_2 := S.c 1 2 rfl rfl
  have r0_3 := S.c 1 3 rfl rfl
  have r1_0 := S.c 0 0 rfl rfl
  have r1_1 := S.c 0 1 rfl rfl
  have r1_2 := S.c 0 2 rfl rfl
  have r1_3 := S.c 0 3 rfl rfl
  go_wp2_with fail
  refine ((rcode_eq (fsimpl_num ((S.li 1 rfl).num) ((S.li 0 rfl).num) (by omega) (by omega)) HC.out rfl)).mono ?_
  rintro e W5 ⟨U5, rfl, hp, hk⟩
  rw [if_pos rfl] at hp
  obtain ⟨b5, A5, n5, c5, d5, B5, m5, e5, rfl⟩ := hp.open_
  replace S := (S.below hk).addQ hp
  clear hk hp
  clear r0_0 r0_1 r0_2 r0_3 r1_0 r1_1 r1_2 r1_3
  go_upto_region 6 with fail
  replace S := (S.alloc 28 [.bool b5, .slice A5 n5 c5, .bool d5, .slice B5 m5 e5])
  obtain ⟨W6, eW, S⟩ := S.pack
  rw [eW]
  clear eW
  generalize W5.heap.size = P1 at *
  have r0_0 := S.c 2 0 rfl rfl
  have r0_1 := S.c 2 1 rfl rfl
  have r0_2 := S.c 2 2 rfl rfl
  have r0_3 := S.c 2 3 rfl rfl
  have r1_0 := S.c 1 0 rfl rfl
  have r1_1 := S.c 1 1 rfl rfl
  have r1_2 := S.c 1 2 rfl rfl
  have r1_3 := S.c 1 3 rfl rfl
  go_wp2_with fail
  refine ((gsimpl_ok ((S.li 2 rfl).num) ((S.li 1 rfl).num) HK.out (by omega) (by omega))).mono ?_
  rintro e W7 ⟨U7, rfl, hp, hk⟩
  rw [if_pos rfl] at hp
  obtain ⟨b6, A6, n6, c6, d6, B6, m6, e6, rfl⟩ := hp.open_
  replace S := (S.below hk).addQ hp
  clear hk hp
  clear r0_0 r0_1 r0_2 r0_3 r1_0 r1_1 r1_2 r1_3
  go_upto_region 7 with fail
  replace S := (S.alloc 28 [.bool b6, .slice A6 n6 c6, .bool d6, .slice B6 m6 e6])
  obtain ⟨W8, eW, S⟩ := S.pack
  rw [eW]
  clear eW
  generalize W7.heap.size = P2 at *
  have r2_0 := S.c 1 0 rfl rfl
  have r2_1 := S.c 1 1 rfl rfl
  have r2_2 := S.c 1 2 rfl rfl
  have r2_3 := S.c 1 3 rfl rfl
  have r3_0 := S.c 0 0 rfl rfl
  have r3_1 := S.c 0 1 rfl rfl
  have r3_2 := S.c 0 2 rfl rfl
  have r3_3 := S.c 0 3 rfl rfl
  go_wp2_with fail
  refine ((lsame_ok (S.qi 1 rfl) (S.qi 0 rfl) (by omega) (decide_eq_true rfl))).mono ?_
  rintro e W9 ⟨rfl, hk⟩
  replace S := S.below hk
  clear hk
  clear r2_0 r2_1 r2_2 r2_3 r3_0 r3_1 r3_2 r3_3
  go_wp2
  go_ret
  exact ⟨rfl, S.k⟩
theorem simple_walk {w : World} {V1 V2 : Value} {x y : Rat} {b1 b2 : Bool} (h1 : RatS w V1 x b1) (h2 : RatS w V2 y b2) (ht : PowTab w) :
    Calls Tryz.prog 6 #[V1, V2] w fun e w' => e = .returned (.bool true) ∧ Keeps w w' := by
  cases b1 with
  | false => exact sls_1 h1 h2 ht
  | true => cases b2 with
    | false => exact sls_2 h1 h2 ht
    | true =>
      by_cases hxy : y < x
      · exact sl_err h1 h2 ht hxy
      · exact sl_ok h1 h2 ht (Rat.not_lt.1 hxy)
end Go.Proofs.YtmochehkkadjnaaGreatDoor
