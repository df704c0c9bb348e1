/- The walk of the law FractionLists. -/
import Derived.Test.YtmochehkkadjnaaGreatDoorMgRats
import Derived.Test.YtmochehkkadjnaaGreatDoorMgClean
import Derived.Test.YtmochehkkadjnaaGreatDoorGRest
import Derived.Test.YtmochehkkadjnaaGreatDoorStab2
namespace Go.Proofs.YtmochehkkadjnaaGreatDoor
open Go.RowKit Go.Shelf

def shortB (l : List (Rat × Bool)) : Bool := decide (l.length ≤ 8) && l.all (·.2)
theorem gshort_s {w : World} {A : Option Addr} {n c : Nat} {l : List (Rat × Bool)} {b : Bool} (hr : Row4 RatS2 w A l) (hl : l.length = n) (hb : shortB l = b) :
    Calls Tryz.prog 66 #[.slice A n c, .int .i64 8, .int .i64 8] w fun e w' => e = .returned (.bool b) ∧ Keeps w w' := by
  subst hl
  by_cases h : 8 < l.length
  · have : b = false := by rw [← hb]; unfold shortB; rw [decide_eq_false (by omega : ¬ l.length ≤ 8)]; rfl
    subst this
    exact gshort_long h
  · have : b = l.all (·.2) := by rw [← hb]; unfold shortB; rw [decide_eq_true (by omega : l.length ≤ 8)]; rfl
    subst this
    exact gshort_any hr (by omega)
theorem szR_sum8 {qs : List Rat} (hz : ∀ q ∈ qs, szR q ≤ 8) (hn : qs.length ≤ 8) : szR (sumR qs) ≤ 100 := by
  have := szR_sum hz qs.length (Nat.le_refl _)
  rw [List.take_of_length_le (Nat.le_refl _)] at this
  omega
theorem szR_dot8 {qs ys : List Rat} (hz : ∀ q ∈ qs, szR q ≤ 8) (hz' : ∀ q ∈ ys, szR q ≤ 8) (hl : ys.length = qs.length) (hn : qs.length ≤ 8) : szR (dotR qs ys) ≤ 1000 := by
  rw [dotR_all (k := qs.length) (Nat.le_refl _) (by omega)]
  have := szR_dot hz hz' qs.length (Nat.le_refl _) hl
  omega
theorem z100 {qs : List Rat} (hz : ∀ q ∈ qs, szR q ≤ 8) : ∀ q ∈ qs, szR q ≤ 100 := fun q hq => by have := hz q hq; omega
theorem Row4.short {w : World} {A : Option Addr} {l : List (Rat × Bool)} (h : Row4 RatS2 w A l) (hb : shortB l = true) :
    Row4 RatNum w A (l.map (·.1)) ∧ (∀ q ∈ l.map (·.1), szR q ≤ 8) ∧ (l.map (·.1)).length ≤ 8 := by
  unfold shortB at hb
  simp only [Bool.and_eq_true, decide_eq_true_eq, List.all_eq_true] at hb
  refine ⟨fun j q hj => ?_, fun q hq => ?_, by rw [List.length_map]; exact hb.1⟩
  · rw [List.getElem?_map] at hj
    obtain ⟨x, hx, rfl⟩ := Option.map_eq_some_iff.1 hj
    obtain ⟨B, o, c0, c1, c2, c3, e, hc, hr⟩ := h j x hx
    have h2 := hb.2 x (List.mem_of_getElem? hx)
    unfold RatS2 at hr
    rw [h2] at hr
    exact ⟨B, o, c0, c1, c2, c3, e, hc, hr.num⟩
  · obtain ⟨x, hx, rfl⟩ := List.mem_map.1 hq
    obtain ⟨j, hj⟩ := List.mem_iff_getElem?.1 hx
    obtain ⟨B, o, c0, c1, c2, c3, e, hc, hr⟩ := h j x hj
    have h2 := hb.2 x hx
    unfold RatS2 at hr
    rw [h2] at hr
    exact hr.sz
set_option maxRecDepth 100000 in
set_option maxHeartbeats 1000000 in
theorem ll_1 {w : World} {A A' : Option Addr} {n n' c c' : Nat} {l l' : List (Rat × Bool)} (ht : PowTab w) (hs : Row4 RatS2 w A l) (hl : l.length = n) (hs' : Row4 RatS2 w A' l') (hl' : l'.length = n') (hb : shortB l = false) : Calls Tryz.prog 12 #[.slice A n c, .slice A' n' c'] w (fun e w' => e = .returned (.bool true) ∧ Keeps w w') := by
  have HS := Lib.hid hs
  have HS' := Lib.hid hs'
  have HL := Lib.hid hl
  have HL' := Lib.hid hl'
  have HB := Lib.hid hb
  clear hs hs' hl hl' hb
  have S := (St.start w)
  go_enter Tryz.func12, Tryz.ntmps12
  go_wp2_with fail
  refine ((known_any _ (ht.keep S.k))).mono ?_
  rintro e W1 ⟨rfl, hk⟩
  replace S := S.below hk
  clear hk
  go_wp2_with fail
  refine ((gshort_s (HS.out.below lasts_s S.k) HL.out HB.out)).mono ?_
  rintro e W2 ⟨rfl, hk⟩
  replace S := S.below hk
  clear hk
  go_wp2
  go_ret
  exact ⟨rfl, S.k⟩
set_option maxRecDepth 100000 in
set_option maxHeartbeats 1000000 in
theorem ll_2 {w : World} {A A' : Option Addr} {n n' c c' : Nat} {l l' : List (Rat × Bool)} (ht : PowTab w) (hs : Row4 RatS2 w A l) (hl : l.length = n) (hs' : Row4 RatS2 w A' l') (hl' : l'.length = n') (hb : shortB l = true) (hb' : shortB l' = false) : Calls Tryz.prog 12 #[.slice A n c, .slice A' n' c'] w (fun e w' => e = .returned (.bool true) ∧ Keeps w w') := by
  have HS := Lib.hid hs
  have HS' := Lib.hid hs'
  have HL := Lib.hid hl
  have HL' := Lib.hid hl'
  have HB := Lib.hid hb
  clear hs hs' hl hl' hb
  have HB' := Lib.hid hb'
  clear hb'
  have S := (St.start w)
  go_enter Tryz.func12, Tryz.ntmps12
  go_wp2_with fail
  refine ((known_any _ (ht.keep S.k))).mono ?_
  rintro e W1 ⟨rfl, hk⟩
  replace S := S.below hk
  clear hk
  go_wp2_with fail
  refine ((gshort_s (HS.out.below lasts_s S.k) HL.out HB.out)).mono ?_
  rintro e W2 ⟨rfl, hk⟩
  replace S := S.below hk
  clear hk
  go_wp2_with fail
  refine ((gshort_s (HS'.out.below lasts_s S.k) HL'.out HB'.out)).mono ?_
  rintro e W3 ⟨rfl, hk⟩
  replace S := S.below hk
  clear hk
  go_wp2
  go_ret
  exact ⟨rfl, S.k⟩
set_option maxRecDepth 100000 in
set_option maxHeartbeats 4000000 in
theorem ll_e0 {w : World} {A A' : Option Addr} {c c' : Nat} {l l' : List (Rat × Bool)} {qs ys : List Rat} (ht : PowTab w) (hs : Row4 RatS2 w A l) (hl : l.length = qs.length) (hs' : Row4 RatS2 w A' l') (hl' : l'.length = qs.length) (hb : shortB l = true) (hb' : shortB l' = true) (hr : Row4 RatNum w A qs) (hr' : Row4 RatNum w A' ys) (hz : ∀ q ∈ qs, szR q ≤ 8) (hz' : ∀ q ∈ ys, szR q ≤ 8) (hn : qs.length ≤ 8) (hys : ys.length = qs.length) (hh : True) (hg : lstC qs = 6) (u2 : szR (dotR qs ys) ≤ 1000) : Calls Tryz.prog 12 #[.slice A qs.length c, .slice A' qs.length c'] w (fun e w' => e = .returned (.bool true) ∧ Keeps w w') := by
  have u1 : szR (sumR qs) ≤ 100 := szR_sum8 hz hn
  have HS := Lib.hid hs
  have HS' := Lib.hid hs'
  have HL := Lib.hid hl
  have HL' := Lib.hid hl'
  have HB := Lib.hid hb
  have HB' := Lib.hid hb'
  have HR := Lib.hid hr
  have HR' := Lib.hid hr'
  have HZ := Lib.hid hz
  have HZ' := Lib.hid hz'
  have HY := Lib.hid hys
  have HH := Lib.hid hh
  have HG := Lib.hid hg
  clear hs hs' hl hl' hb hb' hr hr' hz hz' hys hh hg
  have S := (St.start w)
  go_enter Tryz.func12, Tryz.ntmps12
  go_wp2_with fail
  refine ((known_any _ (ht.keep S.k))).mono ?_
  rintro e W1 ⟨rfl, hk⟩
  replace S := S.below hk
  clear hk
  go_wp2_with fail
  refine ((gshort_s (HS.out.below lasts_s S.k) HL.out HB.out)).mono ?_
  rintro e W2 ⟨rfl, hk⟩
  replace S := S.below hk
  clear hk
  go_wp2_with fail
  refine ((gshort_s (HS'.out.below lasts_s S.k) HL'.out HB'.out)).mono ?_
  rintro e W3 ⟨rfl, hk⟩
  replace S := S.below hk
  clear hk
  go_wp2_with fail
  refine ((fdot_any (HR.out.below lasts_num S.k) (HR'.out.below lasts_num S.k) HZ.out HZ'.out HY.out (by omega))).mono ?_
  rintro e W4 ⟨U4, rfl, hp, hk⟩
  rw [if_pos rfl] at hp
  obtain ⟨b3, A3, n3, c3, d3, B3, m3, e3, rfl⟩ := hp.open_
  replace S := (S.below hk).addQ hp
  clear hk hp
  go_wp2_with fail
  replace S := (S.alloc 28 [.bool b3, .slice A3 n3 c3, .bool d3, .slice B3 m3 e3])
  obtain ⟨W5, eW, S⟩ := S.pack
  rw [eW]
  clear eW
  generalize W4.heap.size = P1 at *
  refine ((gdot_any (HR.out.below lasts_num S.k) (HR'.out.below lasts_num S.k) HZ.out HZ'.out HY.out (by omega))).mono ?_
  rintro e W6 ⟨U6, rfl, hp, hk⟩
  rw [if_pos rfl] at hp
  obtain ⟨b4, A4, n4, c4, d4, B4, m4, e4, rfl⟩ := hp.open_
  replace S := (S.below hk).addQ hp
  clear hk hp
  go_wp2_with fail
  replace S := (S.alloc 28 [.bool b4, .slice A4 n4 c4, .bool d4, .slice B4 m4 e4])
  obtain ⟨W7, eW, S⟩ := S.pack
  rw [eW]
  clear eW
  generalize W6.heap.size = P2 at *
  refine ((rcode_eq (fleast_any (HR.out.below lasts_num S.k) HZ.out (by omega)) HG.out rfl)).mono ?_
  rintro e W8 ⟨U8, rfl, hp, hk⟩
  rw [if_neg (by decide)] at hp
  unfold zeroRat at hp
  subst hp
  replace S := S.below hk
  clear hk
  go_wp2_with fail
  replace S := (S.alloc 28 [.bool false, .slice none 0 0, .bool false, .slice none 0 0])
  obtain ⟨W9, eW, S⟩ := S.pack
  rw [eW]
  clear eW
  generalize W8.heap.size = P3 at *
  refine ((rcode_eq (gleast_row (HR.out.below lasts_num S.k) (z100 HZ.out) (by omega)) HG.out rfl)).mono ?_
  rintro e W10 ⟨U10, rfl, hp, hk⟩
  rw [if_neg (by decide)] at hp
  unfold zeroRat at hp
  subst hp
  replace S := S.below hk
  clear hk
  go_wp2_with fail
  replace S := (S.alloc 28 [.bool false, .slice none 0 0, .bool false, .slice none 0 0])
  obtain ⟨W11, eW, S⟩ := S.pack
  rw [eW]
  clear eW
  generalize W10.heap.size = P4 at *
  refine ((rcode_eq (fgreat_any (HR.out.below lasts_num S.k) HZ.out (by omega)) HG.out rfl)).mono ?_
  rintro e W12 ⟨U12, rfl, hp, hk⟩
  rw [if_neg (by decide)] at hp
  unfold zeroRat at hp
  subst hp
  replace S := S.below hk
  clear hk
  go_wp2_with fail
  replace S := (S.alloc 28 [.bool false, .slice none 0 0, .bool false, .slice none 0 0])
  obtain ⟨W13, eW, S⟩ := S.pack
  rw [eW]
  clear eW
  generalize W12.heap.size = P5 at *
  refine ((rcode_eq (ggreat_any (HR.out.below lasts_num S.k) HZ.out (by omega)) HG.out rfl)).mono ?_
  rintro e W14 ⟨U14, rfl, hp, hk⟩
  rw [if_neg (by decide)] at hp
  unfold zeroRat at hp
  subst hp
  replace S := S.below hk
  clear hk
  go_upto_region 11 with fail
  replace S := (S.alloc 28 [.bool false, .slice none 0 0, .bool false, .slice none 0 0])
  obtain ⟨W15, eW, S⟩ := S.pack
  rw [eW]
  clear eW
  generalize W14.heap.size = P6 at *
  go_wp2_with fail
  refine ((fsum_any (HR.out.below lasts_num S.k) HZ.out (by omega))).mono ?_
  rintro e W16 ⟨U16, rfl, hp, hk⟩
  obtain ⟨b5, A5, n5, c5, d5, B5, m5, e5, rfl⟩ := hp.open_
  replace S := (S.below hk).addQ hp
  clear hk hp
  go_wp2_with fail
  refine ((gsum_any (HR.out.below lasts_num S.k) HZ.out (by omega))).mono ?_
  rintro e W17 ⟨U17, rfl, hp, hk⟩
  obtain ⟨b6, A6, n6, c6, d6, B6, m6, e6, rfl⟩ := hp.open_
  replace S := (S.below hk).addQ hp
  clear hk hp
  go_wp2_with fail
  refine ((gsame_s (b := true) (S.qi 1 rfl) (S.qi 0 rfl) (by omega) (decide_eq_true rfl))).mono ?_
  rintro e W18 ⟨rfl, hk⟩
  replace S := S.below hk
  clear hk
  have r0_0 := S.c 5 0 rfl rfl
  have r0_1 := S.c 5 1 rfl rfl
  have r0_2 := S.c 5 2 rfl rfl
  have r0_3 := S.c 5 3 rfl rfl
  have r1_0 := S.c 4 0 rfl rfl
  have r1_1 := S.c 4 1 rfl rfl
  have r1_2 := S.c 4 2 rfl rfl
  have r1_3 := S.c 4 3 rfl rfl
  go_wp2_with fail
  refine ((lsame_ok (S.qi 3 rfl) (S.qi 2 rfl) (by omega) (decide_eq_true rfl))).mono ?_
  rintro e W19 ⟨rfl, hk⟩
  replace S := S.below hk
  clear hk
  clear r0_0 r0_1 r0_2 r0_3 r1_0 r1_1 r1_2 r1_3
  have r2_0 := S.c 3 0 rfl rfl
  have r2_1 := S.c 3 1 rfl rfl
  have r2_2 := S.c 3 2 rfl rfl
  have r2_3 := S.c 3 3 rfl rfl
  have r3_0 := S.c 2 0 rfl rfl
  have r3_1 := S.c 2 1 rfl rfl
  have r3_2 := S.c 2 2 rfl rfl
  have r3_3 := S.c 2 3 rfl rfl
  go_wp2_with fail
  refine ((lsame_err (by decide))).mono ?_
  rintro e W20 ⟨rfl, hk⟩
  replace S := S.below hk
  clear hk
  clear r2_0 r2_1 r2_2 r2_3 r3_0 r3_1 r3_2 r3_3
  have r4_0 := S.c 1 0 rfl rfl
  have r4_1 := S.c 1 1 rfl rfl
  have r4_2 := S.c 1 2 rfl rfl
  have r4_3 := S.c 1 3 rfl rfl
  have r5_0 := S.c 0 0 rfl rfl
  have r5_1 := S.c 0 1 rfl rfl
  have r5_2 := S.c 0 2 rfl rfl
  have r5_3 := S.c 0 3 rfl rfl
  go_wp2_with fail
  refine ((lsame_err (by decide))).mono ?_
  rintro e W21 ⟨rfl, hk⟩
  replace S := S.below hk
  clear hk
  clear r4_0 r4_1 r4_2 r4_3 r5_0 r5_1 r5_2 r5_3
  go_wp2
  go_ret
  exact ⟨rfl, S.k⟩
set_option maxRecDepth 100000 in
set_option maxHeartbeats 4000000 in
theorem ll_e1 {w : World} {A A' : Option Addr} {c c' : Nat} {l l' : List (Rat × Bool)} {qs ys : List Rat} (ht : PowTab w) (hs : Row4 RatS2 w A l) (hl : l.length = qs.length) (hs' : Row4 RatS2 w A' l') (hl' : l'.length = qs.length) (hb : shortB l = true) (hb' : shortB l' = true) (hr : Row4 RatNum w A qs) (hr' : Row4 RatNum w A' ys) (hz : ∀ q ∈ qs, szR q ≤ 8) (hz' : ∀ q ∈ ys, szR q ≤ 8) (hn : qs.length ≤ 8) (hys : ys.length = qs.length) (hh : True) (hg : lstC qs = 0) (u2 : szR (dotR qs ys) ≤ 1000) (u3 : szR (minL qs) ≤ 100) (u4 : szR (maxL qs) ≤ 100) : Calls Tryz.prog 12 #[.slice A qs.length c, .slice A' qs.length c'] w (fun e w' => e = .returned (.bool true) ∧ Keeps w w') := by
  have u1 : szR (sumR qs) ≤ 100 := szR_sum8 hz hn
  have HS := Lib.hid hs
  have HS' := Lib.hid hs'
  have HL := Lib.hid hl
  have HL' := Lib.hid hl'
  have HB := Lib.hid hb
  have HB' := Lib.hid hb'
  have HR := Lib.hid hr
  have HR' := Lib.hid hr'
  have HZ := Lib.hid hz
  have HZ' := Lib.hid hz'
  have HY := Lib.hid hys
  have HH := Lib.hid hh
  have HG := Lib.hid hg
  clear hs hs' hl hl' hb hb' hr hr' hz hz' hys hh hg
  have S := (St.start w)
  go_enter Tryz.func12, Tryz.ntmps12
  go_wp2_with fail
  refine ((known_any _ (ht.keep S.k))).mono ?_
  rintro e W1 ⟨rfl, hk⟩
  replace S := S.below hk
  clear hk
  go_wp2_with fail
  refine ((gshort_s (HS.out.below lasts_s S.k) HL.out HB.out)).mono ?_
  rintro e W2 ⟨rfl, hk⟩
  replace S := S.below hk
  clear hk
  go_wp2_with fail
  refine ((gshort_s (HS'.out.below lasts_s S.k) HL'.out HB'.out)).mono ?_
  rintro e W3 ⟨rfl, hk⟩
  replace S := S.below hk
  clear hk
  go_wp2_with fail
  refine ((fdot_any (HR.out.below lasts_num S.k) (HR'.out.below lasts_num S.k) HZ.out HZ'.out HY.out (by omega))).mono ?_
  rintro e W4 ⟨U4, rfl, hp, hk⟩
  rw [if_pos rfl] at hp
  obtain ⟨b3, A3, n3, c3, d3, B3, m3, e3, rfl⟩ := hp.open_
  replace S := (S.below hk).addQ hp
  clear hk hp
  go_wp2_with fail
  replace S := (S.alloc 28 [.bool b3, .slice A3 n3 c3, .bool d3, .slice B3 m3 e3])
  obtain ⟨W5, eW, S⟩ := S.pack
  rw [eW]
  clear eW
  generalize W4.heap.size = P1 at *
  refine ((gdot_any (HR.out.below lasts_num S.k) (HR'.out.below lasts_num S.k) HZ.out HZ'.out HY.out (by omega))).mono ?_
  rintro e W6 ⟨U6, rfl, hp, hk⟩
  rw [if_pos rfl] at hp
  obtain ⟨b4, A4, n4, c4, d4, B4, m4, e4, rfl⟩ := hp.open_
  replace S := (S.below hk).addQ hp
  clear hk hp
  go_wp2_with fail
  replace S := (S.alloc 28 [.bool b4, .slice A4 n4 c4, .bool d4, .slice B4 m4 e4])
  obtain ⟨W7, eW, S⟩ := S.pack
  rw [eW]
  clear eW
  generalize W6.heap.size = P2 at *
  refine ((rcode_eq (fleast_any (HR.out.below lasts_num S.k) HZ.out (by omega)) HG.out rfl)).mono ?_
  rintro e W8 ⟨U8, rfl, hp, hk⟩
  rw [if_pos rfl] at hp
  obtain ⟨b5, A5, n5, c5, d5, B5, m5, e5, rfl⟩ := hp.open_
  replace S := (S.below hk).addQ hp
  clear hk hp
  go_wp2_with fail
  replace S := (S.alloc 28 [.bool b5, .slice A5 n5 c5, .bool d5, .slice B5 m5 e5])
  obtain ⟨W9, eW, S⟩ := S.pack
  rw [eW]
  clear eW
  generalize W8.heap.size = P3 at *
  refine ((rcode_eq (gleast_row (HR.out.below lasts_num S.k) (z100 HZ.out) (by omega)) HG.out rfl)).mono ?_
  rintro e W10 ⟨U10, rfl, hp, hk⟩
  rw [if_pos rfl] at hp
  obtain ⟨b6, A6, n6, c6, d6, B6, m6, e6, rfl⟩ := hp.open_
  replace S := (S.below hk).addQ hp
  clear hk hp
  go_wp2_with fail
  replace S := (S.alloc 28 [.bool b6, .slice A6 n6 c6, .bool d6, .slice B6 m6 e6])
  obtain ⟨W11, eW, S⟩ := S.pack
  rw [eW]
  clear eW
  generalize W10.heap.size = P4 at *
  refine ((rcode_eq (fgreat_any (HR.out.below lasts_num S.k) HZ.out (by omega)) HG.out rfl)).mono ?_
  rintro e W12 ⟨U12, rfl, hp, hk⟩
  rw [if_pos rfl] at hp
  obtain ⟨b7, A7, n7, c7, d7, B7, m7, e7, rfl⟩ := hp.open_
  replace S := (S.below hk).addQ hp
  clear hk hp
  go_wp2_with fail
  replace S := (S.alloc 28 [.bool b7, .slice A7 n7 c7, .bool d7, .slice B7 m7 e7])
  obtain ⟨W13, eW, S⟩ := S.pack
  rw [eW]
  clear eW
  generalize W12.heap.size = P5 at *
  refine ((rcode_eq (ggreat_any (HR.out.below lasts_num S.k) HZ.out (by omega)) HG.out rfl)).mono ?_
  rintro e W14 ⟨U14, rfl, hp, hk⟩
  rw [if_pos rfl] at hp
  obtain ⟨b8, A8, n8, c8, d8, B8, m8, e8, rfl⟩ := hp.open_
  replace S := (S.below hk).addQ hp
  clear hk hp
  go_upto_region 11 with fail
  replace S := (S.alloc 28 [.bool b8, .slice A8 n8 c8, .bool d8, .slice B8 m8 e8])
  obtain ⟨W15, eW, S⟩ := S.pack
  rw [eW]
  clear eW
  generalize W14.heap.size = P6 at *
  go_wp2_with fail
  refine ((fsum_any (HR.out.below lasts_num S.k) HZ.out (by omega))).mono ?_
  rintro e W16 ⟨U16, rfl, hp, hk⟩
  obtain ⟨b9, A9, n9, c9, d9, B9, m9, e9, rfl⟩ := hp.open_
  replace S := (S.below hk).addQ hp
  clear hk hp
  go_wp2_with fail
  refine ((gsum_any (HR.out.below lasts_num S.k) HZ.out (by omega))).mono ?_
  rintro e W17 ⟨U17, rfl, hp, hk⟩
  obtain ⟨b10, A10, n10, c10, d10, B10, m10, e10, rfl⟩ := hp.open_
  replace S := (S.below hk).addQ hp
  clear hk hp
  go_wp2_with fail
  refine ((gsame_s (b := true) (S.qi 1 rfl) (S.qi 0 rfl) (by omega) (decide_eq_true rfl))).mono ?_
  rintro e W18 ⟨rfl, hk⟩
  replace S := S.below hk
  clear hk
  have r0_0 := S.c 5 0 rfl rfl
  have r0_1 := S.c 5 1 rfl rfl
  have r0_2 := S.c 5 2 rfl rfl
  have r0_3 := S.c 5 3 rfl rfl
  have r1_0 := S.c 4 0 rfl rfl
  have r1_1 := S.c 4 1 rfl rfl
  have r1_2 := S.c 4 2 rfl rfl
  have r1_3 := S.c 4 3 rfl rfl
  go_wp2_with fail
  refine ((lsame_ok (S.qi 7 rfl) (S.qi 6 rfl) (by omega) (decide_eq_true rfl))).mono ?_
  rintro e W19 ⟨rfl, hk⟩
  replace S := S.below hk
  clear hk
  clear r0_0 r0_1 r0_2 r0_3 r1_0 r1_1 r1_2 r1_3
  have r2_0 := S.c 3 0 rfl rfl
  have r2_1 := S.c 3 1 rfl rfl
  have r2_2 := S.c 3 2 rfl rfl
  have r2_3 := S.c 3 3 rfl rfl
  have r3_0 := S.c 2 0 rfl rfl
  have r3_1 := S.c 2 1 rfl rfl
  have r3_2 := S.c 2 2 rfl rfl
  have r3_3 := S.c 2 3 rfl rfl
  go_wp2_with fail
  refine ((lsame_ok (S.qi 5 rfl) (S.qi 4 rfl) (by omega) (decide_eq_true rfl))).mono ?_
  rintro e W20 ⟨rfl, hk⟩
  replace S := S.below hk
  clear hk
  clear r2_0 r2_1 r2_2 r2_3 r3_0 r3_1 r3_2 r3_3
  have r4_0 := S.c 1 0 rfl rfl
  have r4_1 := S.c 1 1 rfl rfl
  have r4_2 := S.c 1 2 rfl rfl
  have r4_3 := S.c 1 3 rfl rfl
  have r5_0 := S.c 0 0 rfl rfl
  have r5_1 := S.c 0 1 rfl rfl
  have r5_2 := S.c 0 2 rfl rfl
  have r5_3 := S.c 0 3 rfl rfl
  go_wp2_with fail
  refine ((lsame_ok (S.qi 3 rfl) (S.qi 2 rfl) (by omega) (decide_eq_true rfl))).mono ?_
  rintro e W21 ⟨rfl, hk⟩
  replace S := S.below hk
  clear hk
  clear r4_0 r4_1 r4_2 r4_3 r5_0 r5_1 r5_2 r5_3
  go_wp2
  go_ret
  exact ⟨rfl, S.k⟩
set_option maxRecDepth 100000 in
set_option maxHeartbeats 4000000 in
theorem ll_n0 {w : World} {A A' : Option Addr} {n' c c' : Nat} {l l' : List (Rat × Bool)} {qs ys : List Rat} (ht : PowTab w) (hs : Row4 RatS2 w A l) (hl : l.length = qs.length) (hs' : Row4 RatS2 w A' l') (hl' : l'.length = n') (hb : shortB l = true) (hb' : shortB l' = true) (hr : Row4 RatNum w A qs) (hr' : Row4 RatNum w A' ys) (hz : ∀ q ∈ qs, szR q ≤ 8) (hz' : ∀ q ∈ ys, szR q ≤ 8) (hn : qs.length ≤ 8) (hys : ys.length = n') (hh : qs.length ≠ n') (hg : lstC qs = 6) : Calls Tryz.prog 12 #[.slice A qs.length c, .slice A' n' c'] w (fun e w' => e = .returned (.bool true) ∧ Keeps w w') := by
  have u1 : szR (sumR qs) ≤ 100 := szR_sum8 hz hn
  have HS := Lib.hid hs
  have HS' := Lib.hid hs'
  have HL := Lib.hid hl
  have HL' := Lib.hid hl'
  have HB := Lib.hid hb
  have HB' := Lib.hid hb'
  have HR := Lib.hid hr
  have HR' := Lib.hid hr'
  have HZ := Lib.hid hz
  have HZ' := Lib.hid hz'
  have HY := Lib.hid hys
  have HH := Lib.hid hh
  have HG := Lib.hid hg
  clear hs hs' hl hl' hb hb' hr hr' hz hz' hys hh hg
  have S := (St.start w)
  go_enter Tryz.func12, Tryz.ntmps12
  go_wp2_with fail
  refine ((known_any _ (ht.keep S.k))).mono ?_
  rintro e W1 ⟨rfl, hk⟩
  replace S := S.below hk
  clear hk
  go_wp2_with fail
  refine ((gshort_s (HS.out.below lasts_s S.k) HL.out HB.out)).mono ?_
  rintro e W2 ⟨rfl, hk⟩
  replace S := S.below hk
  clear hk
  go_wp2_with fail
  refine ((gshort_s (HS'.out.below lasts_s S.k) HL'.out HB'.out)).mono ?_
  rintro e W3 ⟨rfl, hk⟩
  replace S := S.below hk
  clear hk
  go_wp2_with fail
  refine ((fdot_ne HH.out)).mono ?_
  rintro e W4 ⟨U4, rfl, hp, hk⟩
  rw [if_neg (by decide)] at hp
  unfold zeroRat at hp
  subst hp
  replace S := S.below hk
  clear hk
  go_wp2_with fail
  replace S := (S.alloc 28 [.bool false, .slice none 0 0, .bool false, .slice none 0 0])
  obtain ⟨W5, eW, S⟩ := S.pack
  rw [eW]
  clear eW
  generalize W4.heap.size = P1 at *
  refine ((gdot_ne HH.out)).mono ?_
  rintro e W6 ⟨U6, rfl, hp, hk⟩
  rw [if_neg (by decide)] at hp
  unfold zeroRat at hp
  subst hp
  replace S := S.below hk
  clear hk
  go_wp2_with fail
  replace S := (S.alloc 28 [.bool false, .slice none 0 0, .bool false, .slice none 0 0])
  obtain ⟨W7, eW, S⟩ := S.pack
  rw [eW]
  clear eW
  generalize W6.heap.size = P2 at *
  refine ((rcode_eq (fleast_any (HR.out.below lasts_num S.k) HZ.out (by omega)) HG.out rfl)).mono ?_
  rintro e W8 ⟨U8, rfl, hp, hk⟩
  rw [if_neg (by decide)] at hp
  unfold zeroRat at hp
  subst hp
  replace S := S.below hk
  clear hk
  go_wp2_with fail
  replace S := (S.alloc 28 [.bool false, .slice none 0 0, .bool false, .slice none 0 0])
  obtain ⟨W9, eW, S⟩ := S.pack
  rw [eW]
  clear eW
  generalize W8.heap.size = P3 at *
  refine ((rcode_eq (gleast_row (HR.out.below lasts_num S.k) (z100 HZ.out) (by omega)) HG.out rfl)).mono ?_
  rintro e W10 ⟨U10, rfl, hp, hk⟩
  rw [if_neg (by decide)] at hp
  unfold zeroRat at hp
  subst hp
  replace S := S.below hk
  clear hk
  go_wp2_with fail
  replace S := (S.alloc 28 [.bool false, .slice none 0 0, .bool false, .slice none 0 0])
  obtain ⟨W11, eW, S⟩ := S.pack
  rw [eW]
  clear eW
  generalize W10.heap.size = P4 at *
  refine ((rcode_eq (fgreat_any (HR.out.below lasts_num S.k) HZ.out (by omega)) HG.out rfl)).mono ?_
  rintro e W12 ⟨U12, rfl, hp, hk⟩
  rw [if_neg (by decide)] at hp
  unfold zeroRat at hp
  subst hp
  replace S := S.below hk
  clear hk
  go_wp2_with fail
  replace S := (S.alloc 28 [.bool false, .slice none 0 0, .bool false, .slice none 0 0])
  obtain ⟨W13, eW, S⟩ := S.pack
  rw [eW]
  clear eW
  generalize W12.heap.size = P5 at *
  refine ((rcode_eq (ggreat_any (HR.out.below lasts_num S.k) HZ.out (by omega)) HG.out rfl)).mono ?_
  rintro e W14 ⟨U14, rfl, hp, hk⟩
  rw [if_neg (by decide)] at hp
  unfold zeroRat at hp
  subst hp
  replace S := S.below hk
  clear hk
  go_upto_region 11 with fail
  replace S := (S.alloc 28 [.bool false, .slice none 0 0, .bool false, .slice none 0 0])
  obtain ⟨W15, eW, S⟩ := S.pack
  rw [eW]
  clear eW
  generalize W14.heap.size = P6 at *
  go_wp2_with fail
  refine ((fsum_any (HR.out.below lasts_num S.k) HZ.out (by omega))).mono ?_
  rintro e W16 ⟨U16, rfl, hp, hk⟩
  obtain ⟨b3, A3, n3, c3, d3, B3, m3, e3, rfl⟩ := hp.open_
  replace S := (S.below hk).addQ hp
  clear hk hp
  go_wp2_with fail
  refine ((gsum_any (HR.out.below lasts_num S.k) HZ.out (by omega))).mono ?_
  rintro e W17 ⟨U17, rfl, hp, hk⟩
  obtain ⟨b4, A4, n4, c4, d4, B4, m4, e4, rfl⟩ := hp.open_
  replace S := (S.below hk).addQ hp
  clear hk hp
  go_wp2_with fail
  refine ((gsame_s (b := true) (S.qi 1 rfl) (S.qi 0 rfl) (by omega) (decide_eq_true rfl))).mono ?_
  rintro e W18 ⟨rfl, hk⟩
  replace S := S.below hk
  clear hk
  have r0_0 := S.c 5 0 rfl rfl
  have r0_1 := S.c 5 1 rfl rfl
  have r0_2 := S.c 5 2 rfl rfl
  have r0_3 := S.c 5 3 rfl rfl
  have r1_0 := S.c 4 0 rfl rfl
  have r1_1 := S.c 4 1 rfl rfl
  have r1_2 := S.c 4 2 rfl rfl
  have r1_3 := S.c 4 3 rfl rfl
  go_wp2_with fail
  refine ((lsame_err (by decide))).mono ?_
  rintro e W19 ⟨rfl, hk⟩
  replace S := S.below hk
  clear hk
  clear r0_0 r0_1 r0_2 r0_3 r1_0 r1_1 r1_2 r1_3
  have r2_0 := S.c 3 0 rfl rfl
  have r2_1 := S.c 3 1 rfl rfl
  have r2_2 := S.c 3 2 rfl rfl
  have r2_3 := S.c 3 3 rfl rfl
  have r3_0 := S.c 2 0 rfl rfl
  have r3_1 := S.c 2 1 rfl rfl
  have r3_2 := S.c 2 2 rfl rfl
  have r3_3 := S.c 2 3 rfl rfl
  go_wp2_with fail
  refine ((lsame_err (by decide))).mono ?_
  rintro e W20 ⟨rfl, hk⟩
  replace S := S.below hk
  clear hk
  clear r2_0 r2_1 r2_2 r2_3 r3_0 r3_1 r3_2 r3_3
  have r4_0 := S.c 1 0 rfl rfl
  have r4_1 := S.c 1 1 rfl rfl
  have r4_2 := S.c 1 2 rfl rfl
  have r4_3 := S.c 1 3 rfl rfl
  have r5_0 := S.c 0 0 rfl rfl
  have r5_1 := S.c 0 1 rfl rfl
  have r5_2 := S.c 0 2 rfl rfl
  have r5_3 := S.c 0 3 rfl rfl
  go_wp2_with fail
  refine ((lsame_err (by decide))).mono ?_
  rintro e W21 ⟨rfl, hk⟩
  replace S := S.below hk
  clear hk
  clear r4_0 r4_1 r4_2 r4_3 r5_0 r5_1 r5_2 r5_3
  go_wp2
  go_ret
  exact ⟨rfl, S.k⟩
set_option maxRecDepth 100000 in
set_option maxHeartbeats 4000000 in
theorem ll_n1 {w : World} {A A' : Option Addr} {n' c c' : Nat} {l l' : List (Rat × Bool)} {qs ys : List Rat} (ht : PowTab w) (hs : Row4 RatS2 w A l) (hl : l.length = qs.length) (hs' : Row4 RatS2 w A' l') (hl' : l'.length = n') (hb : shortB l = true) (hb' : shortB l' = true) (hr : Row4 RatNum w A qs) (hr' : Row4 RatNum w A' ys) (hz : ∀ q ∈ qs, szR q ≤ 8) (hz' : ∀ q ∈ ys, szR q ≤ 8) (hn : qs.length ≤ 8) (hys : ys.length = n') (hh : qs.length ≠ n') (hg : lstC qs = 0) (u3 : szR (minL qs) ≤ 100) (u4 : szR (maxL qs) ≤ 100) : Calls Tryz.prog 12 #[.slice A qs.length c, .slice A' n' c'] w (fun e w' => e = .returned (.bool true) ∧ Keeps w w') := by
  have u1 : szR (sumR qs) ≤ 100 := szR_sum8 hz hn
  have HS := Lib.hid hs
  have HS' := Lib.hid hs'
  have HL := Lib.hid hl
  have HL' := Lib.hid hl'
  have HB := Lib.hid hb
  have HB' := Lib.hid hb'
  have HR := Lib.hid hr
  have HR' := Lib.hid hr'
  have HZ := Lib.hid hz
  have HZ' := Lib.hid hz'
  have HY := Lib.hid hys
  have HH := Lib.hid hh
  have HG := Lib.hid hg
  clear hs hs' hl hl' hb hb' hr hr' hz hz' hys hh hg
  have S := (St.start w)
  go_enter Tryz.func12, Tryz.ntmps12
  go_wp2_with fail
  refine ((known_any _ (ht.keep S.k))).mono ?_
  rintro e W1 ⟨rfl, hk⟩
  replace S := S.below hk
  clear hk
  go_wp2_with fail
  refine ((gshort_s (HS.out.below lasts_s S.k) HL.out HB.out)).mono ?_
  rintro e W2 ⟨rfl, hk⟩
  replace S := S.below hk
  clear hk
  go_wp2_with fail
  refine ((gshort_s (HS'.out.below lasts_s S.k) HL'.out HB'.out)).mono ?_
  rintro e W3 ⟨rfl, hk⟩
  replace S := S.below hk
  clear hk
  go_wp2_with fail
  refine ((fdot_ne HH.out)).mono ?_
  rintro e W4 ⟨U4, rfl, hp, hk⟩
  rw [if_neg (by decide)] at hp
  unfold zeroRat at hp
  subst hp
  replace S := S.below hk
  clear hk
  go_wp2_with fail
  replace S := (S.alloc 28 [.bool false, .slice none 0 0, .bool false, .slice none 0 0])
  obtain ⟨W5, eW, S⟩ := S.pack
  rw [eW]
  clear eW
  generalize W4.heap.size = P1 at *
  refine ((gdot_ne HH.out)).mono ?_
  rintro e W6 ⟨U6, rfl, hp, hk⟩
  rw [if_neg (by decide)] at hp
  unfold zeroRat at hp
  subst hp
  replace S := S.below hk
  clear hk
  go_wp2_with fail
  replace S := (S.alloc 28 [.bool false, .slice none 0 0, .bool false, .slice none 0 0])
  obtain ⟨W7, eW, S⟩ := S.pack
  rw [eW]
  clear eW
  generalize W6.heap.size = P2 at *
  refine ((rcode_eq (fleast_any (HR.out.below lasts_num S.k) HZ.out (by omega)) HG.out rfl)).mono ?_
  rintro e W8 ⟨U8, rfl, hp, hk⟩
  rw [if_pos rfl] at hp
  obtain ⟨b3, A3, n3, c3, d3, B3, m3, e3, rfl⟩ := hp.open_
  replace S := (S.below hk).addQ hp
  clear hk hp
  go_wp2_with fail
  replace S := (S.alloc 28 [.bool b3, .slice A3 n3 c3, .bool d3, .slice B3 m3 e3])
  obtain ⟨W9, eW, S⟩ := S.pack
  rw [eW]
  clear eW
  generalize W8.heap.size = P3 at *
  refine ((rcode_eq (gleast_row (HR.out.below lasts_num S.k) (z100 HZ.out) (by omega)) HG.out rfl)).mono ?_
  rintro e W10 ⟨U10, rfl, hp, hk⟩
  rw [if_pos rfl] at hp
  obtain ⟨b4, A4, n4, c4, d4, B4, m4, e4, rfl⟩ := hp.open_
  replace S := (S.below hk).addQ hp
  clear hk hp
  go_wp2_with fail
  replace S := (S.alloc 28 [.bool b4, .slice A4 n4 c4, .bool d4, .slice B4 m4 e4])
  obtain ⟨W11, eW, S⟩ := S.pack
  rw [eW]
  clear eW
  generalize W10.heap.size = P4 at *
  refine ((rcode_eq (fgreat_any (HR.out.below lasts_num S.k) HZ.out (by omega)) HG.out rfl)).mono ?_
  rintro e W12 ⟨U12, rfl, hp, hk⟩
  rw [if_pos rfl] at hp
  obtain ⟨b5, A5, n5, c5, d5, B5, m5, e5, rfl⟩ := hp.open_
  replace S := (S.below hk).addQ hp
  clear hk hp
  go_wp2_with fail
  replace S := (S.alloc 28 [.bool b5, .slice A5 n5 c5, .bool d5, .slice B5 m5 e5])
  obtain ⟨W13, eW, S⟩ := S.pack
  rw [eW]
  clear eW
  generalize W12.heap.size = P5 at *
  refine ((rcode_eq (ggreat_any (HR.out.below lasts_num S.k) HZ.out (by omega)) HG.out rfl)).mono ?_
  rintro e W14 ⟨U14, rfl, hp, hk⟩
  rw [if_pos rfl] at hp
  obtain ⟨b6, A6, n6, c6, d6, B6, m6, e6, rfl⟩ := hp.open_
  replace S := (S.below hk).addQ hp
  clear hk hp
  go_upto_region 11 with fail
  replace S := (S.alloc 28 [.bool b6, .slice A6 n6 c6, .bool d6, .slice B6 m6 e6])
  obtain ⟨W15, eW, S⟩ := S.pack
  rw [eW]
  clear eW
  generalize W14.heap.size = P6 at *
  go_wp2_with fail
  refine ((fsum_any (HR.out.below lasts_num S.k) HZ.out (by omega))).mono ?_
  rintro e W16 ⟨U16, rfl, hp, hk⟩
  obtain ⟨b7, A7, n7, c7, d7, B7, m7, e7, rfl⟩ := hp.open_
  replace S := (S.below hk).addQ hp
  clear hk hp
  go_wp2_with fail
  refine ((gsum_any (HR.out.below lasts_num S.k) HZ.out (by omega))).mono ?_
  rintro e W17 ⟨U17, rfl, hp, hk⟩
  obtain ⟨b8, A8, n8, c8, d8, B8, m8, e8, rfl⟩ := hp.open_
  replace S := (S.below hk).addQ hp
  clear hk hp
  go_wp2_with fail
  refine ((gsame_s (b := true) (S.qi 1 rfl) (S.qi 0 rfl) (by omega) (decide_eq_true rfl))).mono ?_
  rintro e W18 ⟨rfl, hk⟩
  replace S := S.below hk
  clear hk
  have r0_0 := S.c 5 0 rfl rfl
  have r0_1 := S.c 5 1 rfl rfl
  have r0_2 := S.c 5 2 rfl rfl
  have r0_3 := S.c 5 3 rfl rfl
  have r1_0 := S.c 4 0 rfl rfl
  have r1_1 := S.c 4 1 rfl rfl
  have r1_2 := S.c 4 2 rfl rfl
  have r1_3 := S.c 4 3 rfl rfl
  go_wp2_with fail
  refine ((lsame_err (by decide))).mono ?_
  rintro e W19 ⟨rfl, hk⟩
  replace S := S.below hk
  clear hk
  clear r0_0 r0_1 r0_2 r0_3 r1_0 r1_1 r1_2 r1_3
  have r2_0 := S.c 3 0 rfl rfl
  have r2_1 := S.c 3 1 rfl rfl
  have r2_2 := S.c 3 2 rfl rfl
  have r2_3 := S.c 3 3 rfl rfl
  have r3_0 := S.c 2 0 rfl rfl
  have r3_1 := S.c 2 1 rfl rfl
  have r3_2 := S.c 2 2 rfl rfl
  have r3_3 := S.c 2 3 rfl rfl
  go_wp2_with fail
  refine ((lsame_ok (S.qi 5 rfl) (S.qi 4 rfl) (by omega) (decide_eq_true rfl))).mono ?_
  rintro e W20 ⟨rfl, hk⟩
  replace S := S.below hk
  clear hk
  clear r2_0 r2_1 r2_2 r2_3 r3_0 r3_1 r3_2 r3_3
  have r4_0 := S.c 1 0 rfl rfl
  have r4_1 := S.c 1 1 rfl rfl
  have r4_2 := S.c 1 2 rfl rfl
  have r4_3 := S.c 1 3 rfl rfl
  have r5_0 := S.c 0 0 rfl rfl
  have r5_1 := S.c 0 1 rfl rfl
  have r5_2 := S.c 0 2 rfl rfl
  have r5_3 := S.c 0 3 rfl rfl
  go_wp2_with fail
  refine ((lsame_ok (S.qi 3 rfl) (S.qi 2 rfl) (by omega) (decide_eq_true rfl))).mono ?_
  rintro e W21 ⟨rfl, hk⟩
  replace S := S.below hk
  clear hk
  clear r4_0 r4_1 r4_2 r4_3 r5_0 r5_1 r5_2 r5_3
  go_wp2
  go_ret
  exact ⟨rfl, S.k⟩
theorem lists_row {w : World} {A A' : Option Addr} {c c' : Nat} {l l' : List (Rat × Bool)} (ht : PowTab w) (h1 : Row4 RatS2 w A l) (h2 : Row4 RatS2 w A' l') :
    Calls Tryz.prog 12 #[.slice A l.length c, .slice A' l'.length c'] w fun e w' => e = .returned (.bool true) ∧ Keeps w w' := by
  cases hb : shortB l with
  | false => exact ll_1 ht h1 rfl h2 rfl hb
  | true => cases hb' : shortB l' with
    | false => exact ll_2 ht h1 rfl h2 rfl hb hb'
    | true =>
      obtain ⟨r1, z1, n1⟩ := h1.short hb
      obtain ⟨r2, z2, n2⟩ := h2.short hb'
      have e1 : (l.map (·.1)).length = l.length := List.length_map ..
      have e2 : (l'.map (·.1)).length = l'.length := List.length_map ..
      obtain ⟨qs, hqs⟩ : ∃ qs, l.map (·.1) = qs := ⟨_, rfl⟩
      obtain ⟨ys, hys⟩ : ∃ ys, l'.map (·.1) = ys := ⟨_, rfl⟩
      rw [hqs] at r1 z1 n1 e1
      rw [hys] at r2 z2 n2 e2
      rw [← e1]
      have hm : lstC qs = 0 → szR (minL qs) ≤ 100 ∧ szR (maxL qs) ≤ 100 := fun h => by
        have h0 : 0 < qs.length := by
          unfold lstC at h
          split at h
          · omega
          · omega
        have a1 := szR_min (z100 z1) qs.length h0 (Nat.le_refl _)
        have a2 := szR_max (z100 z1) qs.length h0 (Nat.le_refl _)
        rw [List.take_of_length_le (Nat.le_refl _)] at a1 a2
        exact ⟨a1, a2⟩
      by_cases hl : l'.length = qs.length
      · have u2 := szR_dot8 z1 z2 (e2.trans hl) n1
        rw [hl]
        by_cases h0 : lstC qs = 0
        · exact ll_e1 ht h1 e1.symm h2 hl hb hb' r1 r2 z1 z2 n1 (e2.trans hl) trivial h0 u2 (hm h0).1 (hm h0).2
        · have h6 : lstC qs = 6 := by unfold lstC at h0 ⊢; split at h0 <;> simp_all
          exact ll_e0 ht h1 e1.symm h2 hl hb hb' r1 r2 z1 z2 n1 (e2.trans hl) trivial h6 u2
      · by_cases h0 : lstC qs = 0
        · exact ll_n1 ht h1 e1.symm h2 rfl hb hb' r1 r2 z1 z2 n1 e2 (Ne.symm hl) h0 (hm h0).1 (hm h0).2
        · have h6 : lstC qs = 6 := by unfold lstC at h0 ⊢; split at h0 <;> simp_all
          exact ll_n0 ht h1 e1.symm h2 rfl hb hb' r1 r2 z1 z2 n1 e2 (Ne.symm hl) h6
theorem lists_walk {w : World} {V1 V2 : Value} {l l' : List (Rat × Bool)} (h1 : Sl4 RatS2 w V1 l) (h2 : Sl4 RatS2 w V2 l') (ht : PowTab w) :
    Calls Tryz.prog 12 #[V1, V2] w fun e w' => e = .returned (.bool true) ∧ Keeps w w' := by
  obtain ⟨A, c, rfl, -, -, -, r1⟩ := h1
  obtain ⟨A', c', rfl, -, -, -, r2⟩ := h2
  exact lists_row ht r1 r2
end Go.Proofs.YtmochehkkadjnaaGreatDoor
