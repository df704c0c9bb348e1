/- The walks of the reference's small functions: Valid, made, Value, Same, group. -/
import Derived.Test.YtgcigdahjabimaaGreatDoorPr3
import Derived.Deep.QuietTactic
import Derived.BigQuiet
namespace Go.Proofs.YtgcigdahjabimaaGreatDoor
open Go.RowKit Go.Shelf

theorem validB_big {neg : Bool} {xs : List Nat} {k : Nat} (hk : k < xs.length) (h : 1000000000 ≤ ix xs k) : validB neg xs = false := by
 rw [validB_ne rfl (by omega), anyBig_of xs k hk h]; simp
theorem validB_small {neg : Bool} {xs : List Nat} {n : Nat} (e : xs.length = n) (h0 : n ≠ 0) (h : anyBig xs = false) : validB neg xs = (ix xs (n - 1) != 0) := by
 rw [validB_ne e h0, h]; simp

set_option maxRecDepth 100000 in
set_option maxHeartbeats 400000 in
theorem rvalid_any (neg : Bool) (A : Option Addr) (n c : Nat) (xs : List Nat) (w : World) (e : xs.length = n) (h : Row w A n (u32 xs)) (hm : n ≤ 1000000000) :
 Calls Tryz.prog 64 #[.agg #[.bool neg, .slice A n c]] w fun e w' => e = .returned (.bool (validB neg xs)) ∧ Keeps w w' := by
 have hkk := box2 w (.cells #[.bool neg, .slice A n c] 29)
 have h1 := h.below hkk
 have HE := Lib.hid e
 clear e
 go_enter Tryz.func64, Tryz.ntmps64
 go_wp2
 go_loop [4] (fun i => ∃ k : Nat, k ≤ n ∧ i = .int .i64 (k : Nat) ∧ anyBig (xs.take k) = false) (fun i => n - (intOf i).toNat)
 case atStart => exact ⟨0, by omega, rfl, rfl⟩
 case round =>
  obtain ⟨k, hk, rfl, hn⟩ := hrel
  have HN := Lib.hid hn
  clear hn
  by_cases hlt : k < n
  ·obtain ⟨b, o, rfl, hb, hcell⟩ := h1 (by omega)
   have hx : (w.alloc (.cells #[.bool neg, .slice (some ⟨b, o, none⟩) n c] 29)).cell? ⟨b, o + k, none⟩ = some (.int .u32 (ix xs k : Nat)) := hcell k hlt
   clear hcell
   rcases Nat.lt_or_ge (ix xs k) 1000000000 with hs | hs
   ·have hD : decide ((1000000000 : Int) ≤ (ix xs k : Int)) = false := decide_eq_false (by omega)
    have HS := Lib.hid hs
    clear hs
    go_wp2
    go_round
    case rel => exact ⟨k + 1, by omega, by go_num, by rw [anyBig_take xs k (by rw [HE.out]; exact hlt), HN.out, decide_eq_false (by have := HS.out; omega)]; rfl⟩
    case measure => simp [intOf]; omega
   ·have hD : decide ((1000000000 : Int) ≤ (ix xs k : Int)) = true := decide_eq_true (by omega)
    have HS := Lib.hid hs
    clear hs
    go_wp2
    go_ret
    exact ⟨by rw [validB_big (neg := neg) (by rw [HE.out]; exact hlt) HS.out]; rfl, hkk⟩
  ·obtain rfl : k = n := by omega
   rcases Nat.eq_zero_or_pos k with h0 | h0
   ·subst h0
    go_wp2
    go_ret
    exact ⟨by unfold validB; rw [if_pos HE.out]; rfl, hkk⟩
   ·have hk0 : ((k : Int) == 0) = false := by simp; omega
    obtain ⟨b, o, rfl, hb, hcell⟩ := h1 (by omega)
    have hx : (w.alloc (.cells #[.bool neg, .slice (some ⟨b, o, none⟩) k c] 29)).cell? ⟨b, o + (k - 1), none⟩ = some (.int .u32 (ix xs (k - 1) : Nat)) := hcell (k - 1) (by omega)
    clear hcell
    go_wp2
    go_ret
    have hb : anyBig xs = false := by have := HN.out; rwa [← HE.out, List.take_length] at this
    exact ⟨by rw [validB_small HE.out (by omega) hb]; exact congrArg (fun b => Ending.returned (.bool b)) (bne_cast _), hkk⟩

theorem U32.empty (w : World) (a : Addr) : U32 w (.slice (some a) 0 0) [] := ⟨some a, 0, rfl, Nat.le_refl _, by simp [maxLen], (by intro h; cases h), Row.zero⟩
theorem IntRep.of_nil {w : World} {v : Value} (h : U32 w v []) : IntRep w (.agg #[.bool false, v]) 0 := ⟨v, by simp, by simpa [dig_zero] using h⟩
set_option maxRecDepth 100000 in
set_option maxHeartbeats 400000 in
theorem rmade_any (neg : Bool) (A : Option Addr) (n c : Nat) (xs : List Nat) (w : World) (e : xs.length = n) (h : Row w A n (u32 xs)) (ha : AllB xs) (hc : n ≤ c) (hm : n ≤ 4000000) (h0 : A = none → c = 0) :
 Calls Tryz.prog 100 #[.bool neg, .slice A n c] w fun e w' => ∃ V, e = .returned V ∧ IntRep w' V (sgn neg (val xs)) ∧ Keeps w w' := by
 obtain ⟨i0, hi, hz0, hz1, hz2⟩ := info_parts info_u32
 have hkk := box2 w (.cells #[.bool false, .slice none 0 0] 29)
 have h1 := h.below hkk
 have hR := Own.new w 29 [.bool false, .slice none 0 0]
 have HE := Lib.hid e
 clear e
 cases A with
 | none =>
  obtain rfl := h0 rfl
  obtain rfl : n = 0 := by omega
  have hx0 : xs = [] := List.eq_nil_of_length_eq_zero HE.out
  subst hx0
  go_enter Tryz.func100, Tryz.ntmps100
  go_wp2
  refine wp_loop_rounds 1 ?_
  rw [rounds_succ]
  cases neg
  all_goals
   go_wp2_with (at_builtin; refine wpList_append_own_none rfl _ _ 27 rfl (w.heap.size + 1) 109 i0 1 Tryz.underlying27 hi _ 0 [] rfl (made2 w (.cells #[.bool false, .slice none 0 0] 29) 109) rfl ?_)
   refine bodyPost_ret (v := .agg #[.bool false, .slice (some ⟨w.heap.size + 1, 0, none⟩) 0 0]) (by simp [results, Tryz.results100, go_sem]) rfl ?_
   exact ⟨_, rfl, by simpa [val, sgn] using IntRep.of_nil (U32.empty _ _), keep2 _ _ _⟩
 | some ad =>
  go_enter Tryz.func100, Tryz.ntmps100
  go_wp2
  go_loop [5] (fun i => ∃ k : Nat, k ≤ n ∧ i = .int .i64 (k : Nat) ∧ trimL (xs.take k) = trimL xs) (fun i => (intOf i).toNat)
  case atStart => exact ⟨n, Nat.le_refl _, rfl, by rw [← HE.out]; simp⟩
  case round =>
   obtain ⟨k, hk, rfl, ht⟩ := hrel
   have HT := Lib.hid ht
   clear ht
   have step : ∀ (neg : Bool) (hz : k = 0 ∨ ix xs (k - 1) ≠ 0), xs.take k = dig (val xs) := by
    intro _ hz
    have ht := HT.out
    rw [trimL_of_last, trimL_eq ha] at ht
    ·exact ht
    ·intro hp
     rw [List.length_take, HE.out, Nat.min_eq_left hk, ix_take _ _ _ (by rw [List.length_take, HE.out] at hp; omega)]
     rcases hz with hz | hz
     ·subst hz; simp at hp
     ·exact hz
   have HF := Lib.hid step
   clear step
   rcases Nat.eq_zero_or_pos k with hk0 | hk0
   ·have hv : val xs = 0 := by
     have := HF.out neg (.inl hk0)
     rw [hk0, List.take_zero] at this
     exact dig_eq_nil.1 this.symm
    subst hk0
    have HV := Lib.hid hv
    clear hv
    cases neg
    all_goals
     go_wp2_with (at_builtin; refine wpList_append_row rfl _ _ 27 rfl (w.heap.size + 1) 109 i0 (.int .u32 0) 4 Tryz.underlying27 hi hz0 hz1 hz2 rfl (.slice (some ⟨w.heap.size + 1, 0, none⟩) 0 0) 0 [] rfl (made2 w (.cells #[.bool false, .slice none 0 0] 29) 109) _ _ _ (u32 xs) rfl (by intro h; cases h) (by omega) (Row.zero) (fun j => rfl) (by simp only [maxLen]; omega) (by omega) (by simp) ?_; intro v' w1 hown' hgrow; rw [List.nil_append, Nat.zero_add, u32s_take xs 0 (by omega)] at hown'; have hu := U32.of_own hown'; obtain ⟨A5, n5, c5, rfl, -⟩ := hu.open_; have hR1 := ((hR.alloc (.cells #[] 109)).grown hgrow (by simp [Value.ownBlock])); have r0 := hR1.c0; have r1 := hR1.c1; have f0 := hR1.frozen 0; have f1 := hR1.frozen 1; have hk1 : Keeps w w1 := (hkk.alloc (by simp) _).grown hgrow (by simp; omega) (fun b e => by cases e; simp))
     have hR4 := hR1.two (.bool false) (.slice A5 n5 c5)
     refine bodyPost_ret (v := .agg #[.bool false, .slice A5 n5 c5]) (by simp [results, Tryz.results100, go_sem, hR4.c0, hR4.c1]) rfl ?_
     refine ⟨_, rfl, ?_, (hk1.set (Nat.le_refl _) _).set (Nat.le_refl _) _⟩
     rw [HV.out, sgn_zero]
     exact (IntRep.of_nil hu).two hR1 rfl rfl rfl
   ·obtain ⟨b, o, he, hb, hcell⟩ := h1 (by omega)
    cases he
    have hx : (w.alloc (.cells #[.bool false, .slice none 0 0] 29)).cell? ⟨b, o + (k - 1), none⟩ = some (.int .u32 (ix xs (k - 1) : Nat)) := hcell (k - 1) (by omega)
    clear hcell
    by_cases hz : ix xs (k - 1) = 0
    ·have hb0 : (((ix xs (k - 1) : Nat) : Int) == 0) = true := by simp [hz]
     have HZ := Lib.hid hz
     clear hz
     go_wp2
     go_round
     case rel => exact ⟨k - 1, by omega, by go_num, by rw [← HT.out, show xs.take k = xs.take (k - 1) ++ [0] by (have := take_snoc xs (k - 1) (by rw [HE.out]; omega)); rw [HZ.out, show k - 1 + 1 = k by omega] at this; exact this, trimL_snoc_zero]⟩
     case measure => simp [intOf]; omega
    ·have hb0 : (((ix xs (k - 1) : Nat) : Int) == 0) = false := by simpa using hz
     have HD := Lib.hid (HF.out neg (.inr hz))
     have hv0 : val xs ≠ 0 := by
      intro h0
      have hd := HD.out
      rw [h0, dig_zero] at hd
      have := congrArg List.length hd
      rw [List.length_take, HE.out] at this
      simp at this
      omega
     have HV := Lib.hid hv0
     clear hv0
     clear hz
     cases neg
     ·go_wp2_with (at_builtin; refine wpList_append_row rfl _ _ 27 rfl (w.heap.size + 1) 109 i0 (.int .u32 0) 4 Tryz.underlying27 hi hz0 hz1 hz2 rfl (.slice (some ⟨w.heap.size + 1, 0, none⟩) 0 0) 0 [] rfl (made2 w (.cells #[.bool false, .slice none 0 0] 29) 109) _ _ _ (u32 xs) rfl (by intro h; cases h) (by omega) ((h1.take hk).below (box2 _ _)) (fun j => rfl) (by simp only [maxLen]; omega) (by omega) (by simp) ?_; intro v' w1 hown' hgrow; rw [List.nil_append, Nat.zero_add, u32s_take xs k (by rw [HE.out]; exact hk)] at hown'; have hu := U32.of_own hown'; obtain ⟨A5, n5, c5, rfl, -⟩ := hu.open_; have hR1 := ((hR.alloc (.cells #[] 109)).grown hgrow (by simp [Value.ownBlock])); have r0 := hR1.c0; have r1 := hR1.c1; have f0 := hR1.frozen 0; have f1 := hR1.frozen 1; have hk1 : Keeps w w1 := (hkk.alloc (by simp) _).grown hgrow (by simp; omega) (fun b e => by cases e; simp))
      have hR4 := hR1.two (.bool false) (.slice A5 n5 c5)
      refine bodyPost_ret (v := .agg #[.bool false, .slice A5 n5 c5]) (by simp [results, Tryz.results100, go_sem, hR4.c0, hR4.c1]) rfl ?_
      refine ⟨_, rfl, ?_, (hk1.set (Nat.le_refl _) _).set (Nat.le_refl _) _⟩
      exact (IntRep.mk (by rw [← HD.out]; exact hu) HV.out).two hR1 rfl rfl rfl
     ·go_wp2_with (at_builtin; refine wpList_append_row rfl _ _ 27 rfl (w.heap.size + 1) 109 i0 (.int .u32 0) 4 Tryz.underlying27 hi hz0 hz1 hz2 rfl (.slice (some ⟨w.heap.size + 1, 0, none⟩) 0 0) 0 [] rfl (made2 w (.cells #[.bool false, .slice none 0 0] 29) 109) _ _ _ (u32 xs) rfl (by intro h; cases h) (by omega) ((h1.take hk).below (box2 _ _)) (fun j => rfl) (by simp only [maxLen]; omega) (by omega) (by simp) ?_; intro v' w1 hown' hgrow; rw [List.nil_append, Nat.zero_add, u32s_take xs k (by rw [HE.out]; exact hk)] at hown'; have hu := U32.of_own hown'; obtain ⟨A5, n5, c5, rfl, -⟩ := hu.open_; have hR1 := ((hR.alloc (.cells #[] 109)).grown hgrow (by simp [Value.ownBlock])); have r0 := hR1.c0; have r1 := hR1.c1; have f0 := hR1.frozen 0; have f1 := hR1.frozen 1; have hk1 : Keeps w w1 := (hkk.alloc (by simp) _).grown hgrow (by simp; omega) (fun b e => by cases e; simp))
      have hR4 := hR1.two (.bool true) (.slice A5 n5 c5)
      refine bodyPost_ret (v := .agg #[.bool true, .slice A5 n5 c5]) (by simp [results, Tryz.results100, go_sem, hR4.c0, hR4.c1]) rfl ?_
      refine ⟨_, rfl, ?_, (hk1.set (Nat.le_refl _) _).set (Nat.le_refl _) _⟩
      exact (IntRep.mk (by rw [← HD.out]; exact hu) HV.out).two hR1 rfl rfl rfl
theorem rmade_u (neg : Bool) (v : Value) (xs : List Nat) (w : World) (h : U32 w v xs) (ha : AllB xs) (hm : xs.length ≤ 4000000) :
 Calls Tryz.prog 100 #[.bool neg, v] w fun e w' => ∃ V, e = .returned V ∧ IntRep w' V (sgn neg (val xs)) ∧ Keeps w w' := by
 obtain ⟨A, n, c, rfl, e, hc, -, h0, hr⟩ := h.open_
 exact rmade_any neg A n c xs w e hr ha hc (by omega) h0

theorem validB_nil {neg : Bool} (h : validB neg [] = true) : neg = false := by simpa [validB] using h
theorem cnt_neg {neg : Bool} {xs : List Nat} (h : validB neg xs = true) : decide (cnt neg xs < 0) = neg := by
 unfold cnt mag
 rw [if_pos h]
 cases neg with
 | false => simp [sgn]
 | true =>
  have : val xs ≠ 0 := by
   intro h0
   have := validB_dig h
   rw [h0, dig_zero] at this
   subst this
   cases validB_nil h
  simp [sgn]; omega
theorem cnt_abs (neg : Bool) (xs : List Nat) : (cnt neg xs).natAbs = mag neg xs := sgn_natAbs _ _

set_option maxRecDepth 100000 in
set_option maxHeartbeats 400000 in
theorem rvalue_any (neg : Bool) (xs : List Nat) (V : Value) (w : World) (h : IntArg w V neg xs) (hm : xs.length ≤ 1000000) :
 Calls Tryz.prog 99 #[V] w fun e w' => ∃ V, e = .returned V ∧ IntRep w' V (cnt neg xs) ∧ Keeps w w' := by
 obtain ⟨i0, hi, hz0, hz1, hz2⟩ := info_parts info_u32
 obtain ⟨v, rfl, hv⟩ := h
 obtain ⟨A, n, c, rfl, e, hc, hcm, h0, hr⟩ := hv.open_
 have hkk := keep2 w (.cells #[.bool neg, .slice A n c] 29) (.cells #[.bool false, .slice none 0 0] 29)
 have hR := own2 w (.cells #[.bool neg, .slice A n c] 29) 29 [.bool false, .slice none 0 0]
 have hB := (Own.new w 29 [.bool neg, .slice A n c]).alloc (.cells #[.bool false, .slice none 0 0] 29)
 have hV := Lib.hid (rvalid_any neg A n c xs _ e (hr.below hkk) (by omega))
 cases hb : validB neg xs with
 | false =>
  have HB := Lib.hid hb
  rw [hb] at hV
  clear hb e
  go_enter Tryz.func99, Tryz.ntmps99
  go_wp2_with fail
  refine hV.out.mono ?_
  rintro e w1 ⟨rfl, hk1⟩
  have hR1 := hR.below hk1
  have r0 := hR1.c0
  have r1 := hR1.c1
  have f0 := hR1.frozen 0
  have f1 := hR1.frozen 1
  go_wp2
  have hR4 := hR1.two (.bool false) (.slice none 0 0)
  refine bodyPost_ret (v := .agg #[.bool false, .slice none 0 0]) (by simp [results, Tryz.results99, go_sem, hR4.c0, hR4.c1]) rfl ?_
  refine ⟨_, rfl, ?_, ((hkk.trans' hk1).set (by simp) _).set (by simp) _⟩
  rw [show cnt neg xs = 0 by unfold cnt mag; rw [if_neg (by rw [HB.out]; simp), sgn_zero]]
  exact IntRep.zero _
 | true =>
  have HB := Lib.hid hb
  have HE := Lib.hid e
  have hnm : n ≤ 1000000 := by omega
  rw [hb] at hV
  clear hb e
  go_enter Tryz.func99, Tryz.ntmps99
  go_wp2_with fail
  refine hV.out.mono ?_
  rintro e w1 ⟨rfl, hk1⟩
  have hR1 := hR.below hk1
  have hB1 := hB.below hk1
  have b0 := hB1.c0
  have b1 := hB1.c1
  have hk2 := hkk.trans' hk1
  have hr1 := (hr.below hkk).below hk1
  have hz3 : w.heap.size + 1 < w1.heap.size := by have := hk1.size; simp at this; omega
  go_wp2
  go_region_held3 (fun w' => w'.cell? ⟨w.heap.size, 0, none⟩ = some (.bool neg) ∧ w'.cell? ⟨w.heap.size, 1, none⟩ = some (.slice A n c))
   (first | exact ⟨b0, b1⟩ | exact ⟨(hB1.alloc (.cells #[] 109)).c0, (hB1.alloc (.cells #[] 109)).c1⟩ | exact ⟨hB5.c0, hB5.c1⟩ | exact ⟨(hB5.far2 (by omega)).c0, (hB5.far2 (by omega)).c1⟩)
   (first
    | (refine step_append_row (by rfl) _ _ 27 (by rfl) w1.heap.size 109 i0 (.int .u32 0) 4 Tryz.underlying27 hi hz0 hz1 hz2 rfl (.slice (some ⟨w1.heap.size, 0, none⟩) 0 0) 0 [] (by rfl) ((made1 w1 109).drew) A n c (u32 xs) (by rfl) h0 hc (hr1.below (w' := (w1.alloc (.cells #[] 109)).drew) (Below.drew (box2 _ _))) (fun j => rfl) (by simp only [maxLen]; omega) (by omega) (by simp) ?_; intro v5 w5 hown5 hgrow5; rw [List.nil_append, Nat.zero_add, u32s_take xs n (by rw [HE.out]; exact Nat.le_refl _), List.take_of_length_le (by rw [HE.out]; exact Nat.le_refl _)] at hown5; have hu5 := U32.of_own hown5; obtain ⟨A5, n5, c5, rfl, -⟩ := hu5.open_; have hR5 := (hR1.alloc (.cells #[] 109)).drew.grown hgrow5 (by simp [Value.ownBlock]; omega); have r0 := hR5.c0; have r1 := hR5.c1; have f0 := hR5.frozen 0; have f1 := hR5.frozen 1; have hB5 := (hB1.alloc (.cells #[] 109)).drew.grown hgrow5 (by simp [Value.ownBlock]; omega)))
  go_wp2
  have hR6 := hR5.two (.bool neg) (.slice A5 n5 c5)
  refine bodyPost_ret (v := .agg #[.bool neg, .slice A5 n5 c5]) (by simp [results, Tryz.results99, go_sem, hR6.c0, hR6.c1]) rfl ?_
  have hk5 : Keeps w w5 := (Below.drew (Below.alloc hk2 (by omega) _)).grown hgrow5 (by simp; omega) (fun b e => by cases e; show w.heap.size ≤ w1.heap.size; omega)
  refine ⟨_, rfl, ?_, (hk5.set (by simp) _).set (by simp) _⟩
  have hrep : IntRep w5 (.agg #[.bool neg, .slice A5 n5 c5]) (cnt neg xs) := ⟨_, by rw [cnt_neg HB.out], by rw [cnt_abs, dig_mag HB.out]; exact hu5⟩
  exact hrep.two hR5 rfl rfl rfl
end Go.Proofs.YtgcigdahjabimaaGreatDoor
