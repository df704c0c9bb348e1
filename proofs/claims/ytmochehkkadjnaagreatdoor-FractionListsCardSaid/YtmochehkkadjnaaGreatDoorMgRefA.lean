/- The walks of the reference's small functions: Valid, made, Value, Same, group. The walks of the reference's Same, group, size. The walks of the reference's size, plus, minus. The walks of the reference's minus, Sign, Neg, Abs, Of. The walks of the reference's Neg, Abs, Of. -/
import Derived.Test.YtmochehkkadjnaaGreatDoorMgCmp
import Derived.Deep.QuietTactic
import Derived.BigQuiet
namespace Go.Proofs.YtmochehkkadjnaaGreatDoor
open Go.RowKit Go.Shelf

theorem validB_big {neg : Bool} {xs : List Nat} {k : Nat} (hk : k < xs.length) (h : 1000000000 ≤ ix xs k) : validB neg xs = false := by
  rw [validB_ne rfl (by omega), anyBig_of xs k hk h]; simp
theorem validB_small {neg : Bool} {xs : List Nat} {n : Nat} (e : xs.length = n) (h0 : n ≠ 0) (h : anyBig xs = false) : validB neg xs = (ix xs (n - 1) != 0) := by
  rw [validB_ne e h0, h]; simp

set_option maxRecDepth 100000 in
set_option maxHeartbeats 400000 in
theorem rvalid_any (neg : Bool) (A : Option Addr) (n c : Nat) (xs : List Nat) (w : World) (e : xs.length = n) (h : Row w A n (u32 xs)) (hm : n ≤ 1000000000) :
    Calls Tryz.prog 49 #[.agg #[.bool neg, .slice A n c]] w fun e w' => e = .returned (.bool (validB neg xs)) ∧ Keeps w w' := by
  have hkk := box2 w (.cells #[.bool neg, .slice A n c] 24)
  have h1 := h.below hkk
  have HE := Lib.hid e
  clear e
  go_enter Tryz.func49, Tryz.ntmps49
  go_wp2
  go_loop [4] (fun i => ∃ k : Nat, k ≤ n ∧ i = .int .i64 (k : Nat) ∧ anyBig (xs.take k) = false) (fun i => n - (intOf i).toNat)
  case atStart => exact ⟨0, by omega, rfl, rfl⟩
  case round =>
    obtain ⟨k, hk, rfl, hn⟩ := hrel
    have HN := Lib.hid hn
    clear hn
    by_cases hlt : k < n
    · obtain ⟨b, o, rfl, hb, hcell⟩ := h1 (by omega)
      have hx : (w.alloc (.cells #[.bool neg, .slice (some ⟨b, o, none⟩) n c] 24)).cell? ⟨b, o + k, none⟩ = some (.int .u32 (ix xs k : Nat)) := hcell k hlt
      clear hcell
      rcases Nat.lt_or_ge (ix xs k) 1000000000 with hs | hs
      · have hD : decide ((1000000000 : Int) ≤ (ix xs k : Int)) = false := decide_eq_false (by omega)
        have HS := Lib.hid hs
        clear hs
        go_wp2
        go_round
        case rel => exact ⟨k + 1, by omega, by go_num, by rw [anyBig_take xs k (by rw [HE.out]; exact hlt), HN.out, decide_eq_false (by have := HS.out; omega)]; rfl⟩
        case measure => simp [intOf]; omega
      · have hD : decide ((1000000000 : Int) ≤ (ix xs k : Int)) = true := decide_eq_true (by omega)
        have HS := Lib.hid hs
        clear hs
        go_wp2
        go_ret
        exact ⟨by rw [validB_big (neg := neg) (by rw [HE.out]; exact hlt) HS.out]; rfl, hkk⟩
    · obtain rfl : k = n := by omega
      rcases Nat.eq_zero_or_pos k with h0 | h0
      · subst h0
        go_wp2
        go_ret
        exact ⟨by unfold validB; rw [if_pos HE.out]; rfl, hkk⟩
      · have hk0 : ((k : Int) == 0) = false := by simp; omega
        obtain ⟨b, o, rfl, hb, hcell⟩ := h1 (by omega)
        have hx : (w.alloc (.cells #[.bool neg, .slice (some ⟨b, o, none⟩) k c] 24)).cell? ⟨b, o + (k - 1), none⟩ = some (.int .u32 (ix xs (k - 1) : Nat)) := hcell (k - 1) (by omega)
        clear hcell
        go_wp2
        go_ret
        have hb : anyBig xs = false := by have := HN.out; rwa [← HE.out, List.take_length] at this
        exact ⟨by rw [validB_small HE.out (by omega) hb]; exact congrArg (fun b => Ending.returned (.bool b)) (bne_cast _), hkk⟩

theorem U32.empty (w : World) (a : Addr) : U32 w (.slice (some a) 0 0) [] := ⟨some a, 0, rfl, Nat.le_refl _, by simp [maxLen], (by intro h; cases h), Row.zero⟩
theorem IntRep.of_nil {w : World} {v : Value} (h : U32 w v []) : IntRep w (.agg #[.bool false, v]) 0 := ⟨v, by simp, by simpa [dig_zero] using h⟩
set_option maxRecDepth 100000 in
set_option maxHeartbeats 400000 in
theorem rmade_any (neg : Bool) (A : Option Addr) (n c : Nat) (xs : List Nat) (w : World) (e : xs.length = n) (h : Row w A n (u32 xs)) (ha : AllB xs) (hc : n ≤ c) (hm : n ≤ 4000000) (h0 : A = none → c = 0) :
    Calls Tryz.prog 146 #[.bool neg, .slice A n c] w fun e w' => ∃ V, e = .returned V ∧ IntRep w' V (sgn neg (val xs)) ∧ Keeps w w' := by
  obtain ⟨i0, hi, hz0, hz1, hz2⟩ := info_parts info_u32
  have hkk := box2 w (.cells #[.bool false, .slice none 0 0] 24)
  have h1 := h.below hkk
  have hR := Own.new w 24 [.bool false, .slice none 0 0]
  have HE := Lib.hid e
  clear e
  cases A with
  | none =>
    obtain rfl := h0 rfl
    obtain rfl : n = 0 := by omega
    have hx0 : xs = [] := List.eq_nil_of_length_eq_zero HE.out
    subst hx0
    go_enter Tryz.func146, Tryz.ntmps146
    go_wp2
    refine wp_loop_rounds 1 ?_
    rw [rounds_succ]
    cases neg
    all_goals
      go_wp2_with (at_builtin; refine wpList_append_own_none rfl _ _ 22 rfl (w.heap.size + 1) 93 i0 1 Tryz.underlying22 hi _ 0 [] rfl (made2 w (.cells #[.bool false, .slice none 0 0] 24) 93) rfl ?_)
      refine bodyPost_ret (v := .agg #[.bool false, .slice (some ⟨w.heap.size + 1, 0, none⟩) 0 0]) (by simp [results, Tryz.results146, go_sem]) rfl ?_
      exact ⟨_, rfl, by simpa [val, sgn] using IntRep.of_nil (U32.empty _ _), keep2 _ _ _⟩
  | some ad =>
    go_enter Tryz.func146, Tryz.ntmps146
    go_wp2
    go_loop [5] (fun i => ∃ k : Nat, k ≤ n ∧ i = .int .i64 (k : Nat) ∧ trimL (xs.take k) = trimL xs) (fun i => (intOf i).toNat)
    case atStart => exact ⟨n, Nat.le_refl _, rfl, by rw [← HE.out]; simp⟩
    case round =>
      obtain ⟨k, hk, rfl, ht⟩ := hrel
      have HT := Lib.hid ht
      clear ht
      have step : ∀ (neg : Bool) (hz : k = 0 ∨ ix xs (k - 1) ≠ 0), xs.take k = dig (val xs) := by
        intro _ hz
        have ht := HT.out
        rw [trimL_of_last, trimL_eq ha] at ht
        · exact ht
        · intro hp
          rw [List.length_take, HE.out, Nat.min_eq_left hk, ix_take _ _ _ (by rw [List.length_take, HE.out] at hp; omega)]
          rcases hz with hz | hz
          · subst hz; simp at hp
          · exact hz
      have HF := Lib.hid step
      clear step
      rcases Nat.eq_zero_or_pos k with hk0 | hk0
      · have hv : val xs = 0 := by
          have := HF.out neg (.inl hk0)
          rw [hk0, List.take_zero] at this
          exact dig_eq_nil.1 this.symm
        subst hk0
        have HV := Lib.hid hv
        clear hv
        cases neg
        all_goals
          go_wp2_with (at_builtin; refine wpList_append_row rfl _ _ 22 rfl (w.heap.size + 1) 93 i0 (.int .u32 0) 4 Tryz.underlying22 hi hz0 hz1 hz2 rfl (.slice (some ⟨w.heap.size + 1, 0, none⟩) 0 0) 0 [] rfl (made2 w (.cells #[.bool false, .slice none 0 0] 24) 93) _ _ _ (u32 xs) rfl (by intro h; cases h) (by omega) (Row.zero) (fun j => rfl) (by simp only [maxLen]; omega) (by omega) (by simp) ?_; intro v' w1 hown' hgrow; rw [List.nil_append, Nat.zero_add, u32s_take xs 0 (by omega)] at hown'; have hu := U32.of_own hown'; obtain ⟨A5, n5, c5, rfl, -⟩ := hu.open_; have hR1 := ((hR.alloc (.cells #[] 93)).grown hgrow (by simp [Value.ownBlock])); have r0 := hR1.c0; have r1 := hR1.c1; have f0 := hR1.frozen 0; have f1 := hR1.frozen 1; have hk1 : Keeps w w1 := (hkk.alloc (by simp) _).grown hgrow (by simp; omega) (fun b e => by cases e; simp))
          have hR4 := hR1.two (.bool false) (.slice A5 n5 c5)
          refine bodyPost_ret (v := .agg #[.bool false, .slice A5 n5 c5]) (by simp [results, Tryz.results146, go_sem, hR4.c0, hR4.c1]) rfl ?_
          refine ⟨_, rfl, ?_, (hk1.set (Nat.le_refl _) _).set (Nat.le_refl _) _⟩
          rw [HV.out, sgn_zero]
          exact (IntRep.of_nil hu).two hR1 rfl rfl rfl
      · obtain ⟨b, o, he, hb, hcell⟩ := h1 (by omega)
        cases he
        have hx : (w.alloc (.cells #[.bool false, .slice none 0 0] 24)).cell? ⟨b, o + (k - 1), none⟩ = some (.int .u32 (ix xs (k - 1) : Nat)) := hcell (k - 1) (by omega)
        clear hcell
        by_cases hz : ix xs (k - 1) = 0
        · have hb0 : (((ix xs (k - 1) : Nat) : Int) == 0) = true := by simp [hz]
          have HZ := Lib.hid hz
          clear hz
          go_wp2
          go_round
          case rel => exact ⟨k - 1, by omega, by go_num, by rw [← HT.out, show xs.take k = xs.take (k - 1) ++ [0] by (have := take_snoc xs (k - 1) (by rw [HE.out]; omega)); rw [HZ.out, show k - 1 + 1 = k by omega] at this; exact this, trimL_snoc_zero]⟩
          case measure => simp [intOf]; omega
        · have hb0 : (((ix xs (k - 1) : Nat) : Int) == 0) = false := by simpa using hz
          have HD := Lib.hid (HF.out neg (.inr hz))
          have hv0 : val xs ≠ 0 := by
            intro h0
            have hd := HD.out
            rw [h0, dig_zero] at hd
            have := congrArg List.length hd
            rw [List.length_take, HE.out] at this
            simp at this
            omega
          have HV := Lib.hid hv0
          clear hv0
          clear hz
          cases neg
          · go_wp2_with (at_builtin; refine wpList_append_row rfl _ _ 22 rfl (w.heap.size + 1) 93 i0 (.int .u32 0) 4 Tryz.underlying22 hi hz0 hz1 hz2 rfl (.slice (some ⟨w.heap.size + 1, 0, none⟩) 0 0) 0 [] rfl (made2 w (.cells #[.bool false, .slice none 0 0] 24) 93) _ _ _ (u32 xs) rfl (by intro h; cases h) (by omega) ((h1.take hk).below (box2 _ _)) (fun j => rfl) (by simp only [maxLen]; omega) (by omega) (by simp) ?_; intro v' w1 hown' hgrow; rw [List.nil_append, Nat.zero_add, u32s_take xs k (by rw [HE.out]; exact hk)] at hown'; have hu := U32.of_own hown'; obtain ⟨A5, n5, c5, rfl, -⟩ := hu.open_; have hR1 := ((hR.alloc (.cells #[] 93)).grown hgrow (by simp [Value.ownBlock])); have r0 := hR1.c0; have r1 := hR1.c1; have f0 := hR1.frozen 0; have f1 := hR1.frozen 1; have hk1 : Keeps w w1 := (hkk.alloc (by simp) _).grown hgrow (by simp; omega) (fun b e => by cases e; simp))
            have hR4 := hR1.two (.bool false) (.slice A5 n5 c5)
            refine bodyPost_ret (v := .agg #[.bool false, .slice A5 n5 c5]) (by simp [results, Tryz.results146, go_sem, hR4.c0, hR4.c1]) rfl ?_
            refine ⟨_, rfl, ?_, (hk1.set (Nat.le_refl _) _).set (Nat.le_refl _) _⟩
            exact (IntRep.mk (by rw [← HD.out]; exact hu) HV.out).two hR1 rfl rfl rfl
          · go_wp2_with (at_builtin; refine wpList_append_row rfl _ _ 22 rfl (w.heap.size + 1) 93 i0 (.int .u32 0) 4 Tryz.underlying22 hi hz0 hz1 hz2 rfl (.slice (some ⟨w.heap.size + 1, 0, none⟩) 0 0) 0 [] rfl (made2 w (.cells #[.bool false, .slice none 0 0] 24) 93) _ _ _ (u32 xs) rfl (by intro h; cases h) (by omega) ((h1.take hk).below (box2 _ _)) (fun j => rfl) (by simp only [maxLen]; omega) (by omega) (by simp) ?_; intro v' w1 hown' hgrow; rw [List.nil_append, Nat.zero_add, u32s_take xs k (by rw [HE.out]; exact hk)] at hown'; have hu := U32.of_own hown'; obtain ⟨A5, n5, c5, rfl, -⟩ := hu.open_; have hR1 := ((hR.alloc (.cells #[] 93)).grown hgrow (by simp [Value.ownBlock])); have r0 := hR1.c0; have r1 := hR1.c1; have f0 := hR1.frozen 0; have f1 := hR1.frozen 1; have hk1 : Keeps w w1 := (hkk.alloc (by simp) _).grown hgrow (by simp; omega) (fun b e => by cases e; simp))
            have hR4 := hR1.two (.bool true) (.slice A5 n5 c5)
            refine bodyPost_ret (v := .agg #[.bool true, .slice A5 n5 c5]) (by simp [results, Tryz.results146, go_sem, hR4.c0, hR4.c1]) rfl ?_
            refine ⟨_, rfl, ?_, (hk1.set (Nat.le_refl _) _).set (Nat.le_refl _) _⟩
            exact (IntRep.mk (by rw [← HD.out]; exact hu) HV.out).two hR1 rfl rfl rfl
theorem rmade_u (neg : Bool) (v : Value) (xs : List Nat) (w : World) (h : U32 w v xs) (ha : AllB xs) (hm : xs.length ≤ 4000000) :
    Calls Tryz.prog 146 #[.bool neg, v] w fun e w' => ∃ V, e = .returned V ∧ IntRep w' V (sgn neg (val xs)) ∧ Keeps w w' := by
  obtain ⟨A, n, c, rfl, e, hc, -, h0, hr⟩ := h.open_
  exact rmade_any neg A n c xs w e hr ha hc (by omega) h0

theorem validB_nil {neg : Bool} (h : validB neg [] = true) : neg = false := by simpa [validB] using h
theorem cnt_neg {neg : Bool} {xs : List Nat} (h : validB neg xs = true) : decide (cnt neg xs < 0) = neg := by
  unfold cnt mag
  rw [if_pos h]
  cases neg with
  | false => simp [sgn]
  | true =>
    have : val xs ≠ 0 := by
      intro h0
      have := validB_dig h
      rw [h0, dig_zero] at this
      subst this
      cases validB_nil h
    simp [sgn]; omega
theorem cnt_abs (neg : Bool) (xs : List Nat) : (cnt neg xs).natAbs = mag neg xs := sgn_natAbs _ _

set_option maxRecDepth 100000 in
set_option maxHeartbeats 400000 in
theorem rvalue_any (neg : Bool) (xs : List Nat) (V : Value) (w : World) (h : IntArg w V neg xs) (hm : xs.length ≤ 1000000) :
    Calls Tryz.prog 134 #[V] w fun e w' => ∃ V, e = .returned V ∧ IntRep w' V (cnt neg xs) ∧ Keeps w w' := by
  obtain ⟨i0, hi, hz0, hz1, hz2⟩ := info_parts info_u32
  obtain ⟨v, rfl, hv⟩ := h
  obtain ⟨A, n, c, rfl, e, hc, hcm, h0, hr⟩ := hv.open_
  have hkk := keep2 w (.cells #[.bool neg, .slice A n c] 24) (.cells #[.bool false, .slice none 0 0] 24)
  have hR := own2 w (.cells #[.bool neg, .slice A n c] 24) 24 [.bool false, .slice none 0 0]
  have hB := (Own.new w 24 [.bool neg, .slice A n c]).alloc (.cells #[.bool false, .slice none 0 0] 24)
  have hV := Lib.hid (rvalid_any neg A n c xs _ e (hr.below hkk) (by omega))
  cases hb : validB neg xs with
  | false =>
    have HB := Lib.hid hb
    rw [hb] at hV
    clear hb e
    go_enter Tryz.func134, Tryz.ntmps134
    go_wp2_with fail
    refine hV.out.mono ?_
    rintro e w1 ⟨rfl, hk1⟩
    have hR1 := hR.below hk1
    have r0 := hR1.c0
    have r1 := hR1.c1
    have f0 := hR1.frozen 0
    have f1 := hR1.frozen 1
    go_wp2
    have hR4 := hR1.two (.bool false) (.slice none 0 0)
    refine bodyPost_ret (v := .agg #[.bool false, .slice none 0 0]) (by simp [results, Tryz.results134, go_sem, hR4.c0, hR4.c1]) rfl ?_
    refine ⟨_, rfl, ?_, ((hkk.trans' hk1).set (by simp) _).set (by simp) _⟩
    rw [show cnt neg xs = 0 by unfold cnt mag; rw [if_neg (by rw [HB.out]; simp), sgn_zero]]
    exact IntRep.zero _
  | true =>
    have HB := Lib.hid hb
    have HE := Lib.hid e
    have hnm : n ≤ 1000000 := by omega
    rw [hb] at hV
    clear hb e
    go_enter Tryz.func134, Tryz.ntmps134
    go_wp2_with fail
    refine hV.out.mono ?_
    rintro e w1 ⟨rfl, hk1⟩
    have hR1 := hR.below hk1
    have hB1 := hB.below hk1
    have b0 := hB1.c0
    have b1 := hB1.c1
    have hk2 := hkk.trans' hk1
    have hr1 := (hr.below hkk).below hk1
    have hz3 : w.heap.size + 1 < w1.heap.size := by have := hk1.size; simp at this; omega
    go_wp2
    go_region_held3 (fun w' => w'.cell? ⟨w.heap.size, 0, none⟩ = some (.bool neg) ∧ w'.cell? ⟨w.heap.size, 1, none⟩ = some (.slice A n c))
      (first | exact ⟨b0, b1⟩ | exact ⟨(hB1.alloc (.cells #[] 93)).c0, (hB1.alloc (.cells #[] 93)).c1⟩ | exact ⟨hB5.c0, hB5.c1⟩ | exact ⟨(hB5.far2 (by omega)).c0, (hB5.far2 (by omega)).c1⟩)
      (first
        | (refine step_append_row (by rfl) _ _ 22 (by rfl) w1.heap.size 93 i0 (.int .u32 0) 4 Tryz.underlying22 hi hz0 hz1 hz2 rfl (.slice (some ⟨w1.heap.size, 0, none⟩) 0 0) 0 [] (by rfl) ((made1 w1 93).drew) A n c (u32 xs) (by rfl) h0 hc (hr1.below (w' := (w1.alloc (.cells #[] 93)).drew) (Below.drew (box2 _ _))) (fun j => rfl) (by simp only [maxLen]; omega) (by omega) (by simp) ?_; intro v5 w5 hown5 hgrow5; rw [List.nil_append, Nat.zero_add, u32s_take xs n (by rw [HE.out]; exact Nat.le_refl _), List.take_of_length_le (by rw [HE.out]; exact Nat.le_refl _)] at hown5; have hu5 := U32.of_own hown5; obtain ⟨A5, n5, c5, rfl, -⟩ := hu5.open_; have hR5 := (hR1.alloc (.cells #[] 93)).drew.grown hgrow5 (by simp [Value.ownBlock]; omega); have r0 := hR5.c0; have r1 := hR5.c1; have f0 := hR5.frozen 0; have f1 := hR5.frozen 1; have hB5 := (hB1.alloc (.cells #[] 93)).drew.grown hgrow5 (by simp [Value.ownBlock]; omega)))
    go_wp2
    have hR6 := hR5.two (.bool neg) (.slice A5 n5 c5)
    refine bodyPost_ret (v := .agg #[.bool neg, .slice A5 n5 c5]) (by simp [results, Tryz.results134, go_sem, hR6.c0, hR6.c1]) rfl ?_
    have hk5 : Keeps w w5 := (Below.drew (Below.alloc hk2 (by omega) _)).grown hgrow5 (by simp; omega) (fun b e => by cases e; show w.heap.size ≤ w1.heap.size; omega)
    refine ⟨_, rfl, ?_, (hk5.set (by simp) _).set (by simp) _⟩
    have hrep : IntRep w5 (.agg #[.bool neg, .slice A5 n5 c5]) (cnt neg xs) := ⟨_, by rw [cnt_neg HB.out], by rw [cnt_abs, dig_mag HB.out]; exact hu5⟩
    exact hrep.two hR5 rfl rfl rfl
end Go.Proofs.YtmochehkkadjnaaGreatDoor

namespace Go.Proofs.YtmochehkkadjnaaGreatDoor
open Go.RowKit Go.Shelf

theorem group_any (v : Value) (xs : List Nat) (i : Nat) (w : World) (h : U32 w v xs) (ha : AllB xs) (hm : xs.length ≤ 1000000000) (hi : i ≤ 1000000000) :
    Calls Tryz.prog 186 #[v, .int .i64 (i : Nat)] w fun e w' => e = .returned (.int .u64 (ix xs i : Nat)) ∧ w = w' := by
  obtain ⟨A, n, c, rfl, e, -, -, -, hr⟩ := h.open_
  by_cases hlt : i < n
  · obtain ⟨b, o, rfl, hb, hcell⟩ := hr (by omega)
    have hx : w.cell? ⟨b, o + i, none⟩ = some (.int .u32 (ix xs i : Nat)) := hcell i hlt
    have hxb : (ix xs i : Int) < 1000000000 := by have := ha.ix i; omega
    clear hcell e
    go_enter Tryz.func186, Tryz.ntmps186
    go_wp2
    go_ret
    exact ⟨rfl, rfl⟩
  · have HZ := Lib.hid (ix_past xs i (by omega))
    clear e
    go_enter Tryz.func186, Tryz.ntmps186
    go_wp2
    go_ret
    exact ⟨by rw [HZ.out]; rfl, rfl⟩

end Go.Proofs.YtmochehkkadjnaaGreatDoor

namespace Go.Proofs.YtmochehkkadjnaaGreatDoor
open Go.RowKit Go.Shelf

set_option maxRecDepth 100000 in
set_option maxHeartbeats 400000 in
theorem size_any (v1 v2 : Value) (a b : Nat) (w : World) (h1 : U32 w v1 (dig a)) (h2 : U32 w v2 (dig b)) (hm1 : (dig a).length ≤ 1000000) (hm2 : (dig b).length ≤ 1000000) :
    Calls Tryz.prog 156 #[v1, v2] w fun e w' => e = .returned (.int .i64 ((a : Int) - b).sign) ∧ Keeps w w' := by
  obtain ⟨A, n, c, rfl, e1, -, -, -, r1⟩ := h1.open_
  obtain ⟨D, m, d, rfl, e2, -, -, -, r2⟩ := h2.open_
  have hn1 : n ≤ 1000000 := by omega
  have hn2 : m ≤ 1000000 := by omega
  have HE1 := Lib.hid e1
  have HE2 := Lib.hid e2
  clear e1 e2 hm1 hm2 h1 h2
  by_cases hl : n = m
  · subst hl
    have hnn : ((n : Int) != n) = false := by simp
    go_enter Tryz.func156, Tryz.ntmps156
    go_wp2
    go_loopw [5] (fun i wr => ∃ k : Nat, k ≤ n ∧ i = .int .i64 ((n : Int) - 1 - (k : Nat)) ∧ (dig a).drop (n - k) = (dig b).drop (n - k) ∧ Keeps w wr) (fun i _ => (intOf i + 1).toNat)
    case atStart => exact ⟨0, by omega, by go_num, by rw [List.drop_of_length_le (by rw [HE1.out]; omega), List.drop_of_length_le (by rw [HE2.out]; omega)], Below.refl _ _⟩
    case round =>
      obtain ⟨k, hk, rfl, hd, hkr⟩ := hrel
      by_cases hlt : k < n
      · have e : (n : Int) - 1 - (k : Int) = ((n - 1 - k : Nat) : Int) := by omega
        rw [e]
        clear e
        obtain ⟨q, hq⟩ : ∃ q, n - 1 - k = q := ⟨_, rfl⟩
        rw [show n - k = q + 1 by omega] at hd
        rw [hq]
        have hqn : q < n := by omega
        have h00 : (0 : Int) ≤ (q : Int) := by omega
        have h01 : (q : Int) < (n : Int) := by omega
        have HD := Lib.hid hd
        have HQ := Lib.hid hq
        clear hd hq
        obtain ⟨b1, o1, rfl, hb1, hcell⟩ := (r1.below hkr) (by omega)
        obtain ⟨b2, o2, rfl, hb2, hcell2⟩ := (r2.below hkr) (by omega)
        have hx : wr.cell? ⟨b1, o1 + q, none⟩ = some (.int .u32 (ix (dig a) q : Nat)) := hcell q hqn
        have hy : wr.cell? ⟨b2, o2 + q, none⟩ = some (.int .u32 (ix (dig b) q : Nat)) := hcell2 q hqn
        clear hcell hcell2
        have hcmp := dig_cmp_at a b q (HE1.out.trans HE2.out.symm) (by rw [HE1.out]; exact hqn) HD.out
        have HC := Lib.hid hcmp
        clear hcmp
        rcases Nat.lt_trichotomy (ix (dig a) q) (ix (dig b) q) with hs | hs | hs
        · have b1 : decide (ix (dig a) q < ix (dig b) q) = true := decide_eq_true (by omega)
          have HS := Lib.hid hs
          clear hs
          go_wp2
          go_quiet (fail)
          go_wp2
          go_ret
          exact ⟨ret_int (by have := HS.out; rw [HC.out (by omega), Int.sign_eq_neg_one_of_neg (by omega)]), below_drewN hkr _⟩
        · have b1 : decide (ix (dig a) q < ix (dig b) q) = false := decide_eq_false (by omega)
          have b2 : decide (ix (dig b) q < ix (dig a) q) = false := decide_eq_false (by omega)
          have HS := Lib.hid hs
          clear hs
          go_wp2
          go_quiet (fail)
          go_wp2
          go_quiet (fail)
          go_wp2
          go_roundw
          case rel => exact ⟨k + 1, by omega, by have := HQ.out; congr 1; omega, by rw [show n - (k + 1) = q by have := HQ.out; omega, drop_cons (dig a) q (by rw [HE1.out]; exact hqn), drop_cons (dig b) q (by rw [HE2.out]; exact hqn), HS.out, HD.out], below_drewN hkr _⟩
          case measure => have := HQ.out; simp [intOf]
        · have b1 : decide (ix (dig a) q < ix (dig b) q) = false := decide_eq_false (by omega)
          have b2 : decide (ix (dig b) q < ix (dig a) q) = true := decide_eq_true (by omega)
          have HS := Lib.hid hs
          clear hs
          go_wp2
          go_quiet (fail)
          go_wp2
          go_quiet (fail)
          go_wp2
          go_ret
          exact ⟨ret_int (by have := HS.out; rw [HC.out (by omega), Int.sign_eq_one_of_pos (by omega)]), below_drewN (below_drewN hkr _) _⟩
      · obtain rfl : k = n := by omega
        rw [Nat.sub_self, List.drop_zero, List.drop_zero] at hd
        have he := Lib.hid (dig_inj hd)
        clear hd
        go_wp2
        go_ret
        exact ⟨ret_int (by rw [he.out]; simp), hkr⟩
  · have hnn : ((n : Int) != m) = true := by rw [bne_iff_ne]; omega
    rcases Nat.lt_or_gt_of_ne hl with hs | hs
    · have := dig_lt_of_length (a := a) (b := b) (by rw [HE1.out, HE2.out]; exact hs)
      have HS := Lib.hid this
      clear this
      go_enter Tryz.func156, Tryz.ntmps156
      go_wp2
      go_ret
      exact ⟨ret_int (by have := HS.out; rw [Int.sign_eq_neg_one_of_neg (by omega)]), Below.refl _ _⟩
    · have := dig_lt_of_length (a := b) (b := a) (by rw [HE1.out, HE2.out]; exact hs)
      have HS := Lib.hid this
      clear this
      go_enter Tryz.func156, Tryz.ntmps156
      go_wp2
      go_ret
      exact ⟨ret_int (by have := HS.out; rw [Int.sign_eq_one_of_pos (by omega)]), Below.refl _ _⟩

theorem field_groups (x y : Value) : ∀ w : World, (Instr.field 24 (.agg #[x, y]) 1).run Tryz.prog w = .ok y w := fun _ => by kernel_rfl
theorem rplus_step (xs ys out : List Nat) (k cc s c : Nat) (hk : out.length = k) (hv : val out + cc * 1000000000 ^ k = val (xs.take k) + val (ys.take k))
    (e : s + c * 1000000000 = ix xs k + ix ys k + cc) :
    val (out ++ [s]) + c * 1000000000 ^ (k + 1) = val (xs.take (k + 1)) + val (ys.take (k + 1)) := by
  rw [val_snoc, hk, val_take_succ xs, val_take_succ ys]
  have : (s + c * 1000000000) * 1000000000 ^ k = (ix xs k + ix ys k + cc) * 1000000000 ^ k := by rw [e]
  grind

set_option maxRecDepth 100000 in
set_option maxHeartbeats 1000000 in
theorem rplus_core (A D : Option Addr) (n1 n2 c1 c2 : Nat) (xs ys : List Nat) (w : World) (e1 : xs.length = n1) (e2 : ys.length = n2) (h1 : U32 w (.slice A n1 c1) xs) (h2 : U32 w (.slice D n2 c2) ys)
    (ha : AllB xs) (hb : AllB ys) (hm1 : n1 ≤ 1000000) (hm2 : n2 ≤ 1000000) :
    Calls Tryz.prog 155 #[.slice A n1 c1, .slice D n2 c2] w fun e w' => ∃ v, e = .returned v ∧ U32 w' v (dig (val xs + val ys)) ∧ Keeps w w' := by
  obtain ⟨i0, hi, hz0, hz1, hz2⟩ := info_parts info_u32
  have HE1 := Lib.hid e1
  have HE2 := Lib.hid e2
  clear e1 e2
  go_enter Tryz.func155, Tryz.ntmps155
  go_wp2
  go_loopw [5, 6, 7] (fun g c i wr => ∃ (k cc : Nat) (out : List Nat), k ≤ max n1 n2 ∧ i = .int .i64 (k : Nat) ∧ c = .int .u64 (cc : Nat) ∧ cc ≤ 1 ∧ out.length = k ∧ AllB out ∧
      val out + cc * 1000000000 ^ k = val (xs.take k) + val (ys.take k) ∧ wr.ownsRow w.heap.size 93 1 g k (u32s out) ∧ Keeps w wr)
    (fun _ _ i _ => max n1 n2 - (intOf i).toNat)
  case atStart => exact ⟨0, 0, [], by omega, rfl, rfl, by omega, rfl, AllB.nil, by simp [val], made1 w _, box2 _ _⟩
  case round =>
    obtain ⟨k, cc, out, hkN, rfl, rfl, hcc, hol, hob, hval, hown1, hk1⟩ := hrel
    have HV := Lib.hid hval
    have HL := Lib.hid hol
    clear hval hol
    have hN : max n1 n2 ≤ 1000000 := by omega
    by_cases hlt : k < max n1 n2
    · have hx : (ix xs k : Int) < 1000000000 := by have := ha.ix k; omega
      have hy : (ix ys k : Int) < 1000000000 := by have := hb.ix k; omega
      have hcases : (k < n1) ∨ (n1 ≤ k ∧ k < n2) := by omega
      rcases hcases with hq | ⟨hq, hq2⟩
      all_goals
        go_wp2_with fail
        refine (group_any _ xs k wr (h1.below hk1) ha (by rw [HE1.out]; omega) (by omega)).mono ?_
        rintro e w1 ⟨rfl, rfl⟩
        go_wp2_with fail
        refine (group_any _ ys k wr (h2.below hk1) hb (by rw [HE2.out]; omega) (by omega)).mono ?_
        rintro e w1 ⟨rfl, rfl⟩
        go_wp2_with (at_builtin; refine wpList_append_own _ rfl _ _ 22 rfl w.heap.size 93 i0 (.int .u32 0) 1 4 Tryz.underlying22 hi hz0 hz1 hz2 rfl (by decide) _ _ _ rfl (hown1.alloc _) ⟨wr.heap.size, 0, none⟩ 1 1 [.int .u32 (((ix xs k : Nat) + (ix ys k : Nat) + (cc : Nat) : Int) % 1000000000)] rfl rfl (newcell _ _ _) (by simp [Value.oneCell']) (by simp only [maxLen]; omega) (by omega) (by have := hk1.size; simp; omega) ?_; intro v' w1 hown' hgrow _)
        rw [u32s_snoc out ((ix xs k + ix ys k + cc) % 1000000000) (by omega)] at hown'
        have hk2 : Keeps w w1 := (hk1.alloc hk1.size _).grown hgrow (by have := hk1.size; simp; omega) (fun b e => (hown1.lt b e).1)
        go_roundw
        case rel => exact ⟨k + 1, (ix xs k + ix ys k + cc) / 1000000000, out ++ [(ix xs k + ix ys k + cc) % 1000000000], by omega, by go_num, by congr 1 <;> omega, by have := ha.ix k; have := hb.ix k; omega, by simp [HL.out],
          hob.append (AllB.single (by omega)), rplus_step xs ys out k cc _ _ HL.out HV.out (by omega), hown', hk2⟩
        case measure => simp [intOf]; omega
    · obtain ⟨K, hK⟩ : ∃ K, K = k := ⟨_, rfl⟩
      have hq1 : n1 ≤ k := by omega
      have hq2 : n2 ≤ k := by omega
      clear hK
      have hccI : (cc : Int) ≤ 1 := by omega
      have hfin : val (out ++ [cc]) = val xs + val ys := by
        have := HV.out
        rw [List.take_of_length_le (by rw [HE1.out]; exact hq1), List.take_of_length_le (by rw [HE2.out]; exact hq2)] at this
        rw [val_snoc, HL.out]; exact this
      have HF := Lib.hid hfin
      clear hfin
      go_wp2_with (at_builtin; refine wpList_append_own _ rfl _ _ 22 rfl w.heap.size 93 i0 (.int .u32 0) 1 4 Tryz.underlying22 hi hz0 hz1 hz2 rfl (by decide) _ _ _ rfl (hown1.alloc _) ⟨wr.heap.size, 0, none⟩ 1 1 [.int .u32 (cc : Nat)] rfl rfl (newcell _ _ _) (by simp [Value.oneCell']) (by simp only [maxLen]; omega) (by omega) (by have := hk1.size; simp; omega) ?_; intro v' w1 hown' hgrow _)
      rw [u32s_snoc out cc rfl] at hown'
      have hk2 : Keeps w w1 := (hk1.alloc hk1.size _).grown hgrow (by have := hk1.size; simp; omega) (fun b e => (hown1.lt b e).1)
      refine (rmade_u false v' _ _ (U32.of_own hown') (hob.append (AllB.single (by omega))) (by simp [HL.out]; omega)).mono ?_
      rintro e w3 ⟨V3, rfl, hr3, hk3⟩
      obtain ⟨A3, n3, c3, rfl, hv3⟩ := hr3.open_
      have hfd := field_groups (.bool (decide (sgn false (val (out ++ [cc])) < 0))) (.slice A3 n3 c3)
      go_wp2
      go_ret
      refine ⟨_, rfl, ?_, hk2.trans' hk3⟩
      rw [sgn_natAbs, HF.out] at hv3
      exact hv3
end Go.Proofs.YtmochehkkadjnaaGreatDoor

namespace Go.Proofs.YtmochehkkadjnaaGreatDoor
open Go.RowKit Go.Shelf

theorem rminus_step (xs ys out : List Nat) (k cc s c : Nat) (hk : out.length = k) (hv : val out + val (ys.take k) = val (xs.take k) + cc * 1000000000 ^ k)
    (e : s + ix ys k + cc = ix xs k + c * 1000000000) :
    val (out ++ [s]) + val (ys.take (k + 1)) = val (xs.take (k + 1)) + c * 1000000000 ^ (k + 1) := by
  rw [val_snoc, hk, val_take_succ xs, val_take_succ ys]
  have : (s + ix ys k + cc) * 1000000000 ^ k = (ix xs k + c * 1000000000) * 1000000000 ^ k := by rw [e]
  grind

set_option maxRecDepth 100000 in
set_option maxHeartbeats 1000000 in
theorem rminus_core (A D : Option Addr) (n1 n2 c1 c2 : Nat) (xs ys : List Nat) (w : World) (e1 : xs.length = n1) (e2 : ys.length = n2) (h1 : U32 w (.slice A n1 c1) xs) (h2 : U32 w (.slice D n2 c2) ys)
    (ha : AllB xs) (hb : AllB ys) (hm1 : n1 ≤ 1000000) (hl : n2 ≤ n1) (hle : val ys ≤ val xs) :
    Calls Tryz.prog 157 #[.slice A n1 c1, .slice D n2 c2] w fun e w' => ∃ v, e = .returned v ∧ U32 w' v (dig (val xs - val ys)) ∧ Keeps w w' := by
  obtain ⟨i0, hi, hz0, hz1, hz2⟩ := info_parts info_u32
  have HE1 := Lib.hid e1
  have HE2 := Lib.hid e2
  have HLE := Lib.hid hle
  clear e1 e2 hle
  go_enter Tryz.func157, Tryz.ntmps157
  go_wp2
  go_loopw [5, 6, 7] (fun g c i wr => ∃ (k cc : Nat) (out : List Nat), k ≤ n1 ∧ i = .int .i64 (k : Nat) ∧ c = .int .u64 (cc : Nat) ∧ cc ≤ 1 ∧ out.length = k ∧ AllB out ∧
      val out + val (ys.take k) = val (xs.take k) + cc * 1000000000 ^ k ∧ wr.ownsRow w.heap.size 93 1 g k (u32s out) ∧ Keeps w wr)
    (fun _ _ i _ => n1 - (intOf i).toNat)
  case atStart => exact ⟨0, 0, [], by omega, rfl, rfl, by omega, rfl, AllB.nil, by simp [val], made1 w _, box2 _ _⟩
  case round =>
    obtain ⟨k, cc, out, hkN, rfl, rfl, hcc, hol, hob, hval, hown1, hk1⟩ := hrel
    have HV := Lib.hid hval
    have HL := Lib.hid hol
    clear hval hol
    by_cases hlt : k < n1
    · have hx : (ix xs k : Int) < 1000000000 := by have := ha.ix k; omega
      have hy : (ix ys k : Int) < 1000000000 := by have := hb.ix k; omega
      go_wp2_with fail
      refine (group_any _ xs k wr (h1.below hk1) ha (by rw [HE1.out]; omega) (by omega)).mono ?_
      rintro e w1 ⟨rfl, rfl⟩
      go_wp2_with fail
      refine (group_any _ ys k wr (h2.below hk1) hb (by rw [HE2.out]; omega) (by omega)).mono ?_
      rintro e w1 ⟨rfl, rfl⟩
      go_wp2_with (at_builtin; refine wpList_append_own _ rfl _ _ 22 rfl w.heap.size 93 i0 (.int .u32 0) 1 4 Tryz.underlying22 hi hz0 hz1 hz2 rfl (by decide) _ _ _ rfl (hown1.alloc _) ⟨wr.heap.size, 0, none⟩ 1 1 [.int .u32 ((1000000000 + (ix xs k : Nat) - (ix ys k : Nat) - (cc : Nat) : Int) % 1000000000)] rfl rfl (newcell _ _ _) (by simp [Value.oneCell']) (by simp only [maxLen]; omega) (by omega) (by have := hk1.size; simp; omega) ?_; intro v' w1 hown' hgrow _)
      rw [u32s_snoc out ((1000000000 + ix xs k - ix ys k - cc) % 1000000000) (by omega)] at hown'
      have hk2 : Keeps w w1 := (hk1.alloc hk1.size _).grown hgrow (by have := hk1.size; simp; omega) (fun b e => (hown1.lt b e).1)
      go_roundw
      case rel => exact ⟨k + 1, 1 - (1000000000 + ix xs k - ix ys k - cc) / 1000000000, out ++ [(1000000000 + ix xs k - ix ys k - cc) % 1000000000], by omega, by go_num, by congr 1 <;> omega, by omega, by simp [HL.out],
        hob.append (AllB.single (by omega)), rminus_step xs ys out k cc _ _ HL.out HV.out (by have := ha.ix k; have := hb.ix k; omega), hown', hk2⟩
      case measure => simp [intOf]; omega
    · obtain rfl : k = n1 := by omega
      have hfin : val out = val xs - val ys := by
        have hv := HV.out
        rw [List.take_of_length_le (by rw [HE2.out]; exact hl), List.take_of_length_le (by rw [HE1.out]; exact Nat.le_refl _)] at hv
        have a := val_lt hob
        have b := val_lt ha
        rw [HL.out] at a
        rw [HE1.out] at b
        have := HLE.out
        have : cc = 0 ∨ cc = 1 := by omega
        rcases this with rfl | rfl <;> omega
      have HF := Lib.hid hfin
      clear hfin
      go_wp2_with fail
      refine (rmade_u false u5 out _ (U32.of_own hown1) hob (by rw [HL.out]; omega)).mono ?_
      rintro e w3 ⟨V3, rfl, hr3, hk3⟩
      obtain ⟨A3, n3, c3, rfl, hv3⟩ := hr3.open_
      have hfd := field_groups (.bool (decide (sgn false (val out) < 0))) (.slice A3 n3 c3)
      go_wp2
      go_ret
      refine ⟨_, rfl, ?_, hk1.trans' hk3⟩
      rw [sgn_natAbs, HF.out] at hv3
      exact hv3

theorem rplus_d (v1 v2 : Value) (a b : Nat) (w : World) (h1 : U32 w v1 (dig a)) (h2 : U32 w v2 (dig b)) (hm1 : (dig a).length ≤ 1000000) (hm2 : (dig b).length ≤ 1000000) :
    Calls Tryz.prog 155 #[v1, v2] w fun e w' => ∃ v, e = .returned v ∧ U32 w' v (dig (a + b)) ∧ Keeps w w' := by
  obtain ⟨A, n, c, rfl, e1, -⟩ := h1.open_
  obtain ⟨D, m, d, rfl, e2, -⟩ := h2.open_
  have := rplus_core A D n m c d _ _ w e1 e2 h1 h2 (AllB.dig a) (AllB.dig b) (by omega) (by omega)
  rwa [val_dig, val_dig] at this
theorem rminus_d (v1 v2 : Value) (a b : Nat) (w : World) (h1 : U32 w v1 (dig a)) (h2 : U32 w v2 (dig b)) (hm1 : (dig a).length ≤ 1000000) (hle : b ≤ a) :
    Calls Tryz.prog 157 #[v1, v2] w fun e w' => ∃ v, e = .returned v ∧ U32 w' v (dig (a - b)) ∧ Keeps w w' := by
  obtain ⟨A, n, c, rfl, e1, -⟩ := h1.open_
  obtain ⟨D, m, d, rfl, e2, -⟩ := h2.open_
  have := rminus_core A D n m c d _ _ w e1 e2 h1 h2 (AllB.dig a) (AllB.dig b) (by omega) (by have := dig_length_mono hle; omega) (by rw [val_dig, val_dig]; exact hle)
  rwa [val_dig, val_dig] at this
theorem rmade_d (neg : Bool) (v : Value) (m : Nat) (w : World) (h : U32 w v (dig m)) (hm : (dig m).length ≤ 4000000) :
    Calls Tryz.prog 146 #[.bool neg, v] w fun e w' => ∃ V, e = .returned V ∧ IntRep w' V (sgn neg m) ∧ Keeps w w' := by
  have := rmade_u neg v (dig m) w h (AllB.dig m) hm
  rwa [val_dig] at this

theorem sgn_of_rep (z : Int) : sgn (decide (z < 0)) z.natAbs = z := by
  by_cases h : z < 0
  · rw [decide_eq_true h]; simp [sgn]; omega
  · rw [decide_eq_false h]; simp [sgn]; omega

theorem IntRep.arg {w : World} {V : Value} {z : Int} (h : IntRep w V z) : IntArg w V (decide (z < 0)) (dig z.natAbs) := h
theorem validB_rep (z : Int) : validB (decide (z < 0)) (dig z.natAbs) = true := by
  unfold validB
  by_cases h0 : z.natAbs = 0
  · rw [if_pos (by rw [h0, dig_zero]; rfl)]
    simp; omega
  · rw [if_neg (by rw [dig_length_zero]; exact h0), Bool.and_eq_true]
    refine ⟨by simpa using dig_last h0, ?_⟩
    rw [List.all_eq_true]
    intro x hx
    have := AllB.dig z.natAbs x hx
    simpa using this
theorem cnt_rep (z : Int) : cnt (decide (z < 0)) (dig z.natAbs) = z := by
  unfold cnt mag
  rw [if_pos (validB_rep z), val_dig]
  exact sgn_of_rep z

set_option maxRecDepth 100000 in
set_option maxHeartbeats 400000 in
theorem rsign_any (neg : Bool) (xs : List Nat) (V : Value) (w : World) (h : IntArg w V neg xs) (hm : xs.length ≤ 1000000) :
    Calls Tryz.prog 82 #[V] w fun e w' => e = .returned (.int .i64 (cnt neg xs).sign) ∧ Keeps w w' := by
  obtain ⟨v, rfl, hv⟩ := h
  have hkk := box2 w (.cells #[.bool neg, v] 24)
  have hB := Own.new w 24 [.bool neg, v]
  have hG := Lib.hid (rvalue_any neg xs (.agg #[.bool neg, v]) _ ⟨v, rfl, hv.below hkk⟩ hm)
  generalize cnt neg xs = z at hG ⊢
  go_enter Tryz.func82, Tryz.ntmps82
  go_wp2_with fail
  refine hG.out.mono ?_
  rintro e w1 ⟨V3, rfl, hr3, hk1⟩
  obtain ⟨A3, n3, c3, rfl, hv3⟩ := hr3.open_
  obtain ⟨A', n', c', e', e1, -⟩ := hv3.open_
  cases e'
  have hB1 := hB.below hk1
  have r0 := hB1.c0
  have r1 := hB1.c1
  have f0 := hB1.frozen 0
  have f1 := hB1.frozen 1
  have hk := hkk.trans' hk1
  have hB2 := hB1.two (.bool (decide (z < 0))) (.slice A3 n3 c3)
  have s0 := hB2.c0
  have s1 := hB2.c1
  rcases Int.lt_trichotomy z 0 with hz | hz | hz
  · have hd : decide (z < 0) = true := decide_eq_true hz
    have hn : ((n3 : Int) == 0) = false := by have := dig_length_pos.2 (show z.natAbs ≠ 0 by omega); simp; omega
    have HZ := Lib.hid hz
    rw [hd] at *
    clear hz e1 hd
    go_wp2
    go_ret
    exact ⟨ret_int (by rw [Int.sign_eq_neg_one_of_neg HZ.out]), (hk.set (by simp) _).set (by simp) _⟩
  · have hd : decide (z < 0) = false := decide_eq_false (by omega)
    have hn : ((n3 : Int) == 0) = true := by rw [hz] at e1; simp [dig_zero] at e1; simp; omega
    have HZ := Lib.hid hz
    rw [hd] at *
    clear hz e1 hd
    go_wp2
    go_ret
    exact ⟨ret_int (by rw [HZ.out]; rfl), (hk.set (by simp) _).set (by simp) _⟩
  · have hd : decide (z < 0) = false := decide_eq_false (by omega)
    have hn : ((n3 : Int) == 0) = false := by have := dig_length_pos.2 (show z.natAbs ≠ 0 by omega); simp; omega
    have HZ := Lib.hid hz
    rw [hd] at *
    clear hz e1 hd
    go_wp2
    go_ret
    exact ⟨ret_int (by rw [Int.sign_eq_one_of_pos HZ.out]), (hk.set (by simp) _).set (by simp) _⟩
end Go.Proofs.YtmochehkkadjnaaGreatDoor

namespace Go.Proofs.YtmochehkkadjnaaGreatDoor
open Go.RowKit Go.Shelf

set_option maxRecDepth 100000 in
set_option maxHeartbeats 400000 in
theorem rneg_any (neg : Bool) (xs : List Nat) (V : Value) (w : World) (h : IntArg w V neg xs) (hm : xs.length ≤ 1000000) :
    Calls Tryz.prog 118 #[V] w fun e w' => ∃ V, e = .returned V ∧ IntRep w' V (-cnt neg xs) ∧ Keeps w w' := by
  obtain ⟨v, rfl, hv⟩ := h
  have hml := mag_length neg xs
  rw [← cnt_abs] at hml
  have hkk := keep2 w (.cells #[.bool neg, v] 24) (.cells #[.bool false, .slice none 0 0] 24)
  have hB := (Own.new w 24 [.bool neg, v]).alloc (.cells #[.bool false, .slice none 0 0] 24)
  have hR := own2 w (.cells #[.bool neg, v] 24) 24 [.bool false, .slice none 0 0]
  have hG := Lib.hid (rvalue_any neg xs (.agg #[.bool neg, v]) _ ⟨v, rfl, hv.below hkk⟩ hm)
  generalize cnt neg xs = z at hG hml ⊢
  go_enter Tryz.func118, Tryz.ntmps118
  go_wp2_with fail
  refine hG.out.mono ?_
  rintro e w1 ⟨V3, rfl, hr3, hk1⟩
  obtain ⟨A3, n3, c3, rfl, hv3⟩ := hr3.open_
  have hB1 := hB.below hk1
  have hR1 := hR.below hk1
  have r0 := hB1.c0
  have r1 := hB1.c1
  have f0 := hB1.frozen 0
  have f1 := hB1.frozen 1
  have hk := hkk.trans' hk1
  have hB2 := hB1.two (.bool (decide (z < 0))) (.slice A3 n3 c3)
  have hR2 := hR1.far2 (R := w.heap.size) (by omega) (x := .bool (decide (z < 0))) (y := .slice A3 n3 c3)
  have s0 := hB2.c0
  have s1 := hB2.c1
  have hkm := ((hk.set (p := ⟨w.heap.size, 0, none⟩) (by simp) (.bool (decide (z < 0)))).set (p := ⟨w.heap.size, 1, none⟩) (by simp) (.slice A3 n3 c3))
  have hv4 : U32 ((w1.setCell ⟨w.heap.size, 0, none⟩ (.bool (decide (z < 0)))).setCell ⟨w.heap.size, 1, none⟩ (.slice A3 n3 c3)) (.slice A3 n3 c3) (dig z.natAbs) := by
    obtain ⟨v', e', h'⟩ := hr3.two (R := w.heap.size) (x' := .bool (decide (z < 0))) (y' := .slice A3 n3 c3) hB1 rfl (by obtain ⟨A', n', c', rfl, -⟩ := hv.open_; rfl) rfl
    cases e'
    exact h'
  go_wp2_with fail
  refine (rmade_d (!(decide (z < 0))) _ _ _ hv4 (by omega)).mono ?_
  rintro e w5 ⟨V5, rfl, hr5, hk5⟩
  obtain ⟨A5, n5, c5, rfl, hv5⟩ := hr5.open_
  have hR5 := hR2.below hk5
  have hk6 := Keeps.trans' hkm hk5
  have t0 := hR5.c0
  have t1 := hR5.c1
  have g0 := hR5.frozen 0
  have g1 := hR5.frozen 1
  obtain ⟨y, hy⟩ : ∃ y, sgn (!decide (z < 0)) z.natAbs = y := ⟨_, rfl⟩
  rw [hy] at hr5 hv5
  simp only [hy]
  have HY := Lib.hid hy
  clear hy
  go_wp2
  have hR6 := hR5.two (.bool (decide (y < 0))) (.slice A5 n5 c5)
  refine bodyPost_ret (v := .agg #[.bool (decide (y < 0)), .slice A5 n5 c5]) (by simp [results, Tryz.results118, go_sem, hR6.c0, hR6.c1]) rfl ?_
  refine ⟨_, rfl, ?_, (hk6.set (by simp) _).set (by simp) _⟩
  rw [show -z = y by rw [← HY.out, sgn_neg, sgn_of_rep]]
  exact hr5.two hR5 rfl rfl rfl

end Go.Proofs.YtmochehkkadjnaaGreatDoor
