/- The walk of the reference's scaled: a magnitude times a number below the base. The walk of the reference's shifted: a magnitude times the base, plus a group. The reference's made and minus once more: what they hand back lies in a new row. Arithmetic of the reference's parts. No program in sight. -/
import Derived.Test.YtgcigdahjabimaaGreatDoorPc15
namespace Go.Proofs.YtgcigdahjabimaaGreatDoor
open Go.RowKit Go.Shelf

theorem rscaled_step (xs out : List Nat) (k d cc s c : Nat) (hk : out.length = k) (hv : val out + cc * 1000000000 ^ k = val (xs.take k) * d)
 (e : s + c * 1000000000 = ix xs k * d + cc) :
 val (out ++ [s]) + c * 1000000000 ^ (k + 1) = val (xs.take (k + 1)) * d := by
 rw [val_snoc, hk, val_take_succ xs]
 have : (s + c * 1000000000) * 1000000000 ^ k = (ix xs k * d + cc) * 1000000000 ^ k := by rw [e]
 grind
theorem cast_sm (x d c : Nat) : ((x : Int) * (d : Int) + (c : Int)) % 1000000000 = (((x * d + c) % 1000000000 : Nat) : Int) := by
 rw [Int.natCast_emod, Int.natCast_add, Int.natCast_mul]; rfl
theorem cast_sd (x d c : Nat) : ((x : Int) * (d : Int) + (c : Int)) / 1000000000 = (((x * d + c) / 1000000000 : Nat) : Int) := by
 rw [Int.natCast_ediv, Int.natCast_add, Int.natCast_mul]; rfl

set_option maxRecDepth 100000 in
set_option maxHeartbeats 1000000 in
theorem rscaled_core (A : Option Addr) (n1 c1 : Nat) (xs : List Nat) (d : Nat) (w : World) (e1 : xs.length = n1) (h1 : U32 w (.slice A n1 c1) xs)
 (ha : AllB xs) (hm1 : n1 ≤ 1000000) (hd : d < 1000000000) :
 Calls Tryz.prog 150 #[.slice A n1 c1, .int .u64 (d : Nat)] w fun e w' => ∃ v, e = .returned v ∧ U32 w' v (dig (val xs * d)) ∧ Keeps w w' := by
 obtain ⟨i0, hi, hz0, hz1, hz2⟩ := info_parts info_u32
 obtain ⟨A', n', c', ee, -, -, -, -, r1⟩ := h1.open_
 cases ee
 have HE1 := Lib.hid e1
 have HD := Lib.hid hd
 have hdI : (d : Int) < 1000000000 := by omega
 clear e1 hd
 go_enter Tryz.func150, Tryz.ntmps150
 go_wp2
 go_loopw [5, 6, 7] (fun g c i wr => ∃ (k cc : Nat) (out : List Nat), k ≤ n1 ∧ i = .int .i64 (k : Nat) ∧ c = .int .u64 (cc : Nat) ∧ cc < 1000000000 ∧ out.length = k ∧ AllB out ∧
  val out + cc * 1000000000 ^ k = val (xs.take k) * d ∧ wr.ownsRow w.heap.size 109 1 g k (u32s out) ∧ Keeps w wr)
  (fun _ _ i _ => n1 - (intOf i).toNat)
 case atStart => exact ⟨0, 0, [], by omega, rfl, rfl, by omega, rfl, AllB.nil, by simp [val], made1 w _, box2 _ _⟩
 case round =>
  obtain ⟨k, cc, out, hkN, rfl, rfl, hcc, hol, hob, hval, hown1, hk1⟩ := hrel
  have HV := Lib.hid hval
  have HL := Lib.hid hol
  clear hval hol
  have hccI : (cc : Int) < 1000000000 := by omega
  by_cases hlt : k < n1
  ·obtain ⟨b1, o1, rfl, hb1, hcell⟩ := (r1.below hk1) (by omega)
   have hxc : wr.cell? ⟨b1, o1 + k, none⟩ = some (.int .u32 (ix xs k : Nat)) := hcell k hlt
   have hx : (ix xs k : Int) < 1000000000 := by have := ha.ix k; omega
   have hp := mul_lt_base _ _ (ha.ix k) HD.out
   have hpq : ((ix xs k : Nat) : Int) * ((d : Nat) : Int) ≤ 999999998000000001 := by rw [← Int.natCast_mul]; omega
   have hpq0 : (0 : Int) ≤ ((ix xs k : Nat) : Int) * ((d : Nat) : Int) := by rw [← Int.natCast_mul]; omega
   have i1 : (k : Int) < n1 := by omega
   have i4 : (0 : Int) ≤ (k : Int) := by omega
   have HP := Lib.hid hp
   clear hcell hp
   go_wp2_with (at_builtin; refine wpList_append_own _ rfl _ _ 27 rfl w.heap.size 109 i0 (.int .u32 0) 1 4 Tryz.underlying27 hi hz0 hz1 hz2 rfl (by decide) _ _ _ rfl (hown1.alloc _) ⟨wr.heap.size, 0, none⟩ 1 1 [.int .u32 ((((ix xs k : Nat) : Int) * ((d : Nat) : Int) + (cc : Nat)) % 1000000000)] rfl rfl (newcell _ _ _) (by simp [Value.oneCell']) (by simp only [maxLen]; omega) (by omega) (by have := hk1.size; simp; omega) ?_; intro v' w1 hown' hgrow _)
   rw [u32s_snoc out ((ix xs k * d + cc) % 1000000000) (cast_sm _ _ _)] at hown'
   have hk2 : Keeps w w1 := (hk1.alloc hk1.size _).grown hgrow (by have := hk1.size; simp; omega) (fun b e => (hown1.lt b e).1)
   go_roundw
   case rel => exact ⟨k + 1, (ix xs k * d + cc) / 1000000000, out ++ [(ix xs k * d + cc) % 1000000000], by omega, by go_num, congrArg (Value.int .u64) (cast_sd _ _ _), by have := HP.out; omega, by simp [HL.out],
    hob.append (AllB.single (by omega)), rscaled_step xs out k d cc _ _ HL.out HV.out (by omega), hown', hk2⟩
   case measure => simp [intOf]; omega
  ·obtain rfl : k = n1 := by omega
   have hfin : val (out ++ [cc]) = val xs * d := by
    have := HV.out
    rw [List.take_of_length_le (by rw [HE1.out]; exact Nat.le_refl _)] at this
    rw [val_snoc, HL.out]; exact this
   have HF := Lib.hid hfin
   clear hfin
   go_wp2_with (at_builtin; refine wpList_append_own _ rfl _ _ 27 rfl w.heap.size 109 i0 (.int .u32 0) 1 4 Tryz.underlying27 hi hz0 hz1 hz2 rfl (by decide) _ _ _ rfl (hown1.alloc _) ⟨wr.heap.size, 0, none⟩ 1 1 [.int .u32 (cc : Nat)] rfl rfl (newcell _ _ _) (by simp [Value.oneCell']) (by simp only [maxLen]; omega) (by omega) (by have := hk1.size; simp; omega) ?_; intro v' w1 hown' hgrow _)
   rw [u32s_snoc out cc rfl] at hown'
   have hk2 : Keeps w w1 := (hk1.alloc hk1.size _).grown hgrow (by have := hk1.size; simp; omega) (fun b e => (hown1.lt b e).1)
   refine (rmade_u false v' _ _ (U32.of_own hown') (hob.append (AllB.single hcc)) (by simp [HL.out]; omega)).mono ?_
   rintro e w3 ⟨V3, rfl, hr3, hk3⟩
   obtain ⟨A3, n3, c3, rfl, hv3⟩ := hr3.open_
   have hfd := field_groups (.bool (decide (sgn false (val (out ++ [cc])) < 0))) (.slice A3 n3 c3)
   go_wp2
   go_ret
   refine ⟨_, rfl, ?_, hk2.trans' hk3⟩
   rw [sgn_natAbs, HF.out] at hv3
   exact hv3
theorem rscaled_d (v : Value) (a d : Nat) (w : World) (h : U32 w v (dig a)) (hm : (dig a).length ≤ 1000000) (hd : d < 1000000000) :
 Calls Tryz.prog 150 #[v, .int .u64 (d : Nat)] w fun e w' => ∃ v', e = .returned v' ∧ U32 w' v' (dig (a * d)) ∧ Keeps w w' := by
 obtain ⟨A, n, c, rfl, e, -, -, -, -⟩ := h.open_
 refine (rscaled_core A n c (dig a) d w e h (AllB.dig a) (by omega) hd).mono ?_
 rintro e w' ⟨v', rfl, hv, hk⟩
 exact ⟨v', rfl, by rwa [val_dig] at hv, hk⟩
theorem val_shift (a d : Nat) : val (d :: dig a) = a * 1000000000 + d := by
 show d + 1000000000 * val (dig a) = _
 rw [val_dig]; omega
theorem made_one (w : World) (t : TypeId) (x : Nat) : (w.alloc (.cells #[.int .u32 (x : Nat)] t)).ownsRow w.heap.size t 1 (.slice (some ⟨w.heap.size, 0, none⟩) 1 1) 1 (u32s [x]) :=
 ⟨by simp [u32s], .inr ⟨w.heap.size, 1, #[.int .u32 (x : Nat)], rfl, Nat.le_refl _, heap_alloc_new w _, by omega, by simp [maxLen], by simp, by simp [u32s]⟩⟩

set_option maxRecDepth 100000 in
set_option maxHeartbeats 1000000 in
theorem rshifted_any (v : Value) (a d : Nat) (w : World) (h : U32 w v (dig a)) (hm : (dig a).length ≤ 1000000) (hd : d < 1000000000) :
 Calls Tryz.prog 151 #[v, .int .u32 (d : Nat)] w fun e w' => ∃ v', e = .returned v' ∧ U32 w' v' (dig (a * 1000000000 + d)) ∧ Keeps w w' := by
 obtain ⟨i0, hi, hz0, hz1, hz2⟩ := info_parts info_u32
 obtain ⟨A, n, c, rfl, e1, hc, -, h0, r1⟩ := h.open_
 have hn : n ≤ 1000000 := by omega
 have HE := Lib.hid e1
 clear e1
 go_enter Tryz.func151, Tryz.ntmps151
 go_wp2_with (at_builtin; refine wpList_append_row rfl _ _ 27 rfl w.heap.size 109 i0 (.int .u32 0) 4 Tryz.underlying27 hi hz0 hz1 hz2 rfl (.slice (some ⟨w.heap.size, 0, none⟩) 1 1) 1 (u32s [d]) rfl (made_one w 109 d) A n c (u32 (dig a)) rfl h0 hc (r1.below (box2 _ _)) (fun j => rfl) (by simp only [maxLen]; omega) (by omega) (by simp) ?_; intro v' w1 hown' hgrow)
 rw [show u32s [d] ++ (List.range n).map (u32 (dig a)) = u32s (d :: dig a) by rw [← HE.out, u32s_range]; simp [u32s]] at hown'
 have hk2 : Keeps w w1 := (box2 w _).grown hgrow (by simp) (fun b e => by cases e; exact Nat.le_refl _)
 refine (rmade_u false v' (d :: dig a) _ (U32.of_own hown') (AllB.cons hd (AllB.dig a)) (by simp; omega)).mono ?_
 rintro e w3 ⟨V3, rfl, hr3, hk3⟩
 obtain ⟨A3, n3, c3, rfl, hv3⟩ := hr3.open_
 have hfd := field_groups (.bool (decide (sgn false (val (d :: dig a)) < 0))) (.slice A3 n3 c3)
 go_wp2
 go_ret
 refine ⟨_, rfl, ?_, hk2.trans' hk3⟩
 rw [sgn_natAbs, val_shift] at hv3
 exact hv3
def NewA (w : World) (a : Option Addr) : Prop := ∀ b o i, a = some ⟨b, o, i⟩ → w.heap.size ≤ b
def NewV (w : World) (v : Value) : Prop := ∀ a n c, v = .slice a n c → NewA w a
def NewI (w : World) (V : Value) : Prop := ∀ x a n c, V = .agg #[x, .slice a n c] → NewA w a
theorem NewI.mk {w : World} {x : Value} {a : Option Addr} {n c : Nat} (h : NewA w a) : NewI w (.agg #[x, .slice a n c]) := fun x' a' n' c' e => by
 cases e; exact h
theorem NewI.v {w w0 : World} {x : Value} {a : Option Addr} {n c : Nat} (h : NewI w (.agg #[x, .slice a n c])) (hs : w0.heap.size ≤ w.heap.size) : NewV w0 (.slice a n c) := fun a' n' c' e b o i e2 => by
 cases e
 exact Nat.le_trans hs (h _ _ _ _ rfl b o i e2)
theorem NewA.of {w w0 : World} {base n c k : Nat} {t : TypeId} {A : Option Addr} {xs : List Value} (h : w.ownsRow base t 1 (.slice A n c) k xs) (hB : w0.heap.size ≤ base) : NewA w0 A := by
 intro b o i e
 rcases h.2 with ⟨e1, _⟩ | ⟨g, cap, cur, e1, hg, _⟩
 ·cases e1; cases e
 ·cases e1; cases e; omega
theorem U32.putNew {w w0 : World} {v : Value} {xs : List Nat} (h : U32 w v xs) (hn : NewV w0 v) {b : Nat} (hb : b < w0.heap.size) (i : Nat) (u : Value) : U32 (w.setCell ⟨b, i, none⟩ u) v xs := by
 obtain ⟨A, n, c, rfl, e, hc, hm, h0, hr⟩ := h.open_
 subst e
 refine U32.mk (fun hp => ?_) hc hm h0
 obtain ⟨b', o, rfl, hlt, hcell⟩ := hr hp
 have hne : b' ≠ b := by have := hn _ _ _ rfl b' o none rfl; omega
 exact ⟨b', o, rfl, by simpa [World.setCell] using hlt, fun j hj => (World.cell?_of_block (Below.heap_setCell w ⟨b, i, none⟩ u b' hne)).trans (hcell j hj)⟩

set_option maxRecDepth 100000 in
set_option maxHeartbeats 400000 in
theorem rmade_new (neg : Bool) (A : Option Addr) (n c : Nat) (xs : List Nat) (w : World) (e : xs.length = n) (h : Row w A n (u32 xs)) (ha : AllB xs) (hc : n ≤ c) (hm : n ≤ 4000000) (h0 : A = none → c = 0) :
 Calls Tryz.prog 100 #[.bool neg, .slice A n c] w fun e w' => ∃ V, e = .returned V ∧ IntRep w' V (sgn neg (val xs)) ∧ NewI w V ∧ Keeps w w' := by
 obtain ⟨i0, hi, hz0, hz1, hz2⟩ := info_parts info_u32
 have hkk := box2 w (.cells #[.bool false, .slice none 0 0] 29)
 have h1 := h.below hkk
 have hR := Own.new w 29 [.bool false, .slice none 0 0]
 have HE := Lib.hid e
 clear e
 cases A with
 | none =>
  obtain rfl := h0 rfl
  obtain rfl : n = 0 := by omega
  have hx0 : xs = [] := List.eq_nil_of_length_eq_zero HE.out
  subst hx0
  go_enter Tryz.func100, Tryz.ntmps100
  go_wp2
  refine wp_loop_rounds 1 ?_
  rw [rounds_succ]
  cases neg
  all_goals
   go_wp2_with (at_builtin; refine wpList_append_own_none rfl _ _ 27 rfl (w.heap.size + 1) 109 i0 1 Tryz.underlying27 hi _ 0 [] rfl (made2 w (.cells #[.bool false, .slice none 0 0] 29) 109) rfl ?_)
   refine bodyPost_ret (v := .agg #[.bool false, .slice (some ⟨w.heap.size + 1, 0, none⟩) 0 0]) (by simp [results, Tryz.results100, go_sem]) rfl ?_
   exact ⟨_, rfl, by simpa [val, sgn] using IntRep.of_nil (U32.empty _ _), NewI.mk (by intro b o i e; cases e; omega), keep2 _ _ _⟩
 | some ad =>
  go_enter Tryz.func100, Tryz.ntmps100
  go_wp2
  go_loop [5] (fun i => ∃ k : Nat, k ≤ n ∧ i = .int .i64 (k : Nat) ∧ trimL (xs.take k) = trimL xs) (fun i => (intOf i).toNat)
  case atStart => exact ⟨n, Nat.le_refl _, rfl, by rw [← HE.out]; simp⟩
  case round =>
   obtain ⟨k, hk, rfl, ht⟩ := hrel
   have HT := Lib.hid ht
   clear ht
   have step : ∀ (neg : Bool) (hz : k = 0 ∨ ix xs (k - 1) ≠ 0), xs.take k = dig (val xs) := by
    intro _ hz
    have ht := HT.out
    rw [trimL_of_last, trimL_eq ha] at ht
    ·exact ht
    ·intro hp
     rw [List.length_take, HE.out, Nat.min_eq_left hk, ix_take _ _ _ (by rw [List.length_take, HE.out] at hp; omega)]
     rcases hz with hz | hz
     ·subst hz; simp at hp
     ·exact hz
   have HF := Lib.hid step
   clear step
   rcases Nat.eq_zero_or_pos k with hk0 | hk0
   ·have hv : val xs = 0 := by
     have := HF.out neg (.inl hk0)
     rw [hk0, List.take_zero] at this
     exact dig_eq_nil.1 this.symm
    subst hk0
    have HV := Lib.hid hv
    clear hv
    cases neg
    all_goals
     go_wp2_with (at_builtin; refine wpList_append_row rfl _ _ 27 rfl (w.heap.size + 1) 109 i0 (.int .u32 0) 4 Tryz.underlying27 hi hz0 hz1 hz2 rfl (.slice (some ⟨w.heap.size + 1, 0, none⟩) 0 0) 0 [] rfl (made2 w (.cells #[.bool false, .slice none 0 0] 29) 109) _ _ _ (u32 xs) rfl (by intro h; cases h) (by omega) (Row.zero) (fun j => rfl) (by simp only [maxLen]; omega) (by omega) (by simp) ?_; intro v' w1 hown' hgrow; rw [List.nil_append, Nat.zero_add, u32s_take xs 0 (by omega)] at hown'; have hu := U32.of_own hown'; obtain ⟨A5, n5, c5, rfl, -⟩ := hu.open_; have hnew := NewA.of (w0 := w) hown' (by omega); have hR1 := ((hR.alloc (.cells #[] 109)).grown hgrow (by simp [Value.ownBlock])); have r0 := hR1.c0; have r1 := hR1.c1; have f0 := hR1.frozen 0; have f1 := hR1.frozen 1; have hk1 : Keeps w w1 := (hkk.alloc (by simp) _).grown hgrow (by simp; omega) (fun b e => by cases e; simp))
     have hR4 := hR1.two (.bool false) (.slice A5 n5 c5)
     refine bodyPost_ret (v := .agg #[.bool false, .slice A5 n5 c5]) (by simp [results, Tryz.results100, go_sem, hR4.c0, hR4.c1]) rfl ?_
     refine ⟨_, rfl, ?_, NewI.mk hnew, (hk1.set (Nat.le_refl _) _).set (Nat.le_refl _) _⟩
     rw [HV.out, sgn_zero]
     exact (IntRep.of_nil hu).two hR1 rfl rfl rfl
   ·obtain ⟨b, o, he, hb, hcell⟩ := h1 (by omega)
    cases he
    have hx : (w.alloc (.cells #[.bool false, .slice none 0 0] 29)).cell? ⟨b, o + (k - 1), none⟩ = some (.int .u32 (ix xs (k - 1) : Nat)) := hcell (k - 1) (by omega)
    clear hcell
    by_cases hz : ix xs (k - 1) = 0
    ·have hb0 : (((ix xs (k - 1) : Nat) : Int) == 0) = true := by simp [hz]
     have HZ := Lib.hid hz
     clear hz
     go_wp2
     go_round
     case rel => exact ⟨k - 1, by omega, by go_num, by rw [← HT.out, show xs.take k = xs.take (k - 1) ++ [0] by (have := take_snoc xs (k - 1) (by rw [HE.out]; omega)); rw [HZ.out, show k - 1 + 1 = k by omega] at this; exact this, trimL_snoc_zero]⟩
     case measure => simp [intOf]; omega
    ·have hb0 : (((ix xs (k - 1) : Nat) : Int) == 0) = false := by simpa using hz
     have HD := Lib.hid (HF.out neg (.inr hz))
     have hv0 : val xs ≠ 0 := by
      intro h0
      have hd := HD.out
      rw [h0, dig_zero] at hd
      have := congrArg List.length hd
      rw [List.length_take, HE.out] at this
      simp at this
      omega
     have HV := Lib.hid hv0
     clear hv0
     clear hz
     cases neg
     ·go_wp2_with (at_builtin; refine wpList_append_row rfl _ _ 27 rfl (w.heap.size + 1) 109 i0 (.int .u32 0) 4 Tryz.underlying27 hi hz0 hz1 hz2 rfl (.slice (some ⟨w.heap.size + 1, 0, none⟩) 0 0) 0 [] rfl (made2 w (.cells #[.bool false, .slice none 0 0] 29) 109) _ _ _ (u32 xs) rfl (by intro h; cases h) (by omega) ((h1.take hk).below (box2 _ _)) (fun j => rfl) (by simp only [maxLen]; omega) (by omega) (by simp) ?_; intro v' w1 hown' hgrow; rw [List.nil_append, Nat.zero_add, u32s_take xs k (by rw [HE.out]; exact hk)] at hown'; have hu := U32.of_own hown'; obtain ⟨A5, n5, c5, rfl, -⟩ := hu.open_; have hnew := NewA.of (w0 := w) hown' (by omega); have hR1 := ((hR.alloc (.cells #[] 109)).grown hgrow (by simp [Value.ownBlock])); have r0 := hR1.c0; have r1 := hR1.c1; have f0 := hR1.frozen 0; have f1 := hR1.frozen 1; have hk1 : Keeps w w1 := (hkk.alloc (by simp) _).grown hgrow (by simp; omega) (fun b e => by cases e; simp))
      have hR4 := hR1.two (.bool false) (.slice A5 n5 c5)
      refine bodyPost_ret (v := .agg #[.bool false, .slice A5 n5 c5]) (by simp [results, Tryz.results100, go_sem, hR4.c0, hR4.c1]) rfl ?_
      refine ⟨_, rfl, ?_, NewI.mk hnew, (hk1.set (Nat.le_refl _) _).set (Nat.le_refl _) _⟩
      exact (IntRep.mk (by rw [← HD.out]; exact hu) HV.out).two hR1 rfl rfl rfl
     ·go_wp2_with (at_builtin; refine wpList_append_row rfl _ _ 27 rfl (w.heap.size + 1) 109 i0 (.int .u32 0) 4 Tryz.underlying27 hi hz0 hz1 hz2 rfl (.slice (some ⟨w.heap.size + 1, 0, none⟩) 0 0) 0 [] rfl (made2 w (.cells #[.bool false, .slice none 0 0] 29) 109) _ _ _ (u32 xs) rfl (by intro h; cases h) (by omega) ((h1.take hk).below (box2 _ _)) (fun j => rfl) (by simp only [maxLen]; omega) (by omega) (by simp) ?_; intro v' w1 hown' hgrow; rw [List.nil_append, Nat.zero_add, u32s_take xs k (by rw [HE.out]; exact hk)] at hown'; have hu := U32.of_own hown'; obtain ⟨A5, n5, c5, rfl, -⟩ := hu.open_; have hnew := NewA.of (w0 := w) hown' (by omega); have hR1 := ((hR.alloc (.cells #[] 109)).grown hgrow (by simp [Value.ownBlock])); have r0 := hR1.c0; have r1 := hR1.c1; have f0 := hR1.frozen 0; have f1 := hR1.frozen 1; have hk1 : Keeps w w1 := (hkk.alloc (by simp) _).grown hgrow (by simp; omega) (fun b e => by cases e; simp))
      have hR4 := hR1.two (.bool true) (.slice A5 n5 c5)
      refine bodyPost_ret (v := .agg #[.bool true, .slice A5 n5 c5]) (by simp [results, Tryz.results100, go_sem, hR4.c0, hR4.c1]) rfl ?_
      refine ⟨_, rfl, ?_, NewI.mk hnew, (hk1.set (Nat.le_refl _) _).set (Nat.le_refl _) _⟩
      exact (IntRep.mk (by rw [← HD.out]; exact hu) HV.out).two hR1 rfl rfl rfl
theorem rmade_un (neg : Bool) (v : Value) (xs : List Nat) (w : World) (h : U32 w v xs) (ha : AllB xs) (hm : xs.length ≤ 4000000) :
 Calls Tryz.prog 100 #[.bool neg, v] w fun e w' => ∃ V, e = .returned V ∧ IntRep w' V (sgn neg (val xs)) ∧ NewI w V ∧ Keeps w w' := by
 obtain ⟨A, n, c, rfl, e, hc, -, h0, hr⟩ := h.open_
 exact rmade_new neg A n c xs w e hr ha hc (by omega) h0

set_option maxRecDepth 100000 in
set_option maxHeartbeats 1000000 in
theorem rminus_coren (A D : Option Addr) (n1 n2 c1 c2 : Nat) (xs ys : List Nat) (w : World) (e1 : xs.length = n1) (e2 : ys.length = n2) (h1 : U32 w (.slice A n1 c1) xs) (h2 : U32 w (.slice D n2 c2) ys)
 (ha : AllB xs) (hb : AllB ys) (hm1 : n1 ≤ 1000000) (hl : n2 ≤ n1) (hle : val ys ≤ val xs) :
 Calls Tryz.prog 103 #[.slice A n1 c1, .slice D n2 c2] w fun e w' => ∃ v, e = .returned v ∧ U32 w' v (dig (val xs - val ys)) ∧ NewV w v ∧ Keeps w w' := by
 obtain ⟨i0, hi, hz0, hz1, hz2⟩ := info_parts info_u32
 have HE1 := Lib.hid e1
 have HE2 := Lib.hid e2
 have HLE := Lib.hid hle
 clear e1 e2 hle
 go_enter Tryz.func103, Tryz.ntmps103
 go_wp2
 go_loopw [5, 6, 7] (fun g c i wr => ∃ (k cc : Nat) (out : List Nat), k ≤ n1 ∧ i = .int .i64 (k : Nat) ∧ c = .int .u64 (cc : Nat) ∧ cc ≤ 1 ∧ out.length = k ∧ AllB out ∧
  val out + val (ys.take k) = val (xs.take k) + cc * 1000000000 ^ k ∧ wr.ownsRow w.heap.size 109 1 g k (u32s out) ∧ Keeps w wr)
  (fun _ _ i _ => n1 - (intOf i).toNat)
 case atStart => exact ⟨0, 0, [], by omega, rfl, rfl, by omega, rfl, AllB.nil, by simp [val], made1 w _, box2 _ _⟩
 case round =>
  obtain ⟨k, cc, out, hkN, rfl, rfl, hcc, hol, hob, hval, hown1, hk1⟩ := hrel
  have HV := Lib.hid hval
  have HL := Lib.hid hol
  clear hval hol
  by_cases hlt : k < n1
  ·have hx : (ix xs k : Int) < 1000000000 := by have := ha.ix k; omega
   have hy : (ix ys k : Int) < 1000000000 := by have := hb.ix k; omega
   go_wp2_with fail
   refine (group_any _ xs k wr (h1.below hk1) ha (by rw [HE1.out]; omega) (by omega)).mono ?_
   rintro e w1 ⟨rfl, rfl⟩
   go_wp2_with fail
   refine (group_any _ ys k wr (h2.below hk1) hb (by rw [HE2.out]; omega) (by omega)).mono ?_
   rintro e w1 ⟨rfl, rfl⟩
   go_wp2_with (at_builtin; refine wpList_append_own _ rfl _ _ 27 rfl w.heap.size 109 i0 (.int .u32 0) 1 4 Tryz.underlying27 hi hz0 hz1 hz2 rfl (by decide) _ _ _ rfl (hown1.alloc _) ⟨wr.heap.size, 0, none⟩ 1 1 [.int .u32 ((1000000000 + (ix xs k : Nat) - (ix ys k : Nat) - (cc : Nat) : Int) % 1000000000)] rfl rfl (newcell _ _ _) (by simp [Value.oneCell']) (by simp only [maxLen]; omega) (by omega) (by have := hk1.size; simp; omega) ?_; intro v' w1 hown' hgrow _)
   rw [u32s_snoc out ((1000000000 + ix xs k - ix ys k - cc) % 1000000000) (by omega)] at hown'
   have hk2 : Keeps w w1 := (hk1.alloc hk1.size _).grown hgrow (by have := hk1.size; simp; omega) (fun b e => (hown1.lt b e).1)
   go_roundw
   case rel => exact ⟨k + 1, 1 - (1000000000 + ix xs k - ix ys k - cc) / 1000000000, out ++ [(1000000000 + ix xs k - ix ys k - cc) % 1000000000], by omega, by go_num, by congr 1 <;> omega, by omega, by simp [HL.out],
    hob.append (AllB.single (by omega)), rminus_step xs ys out k cc _ _ HL.out HV.out (by have := ha.ix k; have := hb.ix k; omega), hown', hk2⟩
   case measure => simp [intOf]; omega
  ·obtain rfl : k = n1 := by omega
   have hfin : val out = val xs - val ys := by
    have hv := HV.out
    rw [List.take_of_length_le (by rw [HE2.out]; exact hl), List.take_of_length_le (by rw [HE1.out]; exact Nat.le_refl _)] at hv
    have a := val_lt hob
    have b := val_lt ha
    rw [HL.out] at a
    rw [HE1.out] at b
    have := HLE.out
    have : cc = 0 ∨ cc = 1 := by omega
    rcases this with rfl | rfl <;> omega
   have HF := Lib.hid hfin
   clear hfin
   go_wp2_with fail
   refine (rmade_un false u5 out _ (U32.of_own hown1) hob (by rw [HL.out]; omega)).mono ?_
   rintro e w3 ⟨V3, rfl, hr3, hn3, hk3⟩
   obtain ⟨A3, n3, c3, rfl, hv3⟩ := hr3.open_
   have hfd := field_groups (.bool (decide (sgn false (val out) < 0))) (.slice A3 n3 c3)
   go_wp2
   go_ret
   refine ⟨_, rfl, ?_, hn3.v hk1.size, hk1.trans' hk3⟩
   rw [sgn_natAbs, HF.out] at hv3
   exact hv3

theorem rminus_dn (v1 v2 : Value) (a b : Nat) (w : World) (h1 : U32 w v1 (dig a)) (h2 : U32 w v2 (dig b)) (hm1 : (dig a).length ≤ 1000000) (hle : b ≤ a) :
 Calls Tryz.prog 103 #[v1, v2] w fun e w' => ∃ v, e = .returned v ∧ U32 w' v (dig (a - b)) ∧ NewV w v ∧ Keeps w w' := by
 obtain ⟨A, n, c, rfl, e1, -⟩ := h1.open_
 obtain ⟨D, m, d, rfl, e2, -⟩ := h2.open_
 have := rminus_coren A D n m c d _ _ w e1 e2 h1 h2 (AllB.dig a) (AllB.dig b) (by omega) (by have := dig_length_mono hle; omega) (by rw [val_dig, val_dig]; exact hle)
 rwa [val_dig, val_dig] at this
end Go.Proofs.YtgcigdahjabimaaGreatDoor
namespace Go.Proofs.YtgcigdahjabimaaGreatDoor

theorem val_drop_dig (w i : Nat) : val ((dig w).drop i) = w / 1000000000 ^ i := by
 have h := wv_rest (dig w) 0 i
 rw [List.drop_zero, val_dig, wv_low, Nat.zero_add] at h
 have hl : val ((dig w).take i) < 1000000000 ^ i := by rw [← wv_low]; exact wv_lt (AllB.dig w) 0 i
 have hp : 0 < 1000000000 ^ i := Nat.pow_pos (by omega)
 have e : w / 1000000000 ^ i = (val ((dig w).take i) + 1000000000 ^ i * val ((dig w).drop i)) / 1000000000 ^ i := congrArg (· / 1000000000 ^ i) h
 rw [e, Nat.add_mul_div_left _ _ hp, Nat.div_eq_of_lt hl, Nat.zero_add]
theorem two_groups {w n : Nat} (hn : 1 ≤ n) (hw : w < 1000000000 ^ (n + 1)) : ix (dig w) n * 1000000000 + ix (dig w) (n - 1) = w / 1000000000 ^ (n - 1) := by
 have h := wv_rest (dig w) (n - 1) 2
 rw [val_drop_dig, wv_succ, wv_succ, wv_zero, show n - 1 + 2 = n + 1 by omega, show n - 1 + 1 = n by omega, Nat.add_zero, val_drop_dig, Nat.div_eq_of_lt hw] at h
 omega
theorem one_group {y n : Nat} (hn : 1 ≤ n) (hy : y < 1000000000 ^ n) : ix (dig y) (n - 1) = y / 1000000000 ^ (n - 1) := by
 have h := wv_rest (dig y) (n - 1) 1
 rw [val_drop_dig, wv_succ, wv_zero, show n - 1 + 1 = n by omega, Nat.add_zero, val_drop_dig, Nat.div_eq_of_lt hy] at h
 omega
theorem guess_le {w y P : Nat} (hP : 0 < P) : (w / P) / (y / P + 1) * y ≤ w := by
 have h1 : y ≤ (y / P + 1) * P := by have := Nat.lt_div_mul_add (a := y) hP; rw [Nat.add_mul]; omega
 calc (w / P) / (y / P + 1) * y ≤ (w / P) / (y / P + 1) * ((y / P + 1) * P) := Nat.mul_le_mul_left _ h1
  _ = (w / P) / (y / P + 1) * (y / P + 1) * P := (Nat.mul_assoc _ _ _).symm
  _ ≤ w / P * P := Nat.mul_le_mul_right _ (Nat.div_mul_le_self _ _)
  _ ≤ w := Nat.div_mul_le_self _ _
theorem guess_lt {g w y : Nat} (h : g * y ≤ w) (hw : w < y * 1000000000) : g < 1000000000 := by
 apply Nat.lt_of_mul_lt_mul_right (a := y)
 rw [Nat.mul_comm 1000000000]; omega
theorem guess_done {g w y : Nat} (h : g * y ≤ w) (hw : w - g * y < y) : g = w / y ∧ w - g * y = w % y :=
 div_of (by omega) hw
theorem factor_facts {y n f : Nat} (hn : 1 ≤ n) (hl : (dig y).length = n) (hy0 : y ≠ 0) (hf : f = 1000000000 / (ix (dig y) (n - 1) + 1)) :
 1 ≤ f ∧ f ≤ 500000000 ∧ (dig (y * f)).length = n := by
 have hlt : y < 1000000000 ^ n := by have := dig_lt y; rwa [hl] at this
 have hge := dig_ge hy0
 rw [hl] at hge
 have htop := dig_last hy0
 rw [hl] at htop
 have htb := (AllB.dig y).ix (n - 1)
 have h1 := one_group hn hlt
 have hP : 0 < 1000000000 ^ (n - 1) := Nat.pow_pos (by omega)
 generalize hg : ix (dig y) (n - 1) = g at *
 have hff : f * (g + 1) ≤ 1000000000 := by rw [hf]; exact Nat.div_mul_le_self _ _
 have hf1 : 1 ≤ f := by rw [hf]; exact (Nat.le_div_iff_mul_le (by omega)).2 (by omega)
 refine ⟨hf1, ?_, ?_⟩
 ·have h2 : f * 2 ≤ f * (g + 1) := Nat.mul_le_mul_left _ (by omega)
  omega
 ·have hup : y * f < 1000000000 ^ n := by
   have h2 : y < (g + 1) * 1000000000 ^ (n - 1) := by
    rw [h1, Nat.add_mul]; have := Nat.lt_div_mul_add (a := y) hP; omega
   have h3 : (g + 1) * f ≤ 1000000000 := by rw [Nat.mul_comm]; exact hff
   calc y * f < (g + 1) * 1000000000 ^ (n - 1) * f := Nat.mul_lt_mul_of_pos_right h2 hf1
    _ = (g + 1) * f * 1000000000 ^ (n - 1) := by rw [Nat.mul_assoc, Nat.mul_comm (1000000000 ^ (n - 1)) f, Nat.mul_assoc]
    _ ≤ 1000000000 * 1000000000 ^ (n - 1) := Nat.mul_le_mul_right _ h3
    _ = 1000000000 ^ n := by rw [Nat.mul_comm, ← Nat.pow_succ, Nat.succ_eq_add_one, Nat.sub_add_cancel hn]
  have := dig_length_le hup
  have h4 : y ≤ y * f := Nat.le_mul_of_pos_right _ hf1
  have := dig_length_mono h4
  omega
theorem part_step {xs q : List Nat} {t Y r w g : Nat} (hY : 0 < Y) (ht : t < xs.length) (hq : t < q.length)
 (hr : r = val (xs.drop (t + 1)) % Y) (hv : val (q.drop (t + 1)) = val (xs.drop (t + 1)) / Y) (hw : w = r * 1000000000 + ix xs t) (hg : g = w / Y) :
 val ((q.set t g).drop t) = val (xs.drop t) / Y ∧ w % Y = val (xs.drop t) % Y := by
 have hx := val_drop xs t ht
 have e : xs.drop t = xs.drop t := rfl
 have hd : val ((q.set t g).drop t) = g + 1000000000 * val (q.drop (t + 1)) := by
  rw [val_drop _ t (by rw [List.length_set]; exact hq)]
  rw [ix_set _ _ _ _ hq, if_pos rfl, List.drop_set_of_lt (by omega)]
 have hm := Nat.div_add_mod (val (xs.drop (t + 1))) Y
 have hX : val (xs.drop t) = w + Y * (1000000000 * (val (xs.drop (t + 1)) / Y)) := by
  rw [hx, hw, hr]
  have h5 : val (xs.drop (t + 1)) * 1000000000 = (Y * (val (xs.drop (t + 1)) / Y) + val (xs.drop (t + 1)) % Y) * 1000000000 := by rw [hm]
  have h6 : Y * (1000000000 * (val (xs.drop (t + 1)) / Y)) = Y * (val (xs.drop (t + 1)) / Y) * 1000000000 := by rw [Nat.mul_comm 1000000000, Nat.mul_assoc]
  rw [h6]
  rw [Nat.add_mul] at h5
  omega
 constructor
 ·rw [hd, hv, hX, Nat.add_mul_div_left _ _ hY, hg]
 ·rw [hX, Nat.add_mul_mod_self_left]
theorem part_end {X Y f : Nat} (hf : 1 ≤ f) : X * f / (Y * f) = X / Y ∧ X * f % (Y * f) / f = X % Y := by
 constructor
 ·exact Nat.mul_div_mul_right _ _ hf
 ·rw [Nat.mul_mod_mul_right, Nat.mul_div_cancel _ hf]
end Go.Proofs.YtgcigdahjabimaaGreatDoor
