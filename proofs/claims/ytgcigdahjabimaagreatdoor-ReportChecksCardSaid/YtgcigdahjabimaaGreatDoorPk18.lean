/- The reference's made and minus once more: what they hand back lies in a new row. -/
import Derived.Test.YtgcigdahjabimaaGreatDoorPk14
namespace Go.Proofs.YtgcigdahjabimaaGreatDoor
open Go.RowKit Go.Shelf

def NewA (w : World) (a : Option Addr) : Prop := ∀ b o i, a = some ⟨b, o, i⟩ → w.heap.size ≤ b
def NewV (w : World) (v : Value) : Prop := ∀ a n c, v = .slice a n c → NewA w a
def NewI (w : World) (V : Value) : Prop := ∀ x a n c, V = .agg #[x, .slice a n c] → NewA w a
theorem NewI.mk {w : World} {x : Value} {a : Option Addr} {n c : Nat} (h : NewA w a) : NewI w (.agg #[x, .slice a n c]) := fun x' a' n' c' e => by
 cases e; exact h
theorem NewI.v {w w0 : World} {x : Value} {a : Option Addr} {n c : Nat} (h : NewI w (.agg #[x, .slice a n c])) (hs : w0.heap.size ≤ w.heap.size) : NewV w0 (.slice a n c) := fun a' n' c' e b o i e2 => by
 cases e
 exact Nat.le_trans hs (h _ _ _ _ rfl b o i e2)
theorem NewA.of {w w0 : World} {base n c k : Nat} {t : TypeId} {A : Option Addr} {xs : List Value} (h : w.ownsRow base t 1 (.slice A n c) k xs) (hB : w0.heap.size ≤ base) : NewA w0 A := by
 intro b o i e
 rcases h.2 with ⟨e1, _⟩ | ⟨g, cap, cur, e1, hg, _⟩
 ·cases e1; cases e
 ·cases e1; cases e; omega
theorem U32.putNew {w w0 : World} {v : Value} {xs : List Nat} (h : U32 w v xs) (hn : NewV w0 v) {b : Nat} (hb : b < w0.heap.size) (i : Nat) (u : Value) : U32 (w.setCell ⟨b, i, none⟩ u) v xs := by
 obtain ⟨A, n, c, rfl, e, hc, hm, h0, hr⟩ := h.open_
 subst e
 refine U32.mk (fun hp => ?_) hc hm h0
 obtain ⟨b', o, rfl, hlt, hcell⟩ := hr hp
 have hne : b' ≠ b := by have := hn _ _ _ rfl b' o none rfl; omega
 exact ⟨b', o, rfl, by simpa [World.setCell] using hlt, fun j hj => (World.cell?_of_block (Below.heap_setCell w ⟨b, i, none⟩ u b' hne)).trans (hcell j hj)⟩

set_option maxRecDepth 100000 in
set_option maxHeartbeats 400000 in
theorem rmade_new (neg : Bool) (A : Option Addr) (n c : Nat) (xs : List Nat) (w : World) (e : xs.length = n) (h : Row w A n (u32 xs)) (ha : AllB xs) (hc : n ≤ c) (hm : n ≤ 4000000) (h0 : A = none → c = 0) :
 Calls Tryz.prog 100 #[.bool neg, .slice A n c] w fun e w' => ∃ V, e = .returned V ∧ IntRep w' V (sgn neg (val xs)) ∧ NewI w V ∧ Keeps w w' := by
 obtain ⟨i0, hi, hz0, hz1, hz2⟩ := info_parts info_u32
 have hkk := box2 w (.cells #[.bool false, .slice none 0 0] 29)
 have h1 := h.below hkk
 have hR := Own.new w 29 [.bool false, .slice none 0 0]
 have HE := Lib.hid e
 clear e
 cases A with
 | none =>
  obtain rfl := h0 rfl
  obtain rfl : n = 0 := by omega
  have hx0 : xs = [] := List.eq_nil_of_length_eq_zero HE.out
  subst hx0
  go_enter Tryz.func100, Tryz.ntmps100
  go_wp2
  refine wp_loop_rounds 1 ?_
  rw [rounds_succ]
  cases neg
  all_goals
   go_wp2_with (at_builtin; refine wpList_append_own_none rfl _ _ 27 rfl (w.heap.size + 1) 109 i0 1 Tryz.underlying27 hi _ 0 [] rfl (made2 w (.cells #[.bool false, .slice none 0 0] 29) 109) rfl ?_)
   refine bodyPost_ret (v := .agg #[.bool false, .slice (some ⟨w.heap.size + 1, 0, none⟩) 0 0]) (by simp [results, Tryz.results100, go_sem]) rfl ?_
   exact ⟨_, rfl, by simpa [val, sgn] using IntRep.of_nil (U32.empty _ _), NewI.mk (by intro b o i e; cases e; omega), keep2 _ _ _⟩
 | some ad =>
  go_enter Tryz.func100, Tryz.ntmps100
  go_wp2
  go_loop [5] (fun i => ∃ k : Nat, k ≤ n ∧ i = .int .i64 (k : Nat) ∧ trimL (xs.take k) = trimL xs) (fun i => (intOf i).toNat)
  case atStart => exact ⟨n, Nat.le_refl _, rfl, by rw [← HE.out]; simp⟩
  case round =>
   obtain ⟨k, hk, rfl, ht⟩ := hrel
   have HT := Lib.hid ht
   clear ht
   have step : ∀ (neg : Bool) (hz : k = 0 ∨ ix xs (k - 1) ≠ 0), xs.take k = dig (val xs) := by
    intro _ hz
    have ht := HT.out
    rw [trimL_of_last, trimL_eq ha] at ht
    ·exact ht
    ·intro hp
     rw [List.length_take, HE.out, Nat.min_eq_left hk, ix_take _ _ _ (by rw [List.length_take, HE.out] at hp; omega)]
     rcases hz with hz | hz
     ·subst hz; simp at hp
     ·exact hz
   have HF := Lib.hid step
   clear step
   rcases Nat.eq_zero_or_pos k with hk0 | hk0
   ·have hv : val xs = 0 := by
     have := HF.out neg (.inl hk0)
     rw [hk0, List.take_zero] at this
     exact dig_eq_nil.1 this.symm
    subst hk0
    have HV := Lib.hid hv
    clear hv
    cases neg
    all_goals
     go_wp2_with (at_builtin; refine wpList_append_row rfl _ _ 27 rfl (w.heap.size + 1) 109 i0 (.int .u32 0) 4 Tryz.underlying27 hi hz0 hz1 hz2 rfl (.slice (some ⟨w.heap.size + 1, 0, none⟩) 0 0) 0 [] rfl (made2 w (.cells #[.bool false, .slice none 0 0] 29) 109) _ _ _ (u32 xs) rfl (by intro h; cases h) (by omega) (Row.zero) (fun j => rfl) (by simp only [maxLen]; omega) (by omega) (by simp) ?_; intro v' w1 hown' hgrow; rw [List.nil_append, Nat.zero_add, u32s_take xs 0 (by omega)] at hown'; have hu := U32.of_own hown'; obtain ⟨A5, n5, c5, rfl, -⟩ := hu.open_; have hnew := NewA.of (w0 := w) hown' (by omega); have hR1 := ((hR.alloc (.cells #[] 109)).grown hgrow (by simp [Value.ownBlock])); have r0 := hR1.c0; have r1 := hR1.c1; have f0 := hR1.frozen 0; have f1 := hR1.frozen 1; have hk1 : Keeps w w1 := (hkk.alloc (by simp) _).grown hgrow (by simp; omega) (fun b e => by cases e; simp))
     have hR4 := hR1.two (.bool false) (.slice A5 n5 c5)
     refine bodyPost_ret (v := .agg #[.bool false, .slice A5 n5 c5]) (by simp [results, Tryz.results100, go_sem, hR4.c0, hR4.c1]) rfl ?_
     refine ⟨_, rfl, ?_, NewI.mk hnew, (hk1.set (Nat.le_refl _) _).set (Nat.le_refl _) _⟩
     rw [HV.out, sgn_zero]
     exact (IntRep.of_nil hu).two hR1 rfl rfl rfl
   ·obtain ⟨b, o, he, hb, hcell⟩ := h1 (by omega)
    cases he
    have hx : (w.alloc (.cells #[.bool false, .slice none 0 0] 29)).cell? ⟨b, o + (k - 1), none⟩ = some (.int .u32 (ix xs (k - 1) : Nat)) := hcell (k - 1) (by omega)
    clear hcell
    by_cases hz : ix xs (k - 1) = 0
    ·have hb0 : (((ix xs (k - 1) : Nat) : Int) == 0) = true := by simp [hz]
     have HZ := Lib.hid hz
     clear hz
     go_wp2
     go_round
     case rel => exact ⟨k - 1, by omega, by go_num, by rw [← HT.out, show xs.take k = xs.take (k - 1) ++ [0] by (have := take_snoc xs (k - 1) (by rw [HE.out]; omega)); rw [HZ.out, show k - 1 + 1 = k by omega] at this; exact this, trimL_snoc_zero]⟩
     case measure => simp [intOf]; omega
    ·have hb0 : (((ix xs (k - 1) : Nat) : Int) == 0) = false := by simpa using hz
     have HD := Lib.hid (HF.out neg (.inr hz))
     have hv0 : val xs ≠ 0 := by
      intro h0
      have hd := HD.out
      rw [h0, dig_zero] at hd
      have := congrArg List.length hd
      rw [List.length_take, HE.out] at this
      simp at this
      omega
     have HV := Lib.hid hv0
     clear hv0
     clear hz
     cases neg
     ·go_wp2_with (at_builtin; refine wpList_append_row rfl _ _ 27 rfl (w.heap.size + 1) 109 i0 (.int .u32 0) 4 Tryz.underlying27 hi hz0 hz1 hz2 rfl (.slice (some ⟨w.heap.size + 1, 0, none⟩) 0 0) 0 [] rfl (made2 w (.cells #[.bool false, .slice none 0 0] 29) 109) _ _ _ (u32 xs) rfl (by intro h; cases h) (by omega) ((h1.take hk).below (box2 _ _)) (fun j => rfl) (by simp only [maxLen]; omega) (by omega) (by simp) ?_; intro v' w1 hown' hgrow; rw [List.nil_append, Nat.zero_add, u32s_take xs k (by rw [HE.out]; exact hk)] at hown'; have hu := U32.of_own hown'; obtain ⟨A5, n5, c5, rfl, -⟩ := hu.open_; have hnew := NewA.of (w0 := w) hown' (by omega); have hR1 := ((hR.alloc (.cells #[] 109)).grown hgrow (by simp [Value.ownBlock])); have r0 := hR1.c0; have r1 := hR1.c1; have f0 := hR1.frozen 0; have f1 := hR1.frozen 1; have hk1 : Keeps w w1 := (hkk.alloc (by simp) _).grown hgrow (by simp; omega) (fun b e => by cases e; simp))
      have hR4 := hR1.two (.bool false) (.slice A5 n5 c5)
      refine bodyPost_ret (v := .agg #[.bool false, .slice A5 n5 c5]) (by simp [results, Tryz.results100, go_sem, hR4.c0, hR4.c1]) rfl ?_
      refine ⟨_, rfl, ?_, NewI.mk hnew, (hk1.set (Nat.le_refl _) _).set (Nat.le_refl _) _⟩
      exact (IntRep.mk (by rw [← HD.out]; exact hu) HV.out).two hR1 rfl rfl rfl
     ·go_wp2_with (at_builtin; refine wpList_append_row rfl _ _ 27 rfl (w.heap.size + 1) 109 i0 (.int .u32 0) 4 Tryz.underlying27 hi hz0 hz1 hz2 rfl (.slice (some ⟨w.heap.size + 1, 0, none⟩) 0 0) 0 [] rfl (made2 w (.cells #[.bool false, .slice none 0 0] 29) 109) _ _ _ (u32 xs) rfl (by intro h; cases h) (by omega) ((h1.take hk).below (box2 _ _)) (fun j => rfl) (by simp only [maxLen]; omega) (by omega) (by simp) ?_; intro v' w1 hown' hgrow; rw [List.nil_append, Nat.zero_add, u32s_take xs k (by rw [HE.out]; exact hk)] at hown'; have hu := U32.of_own hown'; obtain ⟨A5, n5, c5, rfl, -⟩ := hu.open_; have hnew := NewA.of (w0 := w) hown' (by omega); have hR1 := ((hR.alloc (.cells #[] 109)).grown hgrow (by simp [Value.ownBlock])); have r0 := hR1.c0; have r1 := hR1.c1; have f0 := hR1.frozen 0; have f1 := hR1.frozen 1; have hk1 : Keeps w w1 := (hkk.alloc (by simp) _).grown hgrow (by simp; omega) (fun b e => by cases e; simp))
      have hR4 := hR1.two (.bool true) (.slice A5 n5 c5)
      refine bodyPost_ret (v := .agg #[.bool true, .slice A5 n5 c5]) (by simp [results, Tryz.results100, go_sem, hR4.c0, hR4.c1]) rfl ?_
      refine ⟨_, rfl, ?_, NewI.mk hnew, (hk1.set (Nat.le_refl _) _).set (Nat.le_refl _) _⟩
      exact (IntRep.mk (by rw [← HD.out]; exact hu) HV.out).two hR1 rfl rfl rfl
theorem rmade_un (neg : Bool) (v : Value) (xs : List Nat) (w : World) (h : U32 w v xs) (ha : AllB xs) (hm : xs.length ≤ 4000000) :
 Calls Tryz.prog 100 #[.bool neg, v] w fun e w' => ∃ V, e = .returned V ∧ IntRep w' V (sgn neg (val xs)) ∧ NewI w V ∧ Keeps w w' := by
 obtain ⟨A, n, c, rfl, e, hc, -, h0, hr⟩ := h.open_
 exact rmade_new neg A n c xs w e hr ha hc (by omega) h0

set_option maxRecDepth 100000 in
set_option maxHeartbeats 1000000 in
theorem rminus_coren (A D : Option Addr) (n1 n2 c1 c2 : Nat) (xs ys : List Nat) (w : World) (e1 : xs.length = n1) (e2 : ys.length = n2) (h1 : U32 w (.slice A n1 c1) xs) (h2 : U32 w (.slice D n2 c2) ys)
 (ha : AllB xs) (hb : AllB ys) (hm1 : n1 ≤ 1000000) (hl : n2 ≤ n1) (hle : val ys ≤ val xs) :
 Calls Tryz.prog 103 #[.slice A n1 c1, .slice D n2 c2] w fun e w' => ∃ v, e = .returned v ∧ U32 w' v (dig (val xs - val ys)) ∧ NewV w v ∧ Keeps w w' := by
 obtain ⟨i0, hi, hz0, hz1, hz2⟩ := info_parts info_u32
 have HE1 := Lib.hid e1
 have HE2 := Lib.hid e2
 have HLE := Lib.hid hle
 clear e1 e2 hle
 go_enter Tryz.func103, Tryz.ntmps103
 go_wp2
 go_loopw [5, 6, 7] (fun g c i wr => ∃ (k cc : Nat) (out : List Nat), k ≤ n1 ∧ i = .int .i64 (k : Nat) ∧ c = .int .u64 (cc : Nat) ∧ cc ≤ 1 ∧ out.length = k ∧ AllB out ∧
  val out + val (ys.take k) = val (xs.take k) + cc * 1000000000 ^ k ∧ wr.ownsRow w.heap.size 109 1 g k (u32s out) ∧ Keeps w wr)
  (fun _ _ i _ => n1 - (intOf i).toNat)
 case atStart => exact ⟨0, 0, [], by omega, rfl, rfl, by omega, rfl, AllB.nil, by simp [val], made1 w _, box2 _ _⟩
 case round =>
  obtain ⟨k, cc, out, hkN, rfl, rfl, hcc, hol, hob, hval, hown1, hk1⟩ := hrel
  have HV := Lib.hid hval
  have HL := Lib.hid hol
  clear hval hol
  by_cases hlt : k < n1
  ·have hx : (ix xs k : Int) < 1000000000 := by have := ha.ix k; omega
   have hy : (ix ys k : Int) < 1000000000 := by have := hb.ix k; omega
   go_wp2_with fail
   refine (group_any _ xs k wr (h1.below hk1) ha (by rw [HE1.out]; omega) (by omega)).mono ?_
   rintro e w1 ⟨rfl, rfl⟩
   go_wp2_with fail
   refine (group_any _ ys k wr (h2.below hk1) hb (by rw [HE2.out]; omega) (by omega)).mono ?_
   rintro e w1 ⟨rfl, rfl⟩
   go_wp2_with (at_builtin; refine wpList_append_own _ rfl _ _ 27 rfl w.heap.size 109 i0 (.int .u32 0) 1 4 Tryz.underlying27 hi hz0 hz1 hz2 rfl (by decide) _ _ _ rfl (hown1.alloc _) ⟨wr.heap.size, 0, none⟩ 1 1 [.int .u32 ((1000000000 + (ix xs k : Nat) - (ix ys k : Nat) - (cc : Nat) : Int) % 1000000000)] rfl rfl (newcell _ _ _) (by simp [Value.oneCell']) (by simp only [maxLen]; omega) (by omega) (by have := hk1.size; simp; omega) ?_; intro v' w1 hown' hgrow _)
   rw [u32s_snoc out ((1000000000 + ix xs k - ix ys k - cc) % 1000000000) (by omega)] at hown'
   have hk2 : Keeps w w1 := (hk1.alloc hk1.size _).grown hgrow (by have := hk1.size; simp; omega) (fun b e => (hown1.lt b e).1)
   go_roundw
   case rel => exact ⟨k + 1, 1 - (1000000000 + ix xs k - ix ys k - cc) / 1000000000, out ++ [(1000000000 + ix xs k - ix ys k - cc) % 1000000000], by omega, by go_num, by congr 1 <;> omega, by omega, by simp [HL.out],
    hob.append (AllB.single (by omega)), rminus_step xs ys out k cc _ _ HL.out HV.out (by have := ha.ix k; have := hb.ix k; omega), hown', hk2⟩
   case measure => simp [intOf]; omega
  ·obtain rfl : k = n1 := by omega
   have hfin : val out = val xs - val ys := by
    have hv := HV.out
    rw [List.take_of_length_le (by rw [HE2.out]; exact hl), List.take_of_length_le (by rw [HE1.out]; exact Nat.le_refl _)] at hv
    have a := val_lt hob
    have b := val_lt ha
    rw [HL.out] at a
    rw [HE1.out] at b
    have := HLE.out
    have : cc = 0 ∨ cc = 1 := by omega
    rcases this with rfl | rfl <;> omega
   have HF := Lib.hid hfin
   clear hfin
   go_wp2_with fail
   refine (rmade_un false u5 out _ (U32.of_own hown1) hob (by rw [HL.out]; omega)).mono ?_
   rintro e w3 ⟨V3, rfl, hr3, hn3, hk3⟩
   obtain ⟨A3, n3, c3, rfl, hv3⟩ := hr3.open_
   have hfd := field_groups (.bool (decide (sgn false (val out) < 0))) (.slice A3 n3 c3)
   go_wp2
   go_ret
   refine ⟨_, rfl, ?_, hn3.v hk1.size, hk1.trans' hk3⟩
   rw [sgn_natAbs, HF.out] at hv3
   exact hv3

theorem rminus_dn (v1 v2 : Value) (a b : Nat) (w : World) (h1 : U32 w v1 (dig a)) (h2 : U32 w v2 (dig b)) (hm1 : (dig a).length ≤ 1000000) (hle : b ≤ a) :
 Calls Tryz.prog 103 #[v1, v2] w fun e w' => ∃ v, e = .returned v ∧ U32 w' v (dig (a - b)) ∧ NewV w v ∧ Keeps w w' := by
 obtain ⟨A, n, c, rfl, e1, -⟩ := h1.open_
 obtain ⟨D, m, d, rfl, e2, -⟩ := h2.open_
 have := rminus_coren A D n m c d _ _ w e1 e2 h1 h2 (AllB.dig a) (AllB.dig b) (by omega) (by have := dig_length_mono hle; omega) (by rw [val_dig, val_dig]; exact hle)
 rwa [val_dig, val_dig] at this
end Go.Proofs.YtgcigdahjabimaaGreatDoor
