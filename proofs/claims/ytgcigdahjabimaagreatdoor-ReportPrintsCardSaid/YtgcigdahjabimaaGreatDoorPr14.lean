/- The reference's made and minus once more: what they hand back lies in a new row. The walk of the reference's parts: quotient and remainder of two magnitudes. -/
import Derived.Test.YtgcigdahjabimaaGreatDoorPr11
import Derived.Test.YtgcigdahjabimaaGreatDoorPr13
namespace Go.Proofs.YtgcigdahjabimaaGreatDoor
open Go.RowKit Go.Shelf

def NewA (w : World) (a : Option Addr) : Prop := ∀ b o i, a = some ⟨b, o, i⟩ → w.heap.size ≤ b
def NewV (w : World) (v : Value) : Prop := ∀ a n c, v = .slice a n c → NewA w a
def NewI (w : World) (V : Value) : Prop := ∀ x a n c, V = .agg #[x, .slice a n c] → NewA w a
theorem NewI.mk {w : World} {x : Value} {a : Option Addr} {n c : Nat} (h : NewA w a) : NewI w (.agg #[x, .slice a n c]) := fun x' a' n' c' e => by
 cases e; exact h
theorem NewI.v {w w0 : World} {x : Value} {a : Option Addr} {n c : Nat} (h : NewI w (.agg #[x, .slice a n c])) (hs : w0.heap.size ≤ w.heap.size) : NewV w0 (.slice a n c) := fun a' n' c' e b o i e2 => by
 cases e
 exact Nat.le_trans hs (h _ _ _ _ rfl b o i e2)
theorem NewA.of {w w0 : World} {base n c k : Nat} {t : TypeId} {A : Option Addr} {xs : List Value} (h : w.ownsRow base t 1 (.slice A n c) k xs) (hB : w0.heap.size ≤ base) : NewA w0 A := by
 intro b o i e
 rcases h.2 with ⟨e1, _⟩ | ⟨g, cap, cur, e1, hg, _⟩
 ·cases e1; cases e
 ·cases e1; cases e; omega
theorem U32.putNew {w w0 : World} {v : Value} {xs : List Nat} (h : U32 w v xs) (hn : NewV w0 v) {b : Nat} (hb : b < w0.heap.size) (i : Nat) (u : Value) : U32 (w.setCell ⟨b, i, none⟩ u) v xs := by
 obtain ⟨A, n, c, rfl, e, hc, hm, h0, hr⟩ := h.open_
 subst e
 refine U32.mk (fun hp => ?_) hc hm h0
 obtain ⟨b', o, rfl, hlt, hcell⟩ := hr hp
 have hne : b' ≠ b := by have := hn _ _ _ rfl b' o none rfl; omega
 exact ⟨b', o, rfl, by simpa [World.setCell] using hlt, fun j hj => (World.cell?_of_block (Below.heap_setCell w ⟨b, i, none⟩ u b' hne)).trans (hcell j hj)⟩

set_option maxRecDepth 100000 in
set_option maxHeartbeats 400000 in
theorem rmade_new (neg : Bool) (A : Option Addr) (n c : Nat) (xs : List Nat) (w : World) (e : xs.length = n) (h : Row w A n (u32 xs)) (ha : AllB xs) (hc : n ≤ c) (hm : n ≤ 4000000) (h0 : A = none → c = 0) :
 Calls Tryz.prog 100 #[.bool neg, .slice A n c] w fun e w' => ∃ V, e = .returned V ∧ IntRep w' V (sgn neg (val xs)) ∧ NewI w V ∧ Keeps w w' := by
 obtain ⟨i0, hi, hz0, hz1, hz2⟩ := info_parts info_u32
 have hkk := box2 w (.cells #[.bool false, .slice none 0 0] 29)
 have h1 := h.below hkk
 have hR := Own.new w 29 [.bool false, .slice none 0 0]
 have HE := Lib.hid e
 clear e
 cases A with
 | none =>
  obtain rfl := h0 rfl
  obtain rfl : n = 0 := by omega
  have hx0 : xs = [] := List.eq_nil_of_length_eq_zero HE.out
  subst hx0
  go_enter Tryz.func100, Tryz.ntmps100
  go_wp2
  refine wp_loop_rounds 1 ?_
  rw [rounds_succ]
  cases neg
  all_goals
   go_wp2_with (at_builtin; refine wpList_append_own_none rfl _ _ 27 rfl (w.heap.size + 1) 109 i0 1 Tryz.underlying27 hi _ 0 [] rfl (made2 w (.cells #[.bool false, .slice none 0 0] 29) 109) rfl ?_)
   refine bodyPost_ret (v := .agg #[.bool false, .slice (some ⟨w.heap.size + 1, 0, none⟩) 0 0]) (by simp [results, Tryz.results100, go_sem]) rfl ?_
   exact ⟨_, rfl, by simpa [val, sgn] using IntRep.of_nil (U32.empty _ _), NewI.mk (by intro b o i e; cases e; omega), keep2 _ _ _⟩
 | some ad =>
  go_enter Tryz.func100, Tryz.ntmps100
  go_wp2
  go_loop [5] (fun i => ∃ k : Nat, k ≤ n ∧ i = .int .i64 (k : Nat) ∧ trimL (xs.take k) = trimL xs) (fun i => (intOf i).toNat)
  case atStart => exact ⟨n, Nat.le_refl _, rfl, by rw [← HE.out]; simp⟩
  case round =>
   obtain ⟨k, hk, rfl, ht⟩ := hrel
   have HT := Lib.hid ht
   clear ht
   have step : ∀ (neg : Bool) (hz : k = 0 ∨ ix xs (k - 1) ≠ 0), xs.take k = dig (val xs) := by
    intro _ hz
    have ht := HT.out
    rw [trimL_of_last, trimL_eq ha] at ht
    ·exact ht
    ·intro hp
     rw [List.length_take, HE.out, Nat.min_eq_left hk, ix_take _ _ _ (by rw [List.length_take, HE.out] at hp; omega)]
     rcases hz with hz | hz
     ·subst hz; simp at hp
     ·exact hz
   have HF := Lib.hid step
   clear step
   rcases Nat.eq_zero_or_pos k with hk0 | hk0
   ·have hv : val xs = 0 := by
     have := HF.out neg (.inl hk0)
     rw [hk0, List.take_zero] at this
     exact dig_eq_nil.1 this.symm
    subst hk0
    have HV := Lib.hid hv
    clear hv
    cases neg
    all_goals
     go_wp2_with (at_builtin; refine wpList_append_row rfl _ _ 27 rfl (w.heap.size + 1) 109 i0 (.int .u32 0) 4 Tryz.underlying27 hi hz0 hz1 hz2 rfl (.slice (some ⟨w.heap.size + 1, 0, none⟩) 0 0) 0 [] rfl (made2 w (.cells #[.bool false, .slice none 0 0] 29) 109) _ _ _ (u32 xs) rfl (by intro h; cases h) (by omega) (Row.zero) (fun j => rfl) (by simp only [maxLen]; omega) (by omega) (by simp) ?_; intro v' w1 hown' hgrow; rw [List.nil_append, Nat.zero_add, u32s_take xs 0 (by omega)] at hown'; have hu := U32.of_own hown'; obtain ⟨A5, n5, c5, rfl, -⟩ := hu.open_; have hnew := NewA.of (w0 := w) hown' (by omega); have hR1 := ((hR.alloc (.cells #[] 109)).grown hgrow (by simp [Value.ownBlock])); have r0 := hR1.c0; have r1 := hR1.c1; have f0 := hR1.frozen 0; have f1 := hR1.frozen 1; have hk1 : Keeps w w1 := (hkk.alloc (by simp) _).grown hgrow (by simp; omega) (fun b e => by cases e; simp))
     have hR4 := hR1.two (.bool false) (.slice A5 n5 c5)
     refine bodyPost_ret (v := .agg #[.bool false, .slice A5 n5 c5]) (by simp [results, Tryz.results100, go_sem, hR4.c0, hR4.c1]) rfl ?_
     refine ⟨_, rfl, ?_, NewI.mk hnew, (hk1.set (Nat.le_refl _) _).set (Nat.le_refl _) _⟩
     rw [HV.out, sgn_zero]
     exact (IntRep.of_nil hu).two hR1 rfl rfl rfl
   ·obtain ⟨b, o, he, hb, hcell⟩ := h1 (by omega)
    cases he
    have hx : (w.alloc (.cells #[.bool false, .slice none 0 0] 29)).cell? ⟨b, o + (k - 1), none⟩ = some (.int .u32 (ix xs (k - 1) : Nat)) := hcell (k - 1) (by omega)
    clear hcell
    by_cases hz : ix xs (k - 1) = 0
    ·have hb0 : (((ix xs (k - 1) : Nat) : Int) == 0) = true := by simp [hz]
     have HZ := Lib.hid hz
     clear hz
     go_wp2
     go_round
     case rel => exact ⟨k - 1, by omega, by go_num, by rw [← HT.out, show xs.take k = xs.take (k - 1) ++ [0] by (have := take_snoc xs (k - 1) (by rw [HE.out]; omega)); rw [HZ.out, show k - 1 + 1 = k by omega] at this; exact this, trimL_snoc_zero]⟩
     case measure => simp [intOf]; omega
    ·have hb0 : (((ix xs (k - 1) : Nat) : Int) == 0) = false := by simpa using hz
     have HD := Lib.hid (HF.out neg (.inr hz))
     have hv0 : val xs ≠ 0 := by
      intro h0
      have hd := HD.out
      rw [h0, dig_zero] at hd
      have := congrArg List.length hd
      rw [List.length_take, HE.out] at this
      simp at this
      omega
     have HV := Lib.hid hv0
     clear hv0
     clear hz
     cases neg
     ·go_wp2_with (at_builtin; refine wpList_append_row rfl _ _ 27 rfl (w.heap.size + 1) 109 i0 (.int .u32 0) 4 Tryz.underlying27 hi hz0 hz1 hz2 rfl (.slice (some ⟨w.heap.size + 1, 0, none⟩) 0 0) 0 [] rfl (made2 w (.cells #[.bool false, .slice none 0 0] 29) 109) _ _ _ (u32 xs) rfl (by intro h; cases h) (by omega) ((h1.take hk).below (box2 _ _)) (fun j => rfl) (by simp only [maxLen]; omega) (by omega) (by simp) ?_; intro v' w1 hown' hgrow; rw [List.nil_append, Nat.zero_add, u32s_take xs k (by rw [HE.out]; exact hk)] at hown'; have hu := U32.of_own hown'; obtain ⟨A5, n5, c5, rfl, -⟩ := hu.open_; have hnew := NewA.of (w0 := w) hown' (by omega); have hR1 := ((hR.alloc (.cells #[] 109)).grown hgrow (by simp [Value.ownBlock])); have r0 := hR1.c0; have r1 := hR1.c1; have f0 := hR1.frozen 0; have f1 := hR1.frozen 1; have hk1 : Keeps w w1 := (hkk.alloc (by simp) _).grown hgrow (by simp; omega) (fun b e => by cases e; simp))
      have hR4 := hR1.two (.bool false) (.slice A5 n5 c5)
      refine bodyPost_ret (v := .agg #[.bool false, .slice A5 n5 c5]) (by simp [results, Tryz.results100, go_sem, hR4.c0, hR4.c1]) rfl ?_
      refine ⟨_, rfl, ?_, NewI.mk hnew, (hk1.set (Nat.le_refl _) _).set (Nat.le_refl _) _⟩
      exact (IntRep.mk (by rw [← HD.out]; exact hu) HV.out).two hR1 rfl rfl rfl
     ·go_wp2_with (at_builtin; refine wpList_append_row rfl _ _ 27 rfl (w.heap.size + 1) 109 i0 (.int .u32 0) 4 Tryz.underlying27 hi hz0 hz1 hz2 rfl (.slice (some ⟨w.heap.size + 1, 0, none⟩) 0 0) 0 [] rfl (made2 w (.cells #[.bool false, .slice none 0 0] 29) 109) _ _ _ (u32 xs) rfl (by intro h; cases h) (by omega) ((h1.take hk).below (box2 _ _)) (fun j => rfl) (by simp only [maxLen]; omega) (by omega) (by simp) ?_; intro v' w1 hown' hgrow; rw [List.nil_append, Nat.zero_add, u32s_take xs k (by rw [HE.out]; exact hk)] at hown'; have hu := U32.of_own hown'; obtain ⟨A5, n5, c5, rfl, -⟩ := hu.open_; have hnew := NewA.of (w0 := w) hown' (by omega); have hR1 := ((hR.alloc (.cells #[] 109)).grown hgrow (by simp [Value.ownBlock])); have r0 := hR1.c0; have r1 := hR1.c1; have f0 := hR1.frozen 0; have f1 := hR1.frozen 1; have hk1 : Keeps w w1 := (hkk.alloc (by simp) _).grown hgrow (by simp; omega) (fun b e => by cases e; simp))
      have hR4 := hR1.two (.bool true) (.slice A5 n5 c5)
      refine bodyPost_ret (v := .agg #[.bool true, .slice A5 n5 c5]) (by simp [results, Tryz.results100, go_sem, hR4.c0, hR4.c1]) rfl ?_
      refine ⟨_, rfl, ?_, NewI.mk hnew, (hk1.set (Nat.le_refl _) _).set (Nat.le_refl _) _⟩
      exact (IntRep.mk (by rw [← HD.out]; exact hu) HV.out).two hR1 rfl rfl rfl
theorem rmade_un (neg : Bool) (v : Value) (xs : List Nat) (w : World) (h : U32 w v xs) (ha : AllB xs) (hm : xs.length ≤ 4000000) :
 Calls Tryz.prog 100 #[.bool neg, v] w fun e w' => ∃ V, e = .returned V ∧ IntRep w' V (sgn neg (val xs)) ∧ NewI w V ∧ Keeps w w' := by
 obtain ⟨A, n, c, rfl, e, hc, -, h0, hr⟩ := h.open_
 exact rmade_new neg A n c xs w e hr ha hc (by omega) h0

set_option maxRecDepth 100000 in
set_option maxHeartbeats 1000000 in
theorem rminus_coren (A D : Option Addr) (n1 n2 c1 c2 : Nat) (xs ys : List Nat) (w : World) (e1 : xs.length = n1) (e2 : ys.length = n2) (h1 : U32 w (.slice A n1 c1) xs) (h2 : U32 w (.slice D n2 c2) ys)
 (ha : AllB xs) (hb : AllB ys) (hm1 : n1 ≤ 1000000) (hl : n2 ≤ n1) (hle : val ys ≤ val xs) :
 Calls Tryz.prog 103 #[.slice A n1 c1, .slice D n2 c2] w fun e w' => ∃ v, e = .returned v ∧ U32 w' v (dig (val xs - val ys)) ∧ NewV w v ∧ Keeps w w' := by
 obtain ⟨i0, hi, hz0, hz1, hz2⟩ := info_parts info_u32
 have HE1 := Lib.hid e1
 have HE2 := Lib.hid e2
 have HLE := Lib.hid hle
 clear e1 e2 hle
 go_enter Tryz.func103, Tryz.ntmps103
 go_wp2
 go_loopw [5, 6, 7] (fun g c i wr => ∃ (k cc : Nat) (out : List Nat), k ≤ n1 ∧ i = .int .i64 (k : Nat) ∧ c = .int .u64 (cc : Nat) ∧ cc ≤ 1 ∧ out.length = k ∧ AllB out ∧
  val out + val (ys.take k) = val (xs.take k) + cc * 1000000000 ^ k ∧ wr.ownsRow w.heap.size 109 1 g k (u32s out) ∧ Keeps w wr)
  (fun _ _ i _ => n1 - (intOf i).toNat)
 case atStart => exact ⟨0, 0, [], by omega, rfl, rfl, by omega, rfl, AllB.nil, by simp [val], made1 w _, box2 _ _⟩
 case round =>
  obtain ⟨k, cc, out, hkN, rfl, rfl, hcc, hol, hob, hval, hown1, hk1⟩ := hrel
  have HV := Lib.hid hval
  have HL := Lib.hid hol
  clear hval hol
  by_cases hlt : k < n1
  ·have hx : (ix xs k : Int) < 1000000000 := by have := ha.ix k; omega
   have hy : (ix ys k : Int) < 1000000000 := by have := hb.ix k; omega
   go_wp2_with fail
   refine (group_any _ xs k wr (h1.below hk1) ha (by rw [HE1.out]; omega) (by omega)).mono ?_
   rintro e w1 ⟨rfl, rfl⟩
   go_wp2_with fail
   refine (group_any _ ys k wr (h2.below hk1) hb (by rw [HE2.out]; omega) (by omega)).mono ?_
   rintro e w1 ⟨rfl, rfl⟩
   go_wp2_with (at_builtin; refine wpList_append_own _ rfl _ _ 27 rfl w.heap.size 109 i0 (.int .u32 0) 1 4 Tryz.underlying27 hi hz0 hz1 hz2 rfl (by decide) _ _ _ rfl (hown1.alloc _) ⟨wr.heap.size, 0, none⟩ 1 1 [.int .u32 ((1000000000 + (ix xs k : Nat) - (ix ys k : Nat) - (cc : Nat) : Int) % 1000000000)] rfl rfl (newcell _ _ _) (by simp [Value.oneCell']) (by simp only [maxLen]; omega) (by omega) (by have := hk1.size; simp; omega) ?_; intro v' w1 hown' hgrow _)
   rw [u32s_snoc out ((1000000000 + ix xs k - ix ys k - cc) % 1000000000) (by omega)] at hown'
   have hk2 : Keeps w w1 := (hk1.alloc hk1.size _).grown hgrow (by have := hk1.size; simp; omega) (fun b e => (hown1.lt b e).1)
   go_roundw
   case rel => exact ⟨k + 1, 1 - (1000000000 + ix xs k - ix ys k - cc) / 1000000000, out ++ [(1000000000 + ix xs k - ix ys k - cc) % 1000000000], by omega, by go_num, by congr 1 <;> omega, by omega, by simp [HL.out],
    hob.append (AllB.single (by omega)), rminus_step xs ys out k cc _ _ HL.out HV.out (by have := ha.ix k; have := hb.ix k; omega), hown', hk2⟩
   case measure => simp [intOf]; omega
  ·obtain rfl : k = n1 := by omega
   have hfin : val out = val xs - val ys := by
    have hv := HV.out
    rw [List.take_of_length_le (by rw [HE2.out]; exact hl), List.take_of_length_le (by rw [HE1.out]; exact Nat.le_refl _)] at hv
    have a := val_lt hob
    have b := val_lt ha
    rw [HL.out] at a
    rw [HE1.out] at b
    have := HLE.out
    have : cc = 0 ∨ cc = 1 := by omega
    rcases this with rfl | rfl <;> omega
   have HF := Lib.hid hfin
   clear hfin
   go_wp2_with fail
   refine (rmade_un false u5 out _ (U32.of_own hown1) hob (by rw [HL.out]; omega)).mono ?_
   rintro e w3 ⟨V3, rfl, hr3, hn3, hk3⟩
   obtain ⟨A3, n3, c3, rfl, hv3⟩ := hr3.open_
   have hfd := field_groups (.bool (decide (sgn false (val out) < 0))) (.slice A3 n3 c3)
   go_wp2
   go_ret
   refine ⟨_, rfl, ?_, hn3.v hk1.size, hk1.trans' hk3⟩
   rw [sgn_natAbs, HF.out] at hv3
   exact hv3

theorem rminus_dn (v1 v2 : Value) (a b : Nat) (w : World) (h1 : U32 w v1 (dig a)) (h2 : U32 w v2 (dig b)) (hm1 : (dig a).length ≤ 1000000) (hle : b ≤ a) :
 Calls Tryz.prog 103 #[v1, v2] w fun e w' => ∃ v, e = .returned v ∧ U32 w' v (dig (a - b)) ∧ NewV w v ∧ Keeps w w' := by
 obtain ⟨A, n, c, rfl, e1, -⟩ := h1.open_
 obtain ⟨D, m, d, rfl, e2, -⟩ := h2.open_
 have := rminus_coren A D n m c d _ _ w e1 e2 h1 h2 (AllB.dig a) (AllB.dig b) (by omega) (by have := dig_length_mono hle; omega) (by rw [val_dig, val_dig]; exact hle)
 rwa [val_dig, val_dig] at this
theorem group_z (v : Value) (xs : List Nat) (i : Nat) (z : Int) (w : World) (ez : z = (i : Nat)) (h : U32 w v xs) (ha : AllB xs) (hm : xs.length ≤ 1000000000) (hi : i ≤ 1000000000) :
 Calls Tryz.prog 139 #[v, .int .i64 z] w fun e w' => e = .returned (.int .u64 (ix xs i : Nat)) ∧ w' = w := by
 subst ez
 exact (group_any v xs i w h ha hm hi).mono fun _ _ ⟨h1, h2⟩ => ⟨h1, h2.symm⟩

set_option maxRecDepth 100000 in
set_option maxHeartbeats 1000000 in
theorem rparts_one (v1 v2 : Value) (a b : Nat) (w : World) (h1 : U32 w v1 (dig a)) (h2 : U32 w v2 (dig b)) (hl1 : (dig a).length ≤ 900000) (hb : (dig b).length = 1) :
 Calls Tryz.prog 108 #[v1, v2] w (DivRes a b w) := by
 obtain ⟨hb0, hbB, hb1⟩ := dig_one hb
 obtain ⟨A1, n1, c1, rfl, e1, -, -, -, r1⟩ := h1.open_
 obtain ⟨A2, n, c2, rfl, e2, -, -, -, r2⟩ := h2.open_
 obtain rfl : n = 1 := by omega
 obtain ⟨b2, o2, rfl, hbl2, hcell⟩ := r2 (by omega)
 have hx : w.cell? ⟨b2, o2, none⟩ = some (.int .u32 (b : Nat)) := by
  have := hcell 0 (by omega)
  rw [hb1] at this
  exact this
 have hbI : (b : Int) < 1000000000 := by omega
 have hS := Lib.hid (fun W (k : Keeps w W) => rshort_any (.slice A1 n1 c1) a b W (h1.below k) (by omega) hb0 (by omega))
 have hrb := Nat.mod_lt a hb0
 obtain ⟨R, hR⟩ : ∃ R, a % b = R := ⟨_, rfl⟩
 rw [hR] at hS hrb
 have HR := Lib.hid hR
 have HB := Lib.hid hb0
 clear hR hcell hb1 hb e1 e2 hb0
 have hRI : (R : Int) < 1000000000 := by omega
 go_enter Tryz.func108, Tryz.ntmps108
 go_wp2_with fail
 refine (hS.out w bl).mono ?_
 rintro e w1 ⟨q, rfl, hq, hk1⟩
 go_wp2_with fail
 refine (rmade_u false (.slice (some ⟨w1.heap.size, 0, none⟩) 1 1) [R] (w1.alloc (.cells #[.int .u32 (R : Nat)] 109)) (U32.of_own (made_one w1 109 R)) (AllB.single (by omega)) (by simp)).mono ?_
 rintro e w3 ⟨V3, rfl, hr3, hk3⟩
 obtain ⟨A3, n3, c3, rfl, hv3⟩ := hr3.open_
 have hfd := field_groups (.bool (decide (sgn false (val [R]) < 0))) (.slice A3 n3 c3)
 go_wp2
 go_ret2
 have hk13 : Keeps w1 w3 := (box2 w1 _).trans' hk3
 refine ⟨_, _, rfl, hq.below hk13, ?_, hk1.trans' hk13⟩
 rw [sgn_natAbs, show val [R] = R by simp [val]] at hv3
 rw [HR.out]
 exact hv3

set_option maxRecDepth 100000 in
set_option maxHeartbeats 2000000 in
theorem rparts_any (v1 v2 : Value) (a b : Nat) (w : World) (h1 : U32 w v1 (dig a)) (h2 : U32 w v2 (dig b)) (hl1 : (dig a).length ≤ 900000) (hl2 : (dig b).length ≤ 900000) (hb : b ≠ 0) :
 Calls Tryz.prog 108 #[v1, v2] w (DivRes a b w) := by
 have hbp := dig_length_pos.2 hb
 rcases Nat.lt_or_ge 1 (dig b).length with hlen | hlen
 rotate_left
 ·exact rparts_one v1 v2 a b w h1 h2 hl1 (by omega)
 obtain ⟨A1, n1, c1, rfl, e1, -, -, -, r1⟩ := h1.open_
 obtain ⟨A2, n, c2, rfl, e2, -, -, -, r2⟩ := h2.open_
 obtain ⟨s, hs⟩ : ∃ s, ((a : Int) - b).sign = s := ⟨_, rfl⟩
 have hL := lt_sign a b
 rw [hs] at hL
 have hc := size_any _ _ a b w h1 h2 (by omega) (by omega)
 rw [hs] at hc
 have hc := Lib.hid hc
 have hn2 : 2 ≤ n := by omega
 have hnb : n ≤ 900000 := by omega
 have hn1 : ((n : Int) == 1) = false := by simp; omega
 clear hs
 rcases hL with ⟨hL, hs⟩ | ⟨hL, hs⟩
 ·have hd : decide (s < 0) = true := decide_eq_true hs
  have HL := Lib.hid hL
  clear hL e1 e2 hlen
  go_enter Tryz.func108, Tryz.ntmps108
  go_wp2_with fail
  refine hc.out.mono ?_
  rintro e w1 ⟨rfl, hk1⟩
  go_wp2
  go_ret2
  have hk2 : Keeps w1 (w1.alloc (.cells #[] 109)) := box2 w1 _
  exact ⟨_, _, rfl, by rw [Nat.div_eq_of_lt HL.out, dig_zero]; exact U32.empty _ _, by rw [Nat.mod_eq_of_lt HL.out]; exact (h1.below hk1).below hk2, hk1.trans' hk2⟩
 ·have hd : decide (s < 0) = false := decide_eq_false (by omega)
  have hx := fun W (hk : Keeps w W) => (r2.below hk) (by omega)
  have hff := fun f hf => factor_facts (f := f) (show 1 ≤ n by omega) e2 hb hf
  have htb := (AllB.dig b).ix (n - 1)
  obtain ⟨b2, o2, rfl, hbl2, hcell⟩ := r2 (by omega)
  have hcb := fun W (hk : Keeps w W) => by
   have := hcell (n - 1) (by omega)
   rw [← (bcell hk).1 b2 _ hbl2] at this
   exact this
  obtain ⟨y, hy⟩ : ∃ y, ix (dig b) (n - 1) = y := ⟨_, rfl⟩
  rw [hy] at htb hff
  obtain ⟨f, hf⟩ : ∃ f, f = 1000000000 / (y + 1) := ⟨_, rfl⟩
  obtain ⟨hf1, hf2, hYl⟩ := hff f hf
  have HC := Lib.hid hcb
  have HY := Lib.hid hy
  have HF := Lib.hid hf
  have HE1 := Lib.hid e1
  have HE2 := Lib.hid e2
  have HL := Lib.hid hL
  clear hcb hy hx hff hcell hL e1 e2 hlen hf
  have yI : (y : Int) < 1000000000 := by omega
  have fI : (f : Int) ≤ 500000000 := by omega
  have fe : (1000000000 : Int) / ((y : Int) + 1) = (f : Int) := by rw [HF.out, Int.natCast_ediv]; rfl
  go_enter Tryz.func108, Tryz.ntmps108
  go_wp2_with fail
  refine hc.out.mono ?_
  rintro e w1 ⟨rfl, hk1⟩
  have hx : w1.cell? ⟨b2, o2 + (n - 1), none⟩ = some (.int .u32 (y : Nat)) := by have := HC.out w1 hk1; rw [u32, HY.out] at this; exact this
  go_wp2_with fail
  refine (rscaled_d (.slice A1 n1 c1) a f w1 (h1.below hk1) (by omega) (by omega)).mono ?_
  rintro e w2 ⟨X2, rfl, hX2, hk2⟩
  go_wp2_with fail
  refine (rscaled_d _ b f w2 ((h2.below hk1).below hk2) (by omega) (by omega)).mono ?_
  rintro e w3 ⟨Y3, rfl, hY3, hk3⟩
  have hX3 := hX2.below hk3
  have hw3 := (hk1.trans' hk2).trans' hk3
  have hpe := part_end (X := a) (Y := b) hf1
  have hYX : b * f ≤ a * f := Nat.mul_le_mul_right _ HL.out
  have hY0 : 0 < b * f := Nat.mul_pos (by omega) hf1
  have hXl : (dig (a * f)).length ≤ 900001 := by
   have h5 := dig_length_mul a f
   have h6 : (dig f).length ≤ 1 := dig_length_le (k := 1) (by omega)
   omega
  have hYXl := dig_length_mono hYX
  obtain ⟨X, hXe⟩ : ∃ X, a * f = X := ⟨_, rfl⟩
  obtain ⟨Y, hYe⟩ : ∃ Y, b * f = Y := ⟨_, rfl⟩
  rw [hXe] at hX3 hpe hYX hXl hYXl
  rw [hYe] at hY3 hpe hYX hY0 hYl hYXl
  clear hXe hYe hX2 hx hc hd hk1 hk2 hk3
  obtain ⟨A, m, c, rfl, em, hmc, hcm, -, rX⟩ := hX3.open_
  obtain ⟨D, n', c', rfl, en, hnc, -, -, rY⟩ := hY3.open_
  obtain rfl : n' = n := by omega
  obtain ⟨t, ht⟩ : ∃ t, m = t + n' := ⟨m - n', by omega⟩
  subst ht
  obtain ⟨bx, ox, rfl, hbx, hcx⟩ := rX (by omega)
  have sl1 : ((t + n' : Nat) : Int) - n' = (t : Int) := by omega
  have sl2 : ((t : Int) + 1) ≤ ((t + n' : Nat) : Int) := by omega
  have sl3 : ((t + n' : Nat) : Int) ≤ (c : Int) := by omega
  go_wp2_with fail
  have hdl : val ((dig X).drop (t + 1)) < Y := by
   have h7 := val_lt (AllB.drop (AllB.dig X) (t + 1))
   rw [List.length_drop, em] at h7
   have h8 := dig_ge (n := Y) (by omega)
   rw [en, show n' - 1 = t + n' - (t + 1) by omega] at h8
   exact Nat.lt_of_lt_of_le h7 h8
  refine (rmade_any false (some ⟨bx, ox + (t + 1), none⟩) (t + n' - (t + 1)) (c - (t + 1)) ((dig X).drop (t + 1)) w3 (by rw [List.length_drop, em])
   (fun _ => ⟨bx, ox + (t + 1), rfl, hbx, fun j hj => by rw [Nat.add_assoc, hcx _ (by omega), u32, u32, ix_drop]⟩) (AllB.drop (AllB.dig X) (t + 1)) (by omega) (by omega) (by intro e; cases e)).mono ?_
  rintro e w4 ⟨V4, rfl, hr4, hk4⟩
  obtain ⟨A4, m4, c4, rfl, hv4⟩ := hr4.open_
  rw [sgn_natAbs] at hv4
  have hfd := field_groups (.bool (decide (sgn false (val ((dig X).drop (t + 1))) < 0))) (.slice A4 m4 c4)
  have hmk := make_u32 ((t : Int) + 1) (t + 1) (by omega) (by omega)
  have hown := Own.new w4 109 (u32s (List.replicate (t + 1) 0))
  have hkc : Keeps w4 (w4.alloc (.cells (u32s (List.replicate (t + 1) 0)).toArray 109)) := box2 _ _
  have htn : t + n' ≤ 900001 := by omega
  have hwk := hw3.trans' hk4
  have HEM := Lib.hid em
  have HEN := Lib.hid en
  have HYL := Lib.hid hYl
  have HDL := Lib.hid hdl
  have HPE := Lib.hid hpe
  have HY0 := Lib.hid hY0
  have HF1 := Lib.hid hf1
  have hXc := fun W (hk : Keeps w4 W) (j : Nat) (hj : j < t + n') => (((bcell (hk4.trans' hk)).1 bx (ox + j) hbx).trans (hcx j hj))
  have HXC := Lib.hid hXc
  have hY4 := hY3.below hk4
  have rY4 := rY.below hk4
  obtain ⟨bY, oY, rfl, hbY, hcY⟩ := rY4 (by omega)
  have hYc := fun W (hk : Keeps w4 W) => ((bcell hk).1 bY (oY + (n' - 1)) hbY).trans (hcY (n' - 1) (by omega))
  have HYC := Lib.hid hYc
  clear hdl hpe hY0 em en hYl hXc hYc hcY hcx hX3 hY3 rX rY rY4 h1 h2 hw3 hXl hYXl sl1 sl2 sl3 hk4 hr4
  go_wp2
  clear hmk hfd
  go_loopw [10, 12, 13] (fun r i _ wr => ∃ (k rr : Nat) (out : List Nat), k ≤ t + 1 ∧ i = .int .i64 ((t : Int) - (k : Nat)) ∧ U32 wr r (dig rr) ∧ rr = val ((dig X).drop (t + 1 - k)) % Y ∧ out.length = t + 1 ∧ AllB out ∧
   val (out.drop (t + 1 - k)) = val ((dig X).drop (t + 1 - k)) / Y ∧ Own wr w4.heap.size 109 (u32s out) ∧ Keeps w4 wr)
   (fun _ i _ _ => (intOf i + 1).toNat)
  case atStart => exact ⟨0, val ((dig X).drop (t + 1)), List.replicate (t + 1) 0, by omega, by go_num, hv4.below hkc, by rw [Nat.sub_zero, Nat.mod_eq_of_lt HDL.out], by simp, AllB.replicate _, by rw [Nat.sub_zero, List.drop_of_length_le (by simp), Nat.div_eq_of_lt HDL.out]; rfl, hown, hkc⟩
  case round =>
   obtain ⟨k, rr, out, hkN, rfl, hrest, hrr, hol, hob, hval, hown1, hk1⟩ := hrel
   by_cases hlt : k < t + 1
   ·obtain ⟨q, hq⟩ : ∃ q, t - k = q := ⟨_, rfl⟩
    rw [show t + 1 - k = q + 1 by omega] at hrr hval
    have e : (t : Int) - (k : Int) = (q : Int) := by omega
    rw [e]
    clear e
    have hrY : rr < Y := by rw [hrr]; exact Nat.mod_lt _ HY0.out
    have hps := fun w g => part_step (xs := dig X) (q := out) (t := q) (w := w) (g := g) HY0.out (by rw [HEM.out]; omega) (by rw [hol]; omega) hrr hval
    have hxb := (AllB.dig X).ix q
    have hcell : wr.cell? ⟨bx, ox + q, none⟩ = some (.int .u32 (ix (dig X) q : Nat)) := HXC.out wr hk1 q (by omega)
    generalize ix (dig X) q = x at *
    have q1 : (q : Int) < ((t + n' : Nat) : Int) := by omega
    have q2 : (q : Int) < (t : Int) + 1 := by omega
    have HPS := Lib.hid hps
    have HL := Lib.hid hol
    have HQ := Lib.hid hq
    have HOB := Lib.hid hob
    clear hps hol hq hrr hval hob
    have hrl : (dig rr).length ≤ 900001 := by have := dig_length_mono (Nat.le_of_lt hrY); have := HYL.out; omega
    go_wp2_with fail
    refine (rshifted_any _ rr x wr hrest (by omega) hxb).mono ?_
    rintro e w5 ⟨r5, rfl, hr5, hk5⟩
    have hk15 := hk1.trans' hk5
    have hown5 := hown1.below hk5
    obtain ⟨v, hv⟩ : ∃ v, rr * 1000000000 + x = v := ⟨_, rfl⟩
    rw [hv] at hr5
    have hvY : v < Y * 1000000000 := by omega
    have hYn : Y < 1000000000 ^ n' := by have := dig_lt Y; rwa [HYL.out] at this
    have hvn : v < 1000000000 ^ (n' + 1) := by
     refine Nat.lt_trans hvY ?_
     rw [Nat.pow_succ]
     exact Nat.mul_lt_mul_of_pos_right hYn (by omega)
    have hvl : (dig v).length ≤ 900002 := by have := dig_length_le hvn; omega
    have hg2 := two_groups (n := n') (by omega) hvn
    have hg1 := one_group (n := n') (by omega) hYn
    have hgl := guess_le (w := v) (y := Y) (P := 1000000000 ^ (n' - 1)) (Nat.pow_pos (by omega))
    rw [← hg2, ← hg1] at hgl
    have hu0 := (AllB.dig v).ix n'
    have hu1 := (AllB.dig v).ix (n' - 1)
    have hyb := (AllB.dig Y).ix (n' - 1)
    have hYcell := HYC.out w5 hk15
    rw [u32] at hYcell
    have hG0 := fun (nq : Nat) (z : Int) (ez : z = (n' : Nat)) => group_z _ (dig v) n' z (w5.drewN nq) ez (hr5.drewN nq) (AllB.dig v) (by omega) (by omega)
    have hG1 := fun (nq : Nat) (z : Int) (ez : z = ((n' - 1 : Nat) : Nat)) => group_z _ (dig v) (n' - 1) z (w5.drewN nq) ez (hr5.drewN nq) (AllB.dig v) (by omega) (by omega)
    generalize hue0 : ix (dig v) n' = u0 at *
    generalize hue1 : ix (dig v) (n' - 1) = u1 at *
    generalize hye : ix (dig Y) (n' - 1) = y1 at *
    have hgq : (u0 * 1000000000 + u1) / (y1 + 1) < 1000000000 := guess_lt hgl hvY
    obtain ⟨G, hG⟩ : ∃ G, (u0 * 1000000000 + u1) / (y1 + 1) = G := ⟨_, rfl⟩
    rw [hG] at hgl hgq
    have HG0 := Lib.hid hG0
    have HG1 := Lib.hid hG1
    have HGE := Lib.hid hG
    have HGL := Lib.hid hgl
    have HV := Lib.hid hv
    have HVY := Lib.hid hvY
    have hI0 : (u0 : Int) < 1000000000 := by omega
    have hI1 : (u1 : Int) < 1000000000 := by omega
    have hIy : (y1 : Int) < 1000000000 := by omega
    have hIG : (G : Int) < 1000000000 := by omega
    have e1 : (n' : Int) - 1 = ((n' - 1 : Nat) : Int) := by omega
    have g1 : IntKind.i64.wrap ((n' - 1 : Nat) : Int) = ((n' - 1 : Nat) : Int) := IntWalk.i64_in _ (by omega)
    have b0 : (0 : Int) ≤ ((n' - 1 : Nat) : Int) := by omega
    have b1 : ((n' - 1 : Nat) : Int) < (n' : Int) := by omega
    have g2 : IntKind.u64.wrap ((u0 : Int) * 1000000000) = (u0 : Int) * 1000000000 := IntWalk.u64_in _ (by omega)
    have g3 : IntKind.u64.wrap ((u0 : Int) * 1000000000 + (u1 : Int)) = (u0 : Int) * 1000000000 + (u1 : Int) := IntWalk.u64_in _ (by omega)
    have g4 : IntKind.u64.wrap (y1 : Int) = (y1 : Int) := IntWalk.u64_in _ (by omega)
    have g5 : IntKind.u64.wrap ((y1 : Int) + 1) = (y1 : Int) + 1 := IntWalk.u64_in _ (by omega)
    have t1 : (((u0 : Int) * 1000000000 + (u1 : Int)).tdiv ((y1 : Int) + 1)) = (G : Int) := by rw [← hG, Int.natCast_ediv, Int.natCast_add, Int.natCast_mul]; exact Int.tdiv_eq_ediv_of_nonneg (by omega)
    have g6 : IntKind.u64.wrap (G : Int) = (G : Int) := IntWalk.u64_in _ (by omega)
    clear hG0 hG1 hG hgl hv hvY hg1 hg2 hvn hYn hue0 hue1 hye q1
    go_wp2_with fail
    go_quiet ((first | (go_at_call 139; exact Calls.quiet_of_same (HG0.out _ _ rfl)) | (go_at_call 139; exact Calls.quiet_of_same (HG1.out _ _ rfl))))
    rw [← e1]
    clear HG0 HG1 e1 g1 b0 b1 g2 g3 g4 g5 t1 g6 hI0 hI1 hIy
    have hr6 := hr5.drewN nq
    have hk6 := hk15.drewN nq
    have hown6 := hown5.drewN nq
    obtain ⟨W6, hW6⟩ : ∃ W, w5.drewN nq = W := ⟨_, rfl⟩
    rw [hW6] at hr6 hk6 hown6 ⊢
    clear hW6
    have hY6 := hY4.below hk6
    go_wp2_with fail
    refine (rscaled_d _ Y G W6 hY6 (by rw [HYL.out]; omega) hgq).mono ?_
    rintro e w7 ⟨p7, rfl, hp7, hk7⟩
    go_wp2_with fail
    refine (rminus_dn r5 p7 v (Y * G) w7 (hr6.below hk7) hp7 (by omega) (by rw [Nat.mul_comm]; exact HGL.out)).mono ?_
    rintro e w8 ⟨r8, rfl, hr8, hn8, hk8⟩
    have hk9 := (hk6.trans' hk7).trans' hk8
    have hown7 := hown6.below hk7
    have hown9 := hown7.below hk8
    go_wp2_with fail
    go_loopw [10, 13] (fun r gv wi => ∃ g : Nat, gv = .int .u64 (g : Nat) ∧ g * Y ≤ v ∧ U32 wi r (dig (v - g * Y)) ∧ (∃ w0 : World, w4.heap.size < w0.heap.size ∧ NewV w0 r) ∧ Own wi w4.heap.size 109 (u32s out) ∧ Keeps w4 wi)
     (fun _ gv _ => 1000000000 - (intOf gv).toNat)
    case atStart => exact ⟨G, rfl, HGL.out, by rw [Nat.mul_comm]; exact hr8, ⟨w7, hown7.lt, hn8⟩, hown9, hk9⟩
    case round =>
     obtain ⟨g, rfl, hgY, hri, ⟨w0, hw0, hn0⟩, howni, hki⟩ := hrel
     have hgB := guess_lt hgY HVY.out
     have hgI : (g : Int) < 1000000000 := by omega
     have HGY := Lib.hid hgY
     obtain ⟨sg, hsg⟩ : ∃ sg, (((v - g * Y : Nat) : Int) - (Y : Nat)).sign = sg := ⟨_, rfl⟩
     have hLs := lt_sign (v - g * Y) Y
     rw [hsg] at hLs
     have hvl2 := dig_length_mono (Nat.sub_le v (g * Y))
     have hYi := hY4.below hki
     have hsz := size_any _ _ _ _ wr hri hYi (by omega) (by rw [HYL.out]; omega)
     rw [hsg] at hsz
     have HSZ := Lib.hid hsz
     clear hsz hsg hgY
     rcases hLs with ⟨hLs, hs2⟩ | ⟨hLs, hs2⟩
     ·have hd2 : decide ((0 : Int) ≤ sg) = false := decide_eq_false (by omega)
      have HLS := Lib.hid hLs
      clear hLs
      go_wp2_with fail
      refine HSZ.out.mono ?_
      rintro e w10 ⟨rfl, hk10⟩
      have hown10 := howni.below hk10
      have hc0 := hown10.u32cell (i := q) (by rw [HL.out]; omega)
      have hf0 := hown10.frozen q
      have hgd := guess_done HGY.out HLS.out
      have HGD := Lib.hid hgd
      clear hgd
      go_wp2
      go_roundw
      case rel =>
       have hps := HPS.out v g HV.out.symm HGD.out.1
       have hr10 := hri.below hk10
       trace_state
       exact ⟨k + 1, v % Y, out.set q g, by omega, by have := HQ.out; congr 1; omega, by rw [← HGD.out.2]; exact hr10.putNew hn0 hw0 _ _, by rw [show t + 1 - (k + 1) = q by have := HQ.out; omega]; exact hps.2, by rw [List.length_set]; exact HL.out,
        HOB.out.set _ _ hgB, by rw [show t + 1 - (k + 1) = q by have := HQ.out; omega]; exact hps.1, hown10.put q g rfl, (hki.trans' hk10).set (Nat.le_refl _) _⟩
      case measure => have := HQ.out; simp [intOf]
     ·have hd2 : decide ((0 : Int) ≤ sg) = true := decide_eq_true (by omega)
      have hnext : (g + 1) * Y ≤ v := by have := HGY.out; rw [Nat.add_mul]; omega
      have hsub : v - g * Y - Y = v - (g + 1) * Y := by rw [Nat.add_mul]; omega
      have HLS := Lib.hid hLs
      have HNX := Lib.hid hnext
      have HSB := Lib.hid hsub
      clear hLs hnext hsub
      go_wp2_with fail
      refine HSZ.out.mono ?_
      rintro e w10 ⟨rfl, hk10⟩
      go_wp2_with fail
      refine (rminus_dn _ _ _ Y w10 (hri.below hk10) (hYi.below hk10) (by omega) HLS.out).mono ?_
      rintro e w11 ⟨r11, rfl, hr11, hn11, hk11⟩
      rw [HSB.out] at hr11
      go_wp2
      go_roundw
      case rel => exact ⟨g + 1, by go_num, HNX.out, hr11, ⟨w10, (howni.below hk10).lt, hn11⟩, (howni.below hk10).below hk11, (hki.trans' hk10).trans' hk11⟩
      case measure => simp [intOf]; omega
   ·obtain rfl : k = t + 1 := by omega
    rw [show (t : Int) - ((t + 1 : Nat) : Int) = -1 by omega]
    rw [Nat.sub_self, List.drop_zero, val_dig] at hrr
    rw [Nat.sub_self, List.drop_zero, List.drop_zero, val_dig] at hval
    have hpe := HPE.out
    have hrf : rr / f = a % b := by rw [hrr]; exact hpe.2
    have hvq : val out = a / b := by rw [hval]; exact hpe.1
    have hrY : rr < Y := by rw [hrr]; exact Nat.mod_lt _ HY0.out
    have hrl : (dig rr).length ≤ 900001 := by have := dig_length_mono (Nat.le_of_lt hrY); have := HYL.out; omega
    have HRF := Lib.hid hrf
    have HVQ := Lib.hid hvq
    have HL := Lib.hid hol
    clear hrr hval hpe hrf hvq hol hrY
    go_wp2_with fail
    refine (rshort_any _ rr f wr hrest (by omega) (by omega) (by omega)).mono ?_
    rintro e w5 ⟨r5, rfl, hr5, hk5⟩
    have hown5 := hown1.below hk5
    rw [HRF.out] at hr5
    go_wp2_with fail
    refine (rmade_u false (.slice (some ⟨w4.heap.size, 0, none⟩) (t + 1) (t + 1)) out w5 (by rw [← HL.out]; exact U32.mk hown5.row (Nat.le_refl _) (by rw [HL.out]; simp only [maxLen]; omega) (by intro e; cases e)) hob (by rw [HL.out]; omega)).mono ?_
    rintro e w6 ⟨V6, rfl, hr6, hk6⟩
    obtain ⟨A6, m6, c6, rfl, hv6⟩ := hr6.open_
    rw [sgn_natAbs, HVQ.out] at hv6
    have hfd6 := field_groups (.bool (decide (sgn false (val out) < 0))) (.slice A6 m6 c6)
    go_wp2
    go_ret2
    exact ⟨_, _, rfl, hv6, hr5.below hk6, ((hwk.trans' hk1).trans' hk5).trans' hk6⟩
end Go.Proofs.YtgcigdahjabimaaGreatDoor
