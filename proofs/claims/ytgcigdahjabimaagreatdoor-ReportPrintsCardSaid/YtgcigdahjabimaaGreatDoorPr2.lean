/- The walks of Of, Valid, groups and their callees. The walks of Sign, Neg, Abs, Of. slices.Backward of a magnitude: the iterator's contract; the walk of word. -/
import Derived.Test.YtgcigdahjabimaaGreatDoorPr1
import Derived.Deep.RegionHeld3
namespace Go.Proofs.YtgcigdahjabimaaGreatDoor
open Go.RowKit

def validB (neg : Bool) (xs : List Nat) : Bool := if xs.length = 0 then !neg else (ix xs (xs.length - 1) != 0) && xs.all (fun g => decide (g < 1000000000))
def anyBig (xs : List Nat) : Bool := xs.any fun g => decide (1000000000 ≤ g)

theorem valid1_any (x : Nat) (w : World) :
 Calls Tryz.prog 126 #[.int .u32 (x : Nat)] w fun e w' => e = .returned (.bool (decide ((1000000000 : Int) ≤ (x : Int)))) ∧ w = w' := by
 go_enter Tryz.func126, Tryz.ntmps126
 go_wp2
 go_ret
 exact ⟨rfl, rfl⟩

theorem anyBig_take (xs : List Nat) (k : Nat) (h : k < xs.length) : anyBig (xs.take (k + 1)) = (anyBig (xs.take k) || decide (1000000000 ≤ ix xs k)) := by
 unfold anyBig
 rw [take_snoc xs k h, List.any_append]
 simp
theorem anyBig_of (xs : List Nat) (k : Nat) (h : k < xs.length) (hb : 1000000000 ≤ ix xs k) : anyBig xs = true := by
 unfold anyBig
 rw [List.any_eq_true]
 exact ⟨ix xs k, by rw [ix_get xs k h]; exact List.getElem_mem h, by simpa using hb⟩

def Found (b : Bool) (w : World) (e : Ending) (w' : World) : Prop := ∃ r : Int, e = .returned (.int .i64 r) ∧ decide (0 ≤ r) = b ∧ w = w'

set_option maxRecDepth 100000 in
set_option maxHeartbeats 400000 in
theorem indexBig_any (A : Option Addr) (n c : Nat) (xs : List Nat) (w : World) (e : xs.length = n) (h : Row w A n (u32 xs)) (hm : n ≤ 9000000000) :
 Calls Tryz.prog 165 #[.slice A n c, .func (.func 126) #[] #[]] w (Found (anyBig xs) w) := by
 have HE := Lib.hid e
 clear e
 go_enter Tryz.func165, Tryz.ntmps165
 go_wp2
 go_loop [8] (fun i => ∃ k : Nat, k ≤ n ∧ i = .int .i64 (k : Nat) ∧ anyBig (xs.take k) = false) (fun i => n - (intOf i).toNat)
 case atStart => exact ⟨0, by omega, rfl, rfl⟩
 case round =>
  obtain ⟨k, hk, rfl, hn⟩ := hrel
  have HN := Lib.hid hn
  clear hn
  by_cases hlt : k < n
  ·obtain ⟨b, o, rfl, hb, hcell⟩ := h (by omega)
   have hx : w.cell? ⟨b, o + k, none⟩ = some (.int .u32 (ix xs k : Nat)) := hcell k hlt
   clear hcell
   rcases Nat.lt_or_ge (ix xs k) 1000000000 with hs | hs
   ·have hD : decide ((1000000000 : Int) ≤ (ix xs k : Int)) = false := decide_eq_false (by omega)
    have HS := Lib.hid hs
    clear hs
    go_wp2_with (go_at_call 126; refine (valid1_any _ _).mono ?_; rintro e w' ⟨rfl, rfl⟩)
    go_round
    case rel => exact ⟨k + 1, by omega, by go_num, by rw [anyBig_take xs k (by rw [HE.out]; exact hlt), HN.out, decide_eq_false (by have := HS.out; omega)]; rfl⟩
    case measure => simp [intOf]; omega
   ·have hD : decide ((1000000000 : Int) ≤ (ix xs k : Int)) = true := decide_eq_true (by omega)
    have HS := Lib.hid hs
    clear hs
    go_wp2_with (go_at_call 126; refine (valid1_any _ _).mono ?_; rintro e w' ⟨rfl, rfl⟩)
    go_ret
    exact ⟨_, rfl, by rw [anyBig_of xs k (by rw [HE.out]; exact hlt) HS.out]; simp, rfl⟩
  ·obtain rfl : k = n := by omega
   go_wp2
   go_ret
   have he := HE.out
   subst he
   exact ⟨_, rfl, by have := HN.out; rw [List.take_length] at this; rw [this]; rfl, rfl⟩

theorem containsBig_any (A : Option Addr) (n c : Nat) (xs : List Nat) (w : World) (e : xs.length = n) (h : Row w A n (u32 xs)) (hm : n ≤ 9000000000) :
 Calls Tryz.prog 125 #[.slice A n c, .func (.func 126) #[] #[]] w fun e w' => e = .returned (.bool (anyBig xs)) ∧ w = w' := by
 have hI := Lib.hid (indexBig_any A n c xs w e h hm)
 go_enter Tryz.func125, Tryz.ntmps125
 go_wp2_with fail
 refine hI.out.mono ?_
 rintro e w1 ⟨r, rfl, hr, rfl⟩
 have HR := Lib.hid hr
 clear hr
 go_wp2
 go_ret
 exact ⟨by rw [← HR.out]; rfl, rfl⟩

theorem validB_ne {neg : Bool} {xs : List Nat} {n : Nat} (e : xs.length = n) (h : n ≠ 0) : validB neg xs = ((ix xs (n - 1) != 0) && !anyBig xs) := by
 subst e
 unfold validB anyBig
 rw [if_neg h]
 congr 1
 induction xs with
 | nil => rfl
 | cons x r ih =>
  by_cases hr : r.length = 0
  ·have : r = [] := List.eq_nil_of_length_eq_zero hr
   subst this
   by_cases hx : x < 1000000000
   ·simp [hx]
   ·simp [hx]; omega
  ·simp only [List.all_cons, List.any_cons, ih hr]
   by_cases hx : x < 1000000000
   ·simp [hx]
   ·simp [hx]

set_option maxRecDepth 100000 in
set_option maxHeartbeats 400000 in
theorem valid_any (neg : Bool) (A : Option Addr) (n c : Nat) (xs : List Nat) (w : World) (e : xs.length = n) (h : Row w A n (u32 xs)) (hm : n ≤ 9000000000) :
 Calls Tryz.prog 85 #[.agg #[.bool neg, .slice A n c]] w fun e w' => e = .returned (.bool (validB neg xs)) ∧ Keeps w w' := by
 have hkk : Keeps w (w.alloc (.cells #[.bool neg, .slice A n c] 29)) := bl.alloc (Nat.le_refl _) _
 rcases Nat.eq_zero_or_pos n with h0 | h0
 ·subst h0
  have HE := Lib.hid e
  clear e
  go_enter Tryz.func85, Tryz.ntmps85
  go_wp2
  go_ret
  exact ⟨by unfold validB; rw [if_pos HE.out]; rfl, hkk⟩
 ·have HC := Lib.hid (containsBig_any A n c xs (w.alloc (.cells #[.bool neg, .slice A n c] 29)) e (h.below hkk) hm)
  have HV := Lib.hid (validB_ne (neg := neg) e (by omega))
  obtain ⟨b, o, rfl, hb, hcell⟩ := (h.below hkk) h0
  have hx := hcell (n - 1) (by omega)
  unfold u32 at hx
  clear hcell
  have hn0 : ((n : Int) == 0) = false := by simp; omega
  have h1 : (1 : Int) ≤ n := by omega
  by_cases hz : ix xs (n - 1) = 0
  ·have hb2 : (((ix xs (n - 1) : Nat) : Int) != 0) = false := by simp [hz]
   have HZ := Lib.hid hz
   clear hz
   go_enter Tryz.func85, Tryz.ntmps85
   go_wp2
   go_ret
   exact ⟨by rw [HV.out, HZ.out]; rfl, hkk⟩
  ·have hb2 : (((ix xs (n - 1) : Nat) : Int) != 0) = true := by simpa using hz
   have HZ := Lib.hid hz
   clear hz
   go_enter Tryz.func85, Tryz.ntmps85
   go_wp2_with (go_at_call 125; refine HC.out.mono ?_; rintro e w' ⟨rfl, rfl⟩)
   go_ret
   exact ⟨by rw [HV.out]; simp [HZ.out], hkk⟩

def mag (neg : Bool) (xs : List Nat) : Nat := if validB neg xs then val xs else 0
def cnt (neg : Bool) (xs : List Nat) : Int := sgn neg (mag neg xs)
theorem allB_of_all {xs : List Nat} (h : xs.all (fun g => decide (g < 1000000000)) = true) : AllB xs := by
 intro x hx
 have := List.all_eq_true.1 h x hx
 simpa using this
theorem validB_allB {neg : Bool} {xs : List Nat} (h : validB neg xs = true) : AllB xs := by
 unfold validB at h
 split at h
 ·next h0 => rw [List.eq_nil_of_length_eq_zero h0]; exact AllB.nil
 ·rw [Bool.and_eq_true] at h; exact allB_of_all h.2
theorem validB_dig {neg : Bool} {xs : List Nat} (h : validB neg xs = true) : dig (val xs) = xs := by
 refine dig_of (validB_allB h) fun hp => ?_
 unfold validB at h
 rw [if_neg (by omega), Bool.and_eq_true] at h
 simpa using h.1
theorem dig_mag {neg : Bool} {xs : List Nat} (h : validB neg xs = true) : dig (mag neg xs) = xs := by
 unfold mag; rw [if_pos h]; exact validB_dig h
theorem dig_mag_not {neg : Bool} {xs : List Nat} (h : validB neg xs = false) : dig (mag neg xs) = [] := by
 unfold mag; rw [if_neg (by rw [h]; simp)]; exact dig_zero
def IntArg (w : World) (V : Value) (neg : Bool) (xs : List Nat) : Prop := ∃ v, V = .agg #[.bool neg, v] ∧ U32 w v xs
theorem IntArg.below {w w' : World} {V : Value} {neg : Bool} {xs : List Nat} (h : IntArg w V neg xs) (hb : Below w.heap.size w w') : IntArg w' V neg xs := by
 obtain ⟨v, rfl, hv⟩ := h
 exact ⟨v, rfl, hv.below hb⟩

set_option maxRecDepth 100000 in
set_option maxHeartbeats 400000 in
theorem groups_any (neg : Bool) (xs : List Nat) (V : Value) (w : World) (h : IntArg w V neg xs) (hm : xs.length ≤ 1000000) :
 Calls Tryz.prog 127 #[V] w fun e w' => ∃ v, e = .returned v ∧ U32 w' v (dig (mag neg xs)) ∧ Keeps w w' := by
 obtain ⟨v, rfl, A, c, rfl, hc, hcm, h0, hr⟩ := h
 have hkk : Keeps w (w.alloc (.cells #[.bool neg, .slice A xs.length c] 29)) := bl.alloc (Nat.le_refl _) _
 have hV := Lib.hid (valid_any neg A xs.length c xs (w.alloc (.cells #[.bool neg, .slice A xs.length c] 29)) rfl (hr.below hkk) (by omega))
 cases hb : validB neg xs with
 | true =>
  have HB := Lib.hid hb
  rw [hb] at hV
  clear hb
  go_enter Tryz.func127, Tryz.ntmps127
  go_wp2_with fail
  refine hV.out.mono ?_
  rintro e w1 ⟨rfl, hk1⟩
  obtain ⟨hc1, hf1⟩ := bcell hk1
  go_wp2
  go_ret
  exact ⟨_, rfl, by rw [dig_mag HB.out]; exact ⟨_, _, rfl, hc, hcm, h0, (hr.below hkk).below hk1⟩, hkk.trans (hk1.mono (by simp))⟩
 | false =>
  have HB := Lib.hid hb
  rw [hb] at hV
  clear hb
  go_enter Tryz.func127, Tryz.ntmps127
  go_wp2_with fail
  refine hV.out.mono ?_
  rintro e w1 ⟨rfl, hk1⟩
  obtain ⟨hc1, hf1⟩ := bcell hk1
  go_wp2
  go_ret
  exact ⟨_, rfl, by rw [dig_mag_not HB.out]; exact U32.nil, hkk.trans (hk1.mono (by simp))⟩
theorem U32.open_ {w : World} {v : Value} {xs : List Nat} (h : U32 w v xs) : ∃ A n c, v = .slice A n c ∧ xs.length = n ∧ n ≤ c ∧ c ≤ maxLen ∧ (A = none → c = 0) ∧ Row w A n (u32 xs) := by
 obtain ⟨A, c, rfl, h1, h2, h3, h4⟩ := h
 exact ⟨A, _, c, rfl, rfl, h1, h2, h3, h4⟩
theorem IntRep.open_ {w : World} {V : Value} {z : Int} (h : IntRep w V z) : ∃ A n c, V = .agg #[.bool (decide (z < 0)), .slice A n c] ∧ U32 w (.slice A n c) (dig z.natAbs) := by
 obtain ⟨v, rfl, hv⟩ := h
 obtain ⟨A, n, c, rfl, -⟩ := hv.open_
 exact ⟨A, n, c, rfl, hv⟩
theorem IntRep.two {w : World} {V : Value} {z : Int} {R : Nat} {t : TypeId} {x y x' y' : Value} (h : IntRep w V z) (hR : Own w R t [x, y]) (hx : noU32 x = true) (hy : noU32 y = true) (hx' : noU32 x' = true) :
 IntRep ((w.setCell ⟨R, 0, none⟩ x').setCell ⟨R, 1, none⟩ y') V z := by
 obtain ⟨v, rfl, hv⟩ := h
 refine ⟨v, rfl, (hv.put hR (by simp [hx, hy]) 0 x').put (hR.set 0 x') (by simp [hx', hy]) 1 y'⟩
theorem sgn_zero (neg : Bool) : sgn neg 0 = 0 := by cases neg <;> rfl
theorem sgn_natAbs (neg : Bool) (m : Nat) : (sgn neg m).natAbs = m := by cases neg <;> simp [sgn]
theorem sgn_neg (neg : Bool) (m : Nat) : sgn (!neg) m = -sgn neg m := by cases neg <;> simp [sgn]
theorem sgn_sign (neg : Bool) (m : Nat) (h : 0 < m) : (sgn neg m).sign = if neg then -1 else 1 := by
 cases neg
 ·exact Int.sign_eq_one_of_pos (by simp [sgn]; omega)
 ·exact Int.sign_eq_neg_one_of_neg (by simp [sgn]; omega)
theorem ret_int {k : IntKind} {a b : Int} (h : b = a) : Ending.returned (.int k a) = .returned (.int k b) := by rw [h]
theorem box2 (w : World) (o : Obj) : Keeps w (w.alloc o) := bl.alloc (Nat.le_refl _) _

theorem made_u (neg : Bool) (v : Value) (xs : List Nat) (w : World) (h : U32 w v xs) (ha : AllB xs) :
 Calls Tryz.prog 90 #[.bool neg, v] w fun e w' => ∃ V, e = .returned V ∧ IntRep w' V (sgn neg (val xs)) ∧ Keeps w w' := by
 obtain ⟨A, n, c, rfl, e, hc, hm, h0, hr⟩ := h.open_
 exact made_any neg A n c xs w e hr ha hc hm h0
theorem made_d (neg : Bool) (v : Value) (m : Nat) (w : World) (h : U32 w v (dig m)) :
 Calls Tryz.prog 90 #[.bool neg, v] w fun e w' => ∃ V, e = .returned V ∧ IntRep w' V (sgn neg m) ∧ Keeps w w' := by
 have := made_u neg v (dig m) w h (AllB.dig m)
 rwa [val_dig] at this
theorem clone_u (v : Value) (xs : List Nat) (w : World) (h : U32 w v xs) (hm : xs.length ≤ 1000000) :
 Calls Tryz.prog 132 #[v] w fun e w' => ∃ v, e = .returned v ∧ U32 w' v xs ∧ Keeps w w' := by
 obtain ⟨A, n, c, rfl, e, hc, _, h0, hr⟩ := h.open_
 exact clone_any A n c xs w e hr hc (by omega) h0
theorem mag_length (neg : Bool) (xs : List Nat) : (dig (mag neg xs)).length ≤ xs.length := by
 cases h : validB neg xs with
 | true => rw [dig_mag h]; exact Nat.le_refl _
 | false => rw [dig_mag_not h]; simp

set_option maxRecDepth 100000 in
set_option maxHeartbeats 400000 in
theorem sign_any (neg : Bool) (xs : List Nat) (V : Value) (w : World) (h : IntArg w V neg xs) (hm : xs.length ≤ 1000000) :
 Calls Tryz.prog 86 #[V] w fun e w' => e = .returned (.int .i64 (cnt neg xs).sign) ∧ Keeps w w' := by
 obtain ⟨v, rfl, hv⟩ := h
 have hkk : Keeps w (w.alloc (.cells #[.bool neg, v] 29)) := box2 _ _
 have hG := Lib.hid (groups_any neg xs (.agg #[.bool neg, v]) _ ⟨v, rfl, hv.below hkk⟩ hm)
 rcases Nat.eq_zero_or_pos (mag neg xs) with h0 | h0
 ·have H0 := Lib.hid h0
  clear h0
  go_enter Tryz.func86, Tryz.ntmps86
  go_wp2_with fail
  refine hG.out.mono ?_
  rintro e w1 ⟨v1, rfl, hv1, hk1⟩
  rw [H0.out, dig_zero] at hv1
  obtain ⟨A, n, c, rfl, e1, -, -, -, -⟩ := hv1.open_
  obtain rfl : n = 0 := by simpa using e1.symm
  obtain ⟨hc1, hf1⟩ := bcell hk1
  go_wp2
  go_ret
  exact ⟨by unfold cnt; rw [H0.out, sgn_zero]; rfl, hkk.trans (hk1.mono (by simp))⟩
 ·have H0 := Lib.hid h0
  clear h0
  cases neg
  all_goals
   go_enter Tryz.func86, Tryz.ntmps86
   go_wp2_with fail
   refine hG.out.mono ?_
   rintro e w1 ⟨v1, rfl, hv1, hk1⟩
   obtain ⟨A, n, c, rfl, e1, -, -, -, -⟩ := hv1.open_
   have hn : ((n : Int) == 0) = false := by
    have := dig_length_pos.2 (Nat.pos_iff_ne_zero.1 H0.out)
    rw [e1] at this
    simp; omega
   clear e1
   obtain ⟨hc1, hf1⟩ := bcell hk1
   go_wp2
   go_ret
   exact ⟨ret_int (by rw [cnt, sgn_sign _ _ H0.out]; rfl), hkk.trans (hk1.mono (by simp))⟩

set_option maxRecDepth 100000 in
set_option maxHeartbeats 400000 in
theorem neg_any (neg : Bool) (xs : List Nat) (V : Value) (w : World) (h : IntArg w V neg xs) (hm : xs.length ≤ 1000000) :
 Calls Tryz.prog 133 #[V] w fun e w' => ∃ V, e = .returned V ∧ IntRep w' V (-cnt neg xs) ∧ Keeps w w' := by
 obtain ⟨v, rfl, hv⟩ := h
 have hml := mag_length neg xs
 have hkk := keep2 w (.cells #[.bool neg, v] 29) (.cells #[.bool false, .slice none 0 0] 29)
 have hG := Lib.hid (fun W (hW : IntArg W (.agg #[.bool neg, v]) neg xs) => groups_any neg xs (.agg #[.bool neg, v]) W hW hm)
 have hA := own2 w (.cells #[.bool neg, v] 29) 29 [.bool false, .slice none 0 0]
 have hB : Own ((w.alloc (.cells #[.bool neg, v] 29)).alloc (.cells #[.bool false, .slice none 0 0] 29)) w.heap.size 29 [.bool neg, v] := (Own.new w 29 [.bool neg, v]).alloc _
 go_enter Tryz.func133, Tryz.ntmps133
 go_wp2_with fail
 have hv1 := hv.below hkk
 generalize (w.alloc (.cells #[.bool neg, v] 29)).alloc (.cells #[.bool false, .slice none 0 0] 29) = W at *
 have b0 := hB.c0
 have b1 := hB.c1
 go_region_held3 (fun w' => w'.cell? ⟨w.heap.size, 0, none⟩ = some (.bool neg) ∧ w'.cell? ⟨w.heap.size, 1, none⟩ = some v)
  (first | exact ⟨b0, b1⟩ | exact ⟨hB1.c0, hB1.c1⟩ | exact ⟨hB2.c0, hB2.c1⟩ | exact ⟨hB3.c0, hB3.c1⟩ | exact ⟨hB4.c0, hB4.c1⟩)
  (first
   | (go_at_call 127; refine (hG.out W.drew ⟨v, rfl, hv1⟩).mono ?_; rintro e w1 ⟨v1, rfl, hu1, hk1⟩; have hB1 := hB.drew.below hk1)
   | (go_at_call 132; refine (clone_u v1 _ _ hu1 (by omega)).mono ?_; rintro e w2 ⟨v2, rfl, hu2, hk2⟩; have hB2 := hB1.below hk2)
   | (go_at_call 90; refine (made_d (!neg) v2 _ _ hu2).mono ?_; rintro e w3 ⟨V3, rfl, hr3, hk3⟩; obtain ⟨A3, n3, c3, rfl, hv3⟩ := hr3.open_; have hB3 := hB2.below hk3; have hR3 := ((hA.drew.below hk1).below hk2).below hk3; have r0 := hR3.c0; have r1 := hR3.c1; have f0 := hR3.frozen 0; have f1 := hR3.frozen 1; have hB4 := (hB3.far (p := ⟨w.heap.size + 1, 0, none⟩) (by simp) (.bool (decide (sgn (!neg) (mag neg xs) < 0)))).far (p := ⟨w.heap.size + 1, 1, none⟩) (by simp) (.slice A3 n3 c3)))
 go_wp2
 have hR4 := hR3.two (.bool (decide (sgn (!neg) (mag neg xs) < 0))) (.slice A3 n3 c3)
 refine bodyPost_ret (v := .agg #[.bool (decide (sgn (!neg) (mag neg xs) < 0)), .slice A3 n3 c3]) (by simp [results, Tryz.results133, go_sem, hR4.c0, hR4.c1]) rfl ?_
 have hk := ((Keeps.trans' (Below.drew hkk) hk1).trans' hk2).trans' hk3
 refine ⟨_, rfl, ?_, (hk.set (by simp) _).set (by simp) _⟩
 have e1 : -cnt neg xs = sgn (!neg) (mag neg xs) := by unfold cnt; rw [sgn_neg]
 rw [e1]
 exact hr3.two hR3 rfl rfl rfl
end Go.Proofs.YtgcigdahjabimaaGreatDoor
namespace Go.Proofs.YtgcigdahjabimaaGreatDoor
open Go.RowKit Go.Shelf
attribute [local go_sem] Oper.semAt_some

def backEnc (xs : List Nat) (n k : Nat) : Array Value := #[.int .i64 ((n - 1 - k : Nat) : Int), .int .u32 (ix xs (n - 1 - k) : Nat)]
def BackKp (n₀ Bs : Nat) (W W' : World) : Prop := Below n₀ W W' ∧ W'.heap[Bs]? = W.heap[Bs]?
theorem BackKp.t {n₀ Bs : Nat} {A B C : World} (h : BackKp n₀ Bs A B) (k : BackKp n₀ Bs B C) : BackKp n₀ Bs A C := ⟨h.1.trans k.1, k.2.trans h.2⟩
theorem BackKp.b {n₀ Bs : Nat} {w : World} (hn : n₀ ≤ w.heap.size) (hb : Bs < w.heap.size) (W : World) (l : Nat) (o o' : Obj) (hl : w.heap.size ≤ l) (h : W.heap[l]? = some o) (hc : o.isCells = false) (hw : o.isWalk = false) : BackKp n₀ Bs W (W.putObj l o') :=
 ⟨belowK_b hn W l o o' hl h hc hw, World.putObj_heap_other (by omega)⟩

theorem back_any (A : Option Addr) (n c : Nat) (w : World) :
 Calls Tryz.prog 167 #[.slice A n c] w fun e w' => e = .returned (.func (.func 194) #[] #[.pointer (some ⟨w.heap.size, 0, none⟩)]) ∧ w' = w.alloc (.cells #[.slice A n c] 27) := by
 go_enter Tryz.func167, Tryz.ntmps167
 go_wp2
 go_ret
 exact ⟨rfl, rfl⟩

set_option maxRecDepth 100000 in
set_option maxHeartbeats 1000000 in
theorem back_seq (F : Fence) (m : Nat) (hF : F.fn 194) (hro : F.round = none) (hm : 1 ≤ m) (Bs n₀ n c : Nat) (A : Option Addr) (xs : List Nat) (hn : n ≤ 1000000000) (w : World)
 (hBs : Own w Bs 27 [.slice A n c]) (hr : Row w A n (u32 xs)) (hlt : ∀ b o, A = some ⟨b, o, none⟩ → 0 < n → b < n₀) :
 SeqIdx F m Tryz.prog 194 #[.pointer (some ⟨Bs, 0, none⟩)] (backEnc xs n) (BackKp n₀ Bs) n w := by
 intro l J Jx W hW hJ hJx hY h0
 have hBW := hBs.below hW
 have hrW := hr.below hW
 have b0 := hBW.c0
 refine callsIn_of_wp Tryz.func194 rfl hF ?_ hro
 simp only [Tryz.ntmps194, List.size_toArray, List.length_cons, List.length_nil, Nat.reduceAdd, Nat.reduceSub, Array.replicate_succ, Array.replicate_zero, List.push_toArray, List.append_toArray, List.nil_append, List.cons_append]
 gi_wp2
 gi_loopw [3] (fun i wr => ∃ k : Nat, k ≤ n ∧ i = .int .i64 ((n : Int) - 1 - (k : Nat)) ∧ J k wr ∧ BackKp n₀ Bs W wr)
  (fun i _ => (intOf i + 1).toNat)
 case atStart => exact ⟨0, Nat.zero_le _, by go_num, h0, Below.refl _ _, rfl⟩
 case round =>
  obtain ⟨k, hk, rfl, hJs, hnx⟩ := hrel
  have hOwn : Own wr Bs 27 [.slice A n c] := hnx.2.trans hBW
  have c0 := hOwn.c0
  by_cases hlt' : k < n
  ·obtain ⟨b, o, rfl, hb, hcell⟩ := hrW (by omega)
   have hcx : wr.cell? ⟨b, o + (n - 1 - k), none⟩ = some (.int .u32 (ix xs (n - 1 - k) : Nat)) := (hnx.1.cell (p := ⟨b, o + (n - 1 - k), none⟩) (hlt b o rfl (by omega))).trans (hcell (n - 1 - k) (by omega))
   clear hcell
   obtain ⟨fn, tmps, assign, body, hy, hR⟩ := hY k wr hJs hlt'
   unfold backEnc at hy
   have e : (n : Int) - 1 - (k : Int) = ((n - 1 - k : Nat) : Int) := by omega
   rw [e]
   clear e
   obtain ⟨q, hq⟩ : ∃ q, n - 1 - k = q := ⟨_, rfl⟩
   rw [hq] at hy hcx ⊢
   have hqn : q < n := by omega
   have HQ := Lib.hid hq
   clear hq
   gi_wp2
   refine hR.mono ?_
   rintro e W3 (⟨rfl, hJ3, hk3⟩ | ⟨rfl, hJx3⟩)
   ·gi_wp2
    go_roundw
    case rel => exact ⟨k + 1, by omega, by have := HQ.out; congr 1; omega, hJ3, hnx.t hk3⟩
    case measure => have := HQ.out; simp [intOf]
   ·gi_wp2
    refine bodyPost_ret (results_none rfl _ _ _) rfl ?_
    exact ⟨⟨_, rfl⟩, .inr ⟨k + 1, by omega, hJx3⟩⟩
  ·obtain rfl : k = n := by omega
   gi_wp2
   go_end0
   exact ⟨⟨_, rfl⟩, .inl hJs⟩

set_option maxRecDepth 100000 in
set_option maxHeartbeats 1000000 in
theorem word_in (A : Option Addr) (n c : Nat) (xs : List Nat) (w : World) (e : xs.length = n) (h : Row w A n (u32 xs)) (ha : AllB xs) (hn : n ≤ 2) :
 Calls Tryz.prog 130 #[.slice A n c] w fun e w' => e = .returned (.tuple #[.int .u64 (val xs : Nat), .bool true]) ∧ Keeps w w' := by
 refine (callsIn_wide (n := 4)).1 ?_
 have hlt : ∀ b o, A = some ⟨b, o, none⟩ → 0 < n → b < w.heap.size := fun b o e hp => h.lt e hp
 refine callsIn_of_wp_marks Tryz.func130 rfl trivial ?_ rfl
 simp only [Tryz.ntmps130, List.size_toArray, List.length_cons, List.length_nil, Nat.reduceAdd, Nat.reduceSub, Array.replicate_succ, Array.replicate_zero, List.push_toArray, List.append_toArray, List.nil_append, List.cons_append]
 gi_wp2_with (refine ⟨trivial, ?_⟩; refine (callsIn_wide.2 (back_any A n c _)).mono ?_; rintro e w' ⟨rfl, rfl⟩)
 have hN := (Own.new w 111 [.int .u64 0]).alloc (.cells #[.slice A n c] 27)
 have hS := own2 w (.cells #[.int .u64 0] 111) 27 [.slice A n c]
 have hK := keep2 w (.cells #[.int .u64 0] 111) (.cells #[.slice A n c] 27)
 apply wpIn_range_idx (N := n) rfl (by omega) (gf := 194) (lb := #[.pointer (some ⟨w.heap.size + 1, 0, none⟩)]) rfl trivial (enters_of Tryz.func194 (by kernel_rfl) rfl)
  (back_seq Fence.wide _ trivial rfl (by omega) (w.heap.size + 1) w.heap.size n c A xs (by omega) _ hS (h.below hK) hlt) BackKp.t (BackKp.b (by simp; omega) (by simp)) bl (fun _ => rfl)
  (fun k W => Own W w.heap.size 111 [.int .u64 (val (xs.drop (n - k)) : Nat)] ∧ Own W (w.heap.size + 1) 27 [.slice A n c] ∧ Keeps w W) (fun _ _ _ => False)
  (fun k A B row hs hg hr => ⟨hs.1.nc hg (fun r e => (hr r e).2), hs.2.1.nc hg (fun r e => (hr r e).2), ownFrom_below (β := Nat) (Nat.le_refl _) (by simp; omega) k A B row hs.2.2 hg hr⟩)
  (fun _ _ _ _ _ hs _ _ => hs)
  ⟨by subst e; simpa [val] using hN, hS, hK⟩
 case hassign =>
  intro l x W K hK
  unfold backEnc
  gi_wp2
  exact hK
 case hbody =>
  rintro l k W ⟨h1, h2, h3⟩ hk
  have hdv : val (xs.drop (n - (k + 1))) = ix xs (n - 1 - k) + 1000000000 * val (xs.drop (n - k)) := by
   rw [val_drop xs (n - (k + 1)) (by omega), show n - (k + 1) = n - 1 - k by omega, show n - 1 - k + 1 = n - k by omega]
  have hvb : ((val (xs.drop (n - k)) : Nat) : Int) < 1000000000 := by
   have h1 := val_lt (ha.drop (n - k))
   have h2 : (xs.drop (n - k)).length ≤ 1 := by rw [List.length_drop]; omega
   have h3 : 1000000000 ^ (xs.drop (n - k)).length ≤ 1000000000 ^ 1 := Nat.pow_le_pow_right (by omega) h2
   omega
  have hxb : ((ix xs (n - 1 - k) : Nat) : Int) < 1000000000 := by have := ha.ix (n - 1 - k); omega
  have HD := Lib.hid hdv
  clear hdv
  have c0 := h1.c0
  have f0 := h1.frozen 0
  gi_wp2
  refine ⟨(KeepsOthers.setCell _ _ _).from _, ⟨(Below.refl _ W).setCell (p := ⟨w.heap.size, 0, none⟩) (Nat.le_refl _) _, Below.heap_setCell _ _ _ _ (by simp)⟩, ?_, h2.far (by simp) _, h3.set (Nat.le_refl _) _⟩
  have := h1.set 0 (.int .u64 (val (xs.drop (n - (k + 1))) : Nat))
  rw [show ((val (List.drop (n - k) xs) : Nat) : Int) * 1000000000 + ((ix xs (n - 1 - k) : Nat) : Int) = ((val (xs.drop (n - (k + 1))) : Nat) : Int) by have := HD.out; omega]
  exact this
 case hdone =>
  rintro D W hD ⟨h1, h2, h3⟩ hDf
  have c0 := h1.c0
  gi_wp2
  refine ⟨by simp, .inl ⟨_, _, rfl, run_takeDeferred hDf, ?_⟩⟩
  refine ⟨_, results_tmp2 rfl _ _ _, ?_, h3.trans (belowK_b (w := w) (Nat.le_refl _) W D _ _ (by simp at hD; omega) hDf rfl rfl)⟩
  simp
 case hstop =>
  rintro D c k W _ _ h _
  exact h.elim

set_option maxRecDepth 100000 in
set_option maxHeartbeats 400000 in
theorem word_long (A : Option Addr) (n c : Nat) (w : World) (hn : 2 < n) (hm : n ≤ 1000000000) :
 Calls Tryz.prog 130 #[.slice A n c] w fun e w' => e = .returned (.tuple #[.int .u64 0, .bool false]) ∧ w = w' := by
 go_enter Tryz.func130, Tryz.ntmps130
 go_wp2
 go_ret2
 exact ⟨rfl, rfl⟩
def wordV (m : Nat) : Value := if m < 1000000000000000000 then .tuple #[.int .u64 (m : Nat), .bool true] else .tuple #[.int .u64 0, .bool false]
theorem word_any (v : Value) (m : Nat) (w : World) (h : U32 w v (dig m)) (hm : (dig m).length ≤ 1000000) :
 Calls Tryz.prog 130 #[v] w fun e w' => e = .returned (wordV m) ∧ Keeps w w' := by
 obtain ⟨A, n, c, rfl, e, hc, _, h0, hr⟩ := h.open_
 by_cases hs : m < 1000000000000000000
 ·have : (dig m).length ≤ 2 := dig_length_le (by omega)
  have := word_in A n c (dig m) w e hr (AllB.dig m) (by omega)
  rw [val_dig] at this
  unfold wordV
  rw [if_pos hs]
  exact this
 ·have hl : 2 < n := by
   rcases Nat.lt_or_ge 2 n with h | h
   ·exact h
   ·have := dig_lt m
    have h3 : 1000000000 ^ (dig m).length ≤ 1000000000 ^ 2 := Nat.pow_le_pow_right (by omega) (by omega)
    omega
  unfold wordV
  rw [if_neg hs]
  exact (word_long A n c w hl (by omega)).mono fun _ _ ⟨a, b⟩ => ⟨a, by subst b; exact Below.refl _ _⟩
end Go.Proofs.YtgcigdahjabimaaGreatDoor
