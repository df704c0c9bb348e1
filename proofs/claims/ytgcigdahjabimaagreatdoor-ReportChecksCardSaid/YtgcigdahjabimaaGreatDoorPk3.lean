/- The walks of Of, Valid, groups and their callees. -/
import Derived.Test.YtgcigdahjabimaaGreatDoorPk2
namespace Go.Proofs.YtgcigdahjabimaaGreatDoor
open Go.RowKit

def validB (neg : Bool) (xs : List Nat) : Bool := if xs.length = 0 then !neg else (ix xs (xs.length - 1) != 0) && xs.all (fun g => decide (g < 1000000000))
def anyBig (xs : List Nat) : Bool := xs.any fun g => decide (1000000000 ≤ g)

theorem valid1_any (x : Nat) (w : World) :
 Calls Tryz.prog 126 #[.int .u32 (x : Nat)] w fun e w' => e = .returned (.bool (decide ((1000000000 : Int) ≤ (x : Int)))) ∧ w = w' := by
 go_enter Tryz.func126, Tryz.ntmps126
 go_wp2
 go_ret
 exact ⟨rfl, rfl⟩

theorem anyBig_take (xs : List Nat) (k : Nat) (h : k < xs.length) : anyBig (xs.take (k + 1)) = (anyBig (xs.take k) || decide (1000000000 ≤ ix xs k)) := by
 unfold anyBig
 rw [take_snoc xs k h, List.any_append]
 simp
theorem anyBig_of (xs : List Nat) (k : Nat) (h : k < xs.length) (hb : 1000000000 ≤ ix xs k) : anyBig xs = true := by
 unfold anyBig
 rw [List.any_eq_true]
 exact ⟨ix xs k, by rw [ix_get xs k h]; exact List.getElem_mem h, by simpa using hb⟩

def Found (b : Bool) (w : World) (e : Ending) (w' : World) : Prop := ∃ r : Int, e = .returned (.int .i64 r) ∧ decide (0 ≤ r) = b ∧ w = w'

set_option maxRecDepth 100000 in
set_option maxHeartbeats 400000 in
theorem indexBig_any (A : Option Addr) (n c : Nat) (xs : List Nat) (w : World) (e : xs.length = n) (h : Row w A n (u32 xs)) (hm : n ≤ 9000000000) :
 Calls Tryz.prog 165 #[.slice A n c, .func (.func 126) #[] #[]] w (Found (anyBig xs) w) := by
 have HE := Lib.hid e
 clear e
 go_enter Tryz.func165, Tryz.ntmps165
 go_wp2
 go_loop [8] (fun i => ∃ k : Nat, k ≤ n ∧ i = .int .i64 (k : Nat) ∧ anyBig (xs.take k) = false) (fun i => n - (intOf i).toNat)
 case atStart => exact ⟨0, by omega, rfl, rfl⟩
 case round =>
  obtain ⟨k, hk, rfl, hn⟩ := hrel
  have HN := Lib.hid hn
  clear hn
  by_cases hlt : k < n
  ·obtain ⟨b, o, rfl, hb, hcell⟩ := h (by omega)
   have hx : w.cell? ⟨b, o + k, none⟩ = some (.int .u32 (ix xs k : Nat)) := hcell k hlt
   clear hcell
   rcases Nat.lt_or_ge (ix xs k) 1000000000 with hs | hs
   ·have hD : decide ((1000000000 : Int) ≤ (ix xs k : Int)) = false := decide_eq_false (by omega)
    have HS := Lib.hid hs
    clear hs
    go_wp2_with (go_at_call 126; refine (valid1_any _ _).mono ?_; rintro e w' ⟨rfl, rfl⟩)
    go_round
    case rel => exact ⟨k + 1, by omega, by go_num, by rw [anyBig_take xs k (by rw [HE.out]; exact hlt), HN.out, decide_eq_false (by have := HS.out; omega)]; rfl⟩
    case measure => simp [intOf]; omega
   ·have hD : decide ((1000000000 : Int) ≤ (ix xs k : Int)) = true := decide_eq_true (by omega)
    have HS := Lib.hid hs
    clear hs
    go_wp2_with (go_at_call 126; refine (valid1_any _ _).mono ?_; rintro e w' ⟨rfl, rfl⟩)
    go_ret
    exact ⟨_, rfl, by rw [anyBig_of xs k (by rw [HE.out]; exact hlt) HS.out]; simp, rfl⟩
  ·obtain rfl : k = n := by omega
   go_wp2
   go_ret
   have he := HE.out
   subst he
   exact ⟨_, rfl, by have := HN.out; rw [List.take_length] at this; rw [this]; rfl, rfl⟩

theorem containsBig_any (A : Option Addr) (n c : Nat) (xs : List Nat) (w : World) (e : xs.length = n) (h : Row w A n (u32 xs)) (hm : n ≤ 9000000000) :
 Calls Tryz.prog 125 #[.slice A n c, .func (.func 126) #[] #[]] w fun e w' => e = .returned (.bool (anyBig xs)) ∧ w = w' := by
 have hI := Lib.hid (indexBig_any A n c xs w e h hm)
 go_enter Tryz.func125, Tryz.ntmps125
 go_wp2_with fail
 refine hI.out.mono ?_
 rintro e w1 ⟨r, rfl, hr, rfl⟩
 have HR := Lib.hid hr
 clear hr
 go_wp2
 go_ret
 exact ⟨by rw [← HR.out]; rfl, rfl⟩

theorem validB_ne {neg : Bool} {xs : List Nat} {n : Nat} (e : xs.length = n) (h : n ≠ 0) : validB neg xs = ((ix xs (n - 1) != 0) && !anyBig xs) := by
 subst e
 unfold validB anyBig
 rw [if_neg h]
 congr 1
 induction xs with
 | nil => rfl
 | cons x r ih =>
  by_cases hr : r.length = 0
  ·have : r = [] := List.eq_nil_of_length_eq_zero hr
   subst this
   by_cases hx : x < 1000000000
   ·simp [hx]
   ·simp [hx]; omega
  ·simp only [List.all_cons, List.any_cons, ih hr]
   by_cases hx : x < 1000000000
   ·simp [hx]
   ·simp [hx]

set_option maxRecDepth 100000 in
set_option maxHeartbeats 400000 in
theorem valid_any (neg : Bool) (A : Option Addr) (n c : Nat) (xs : List Nat) (w : World) (e : xs.length = n) (h : Row w A n (u32 xs)) (hm : n ≤ 9000000000) :
 Calls Tryz.prog 85 #[.agg #[.bool neg, .slice A n c]] w fun e w' => e = .returned (.bool (validB neg xs)) ∧ Keeps w w' := by
 have hkk : Keeps w (w.alloc (.cells #[.bool neg, .slice A n c] 29)) := bl.alloc (Nat.le_refl _) _
 rcases Nat.eq_zero_or_pos n with h0 | h0
 ·subst h0
  have HE := Lib.hid e
  clear e
  go_enter Tryz.func85, Tryz.ntmps85
  go_wp2
  go_ret
  exact ⟨by unfold validB; rw [if_pos HE.out]; rfl, hkk⟩
 ·have HC := Lib.hid (containsBig_any A n c xs (w.alloc (.cells #[.bool neg, .slice A n c] 29)) e (h.below hkk) hm)
  have HV := Lib.hid (validB_ne (neg := neg) e (by omega))
  obtain ⟨b, o, rfl, hb, hcell⟩ := (h.below hkk) h0
  have hx := hcell (n - 1) (by omega)
  unfold u32 at hx
  clear hcell
  have hn0 : ((n : Int) == 0) = false := by simp; omega
  have h1 : (1 : Int) ≤ n := by omega
  by_cases hz : ix xs (n - 1) = 0
  ·have hb2 : (((ix xs (n - 1) : Nat) : Int) != 0) = false := by simp [hz]
   have HZ := Lib.hid hz
   clear hz
   go_enter Tryz.func85, Tryz.ntmps85
   go_wp2
   go_ret
   exact ⟨by rw [HV.out, HZ.out]; rfl, hkk⟩
  ·have hb2 : (((ix xs (n - 1) : Nat) : Int) != 0) = true := by simpa using hz
   have HZ := Lib.hid hz
   clear hz
   go_enter Tryz.func85, Tryz.ntmps85
   go_wp2_with (go_at_call 125; refine HC.out.mono ?_; rintro e w' ⟨rfl, rfl⟩)
   go_ret
   exact ⟨by rw [HV.out]; simp [HZ.out], hkk⟩

def mag (neg : Bool) (xs : List Nat) : Nat := if validB neg xs then val xs else 0
def cnt (neg : Bool) (xs : List Nat) : Int := sgn neg (mag neg xs)
theorem allB_of_all {xs : List Nat} (h : xs.all (fun g => decide (g < 1000000000)) = true) : AllB xs := by
 intro x hx
 have := List.all_eq_true.1 h x hx
 simpa using this
theorem validB_allB {neg : Bool} {xs : List Nat} (h : validB neg xs = true) : AllB xs := by
 unfold validB at h
 split at h
 ·next h0 => rw [List.eq_nil_of_length_eq_zero h0]; exact AllB.nil
 ·rw [Bool.and_eq_true] at h; exact allB_of_all h.2
theorem validB_dig {neg : Bool} {xs : List Nat} (h : validB neg xs = true) : dig (val xs) = xs := by
 refine dig_of (validB_allB h) fun hp => ?_
 unfold validB at h
 rw [if_neg (by omega), Bool.and_eq_true] at h
 simpa using h.1
theorem dig_mag {neg : Bool} {xs : List Nat} (h : validB neg xs = true) : dig (mag neg xs) = xs := by
 unfold mag; rw [if_pos h]; exact validB_dig h
theorem dig_mag_not {neg : Bool} {xs : List Nat} (h : validB neg xs = false) : dig (mag neg xs) = [] := by
 unfold mag; rw [if_neg (by rw [h]; simp)]; exact dig_zero
def IntArg (w : World) (V : Value) (neg : Bool) (xs : List Nat) : Prop := ∃ v, V = .agg #[.bool neg, v] ∧ U32 w v xs
theorem IntArg.below {w w' : World} {V : Value} {neg : Bool} {xs : List Nat} (h : IntArg w V neg xs) (hb : Below w.heap.size w w') : IntArg w' V neg xs := by
 obtain ⟨v, rfl, hv⟩ := h
 exact ⟨v, rfl, hv.below hb⟩

set_option maxRecDepth 100000 in
set_option maxHeartbeats 400000 in
theorem groups_any (neg : Bool) (xs : List Nat) (V : Value) (w : World) (h : IntArg w V neg xs) (hm : xs.length ≤ 1000000) :
 Calls Tryz.prog 127 #[V] w fun e w' => ∃ v, e = .returned v ∧ U32 w' v (dig (mag neg xs)) ∧ Keeps w w' := by
 obtain ⟨v, rfl, A, c, rfl, hc, hcm, h0, hr⟩ := h
 have hkk : Keeps w (w.alloc (.cells #[.bool neg, .slice A xs.length c] 29)) := bl.alloc (Nat.le_refl _) _
 have hV := Lib.hid (valid_any neg A xs.length c xs (w.alloc (.cells #[.bool neg, .slice A xs.length c] 29)) rfl (hr.below hkk) (by omega))
 cases hb : validB neg xs with
 | true =>
  have HB := Lib.hid hb
  rw [hb] at hV
  clear hb
  go_enter Tryz.func127, Tryz.ntmps127
  go_wp2_with fail
  refine hV.out.mono ?_
  rintro e w1 ⟨rfl, hk1⟩
  obtain ⟨hc1, hf1⟩ := bcell hk1
  go_wp2
  go_ret
  exact ⟨_, rfl, by rw [dig_mag HB.out]; exact ⟨_, _, rfl, hc, hcm, h0, (hr.below hkk).below hk1⟩, hkk.trans (hk1.mono (by simp))⟩
 | false =>
  have HB := Lib.hid hb
  rw [hb] at hV
  clear hb
  go_enter Tryz.func127, Tryz.ntmps127
  go_wp2_with fail
  refine hV.out.mono ?_
  rintro e w1 ⟨rfl, hk1⟩
  obtain ⟨hc1, hf1⟩ := bcell hk1
  go_wp2
  go_ret
  exact ⟨_, rfl, by rw [dig_mag_not HB.out]; exact U32.nil, hkk.trans (hk1.mono (by simp))⟩
end Go.Proofs.YtgcigdahjabimaaGreatDoor
