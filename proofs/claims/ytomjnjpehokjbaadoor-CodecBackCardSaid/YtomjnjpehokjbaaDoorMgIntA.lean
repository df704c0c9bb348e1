/- The walks of the magnitudes' small functions. The walks of plus and minus. The walks of made, split, Of, Valid, groups. The walks of Of, Valid, groups and their callees. The walks of Sign, Neg, Abs, Of. slices.Backward of a magnitude: the iterator's contract; the walk of word. The walks of cmp.Compare and compare. The walks of times and short. The walks of sum, Add, Sub, Mul, Compare, Of. The walks of the reference's small functions: Valid, made, Value, Same, group. The walks of the reference's Same, group, size. The walks of the reference's size, plus, minus. The walks of the reference's minus, Sign, Neg, Abs, Of. The walks of the reference's Neg, Abs, Of. The walks of the reference's Add, Sub, Mul, Compare, Of. The walks of the reference's Sub, Compare, and of Of and Compare. The walk of the reference's Mul. The contracts once more, in one form: an api.Int that counts z. A store into a box of the call's own. No program in sight. -/
import Derived.Test.YtomjnjpehokjbaaDoorMgNum
import Derived.Test.YtomjnjpehokjbaaDoorProg
import Derived.WalkSpells
import Derived.Deep.RegionHeld3
import Derived.Deep.RegionWith
import Derived.Deep.QuietTactic
import Derived.BigQuiet
import Derived.Deep.DeepCutAuto
namespace Go.Proofs.YtomjnjpehokjbaaDoor
open Go.RowKit

theorem ret_slice {A : Option Addr} {n m c : Nat} (h : n = m) : Ending.returned (.slice A n c) = .returned (.slice A m c) := by rw [h]

set_option maxHeartbeats 400000 in
theorem trim_any (A : Option Addr) (c : Nat) (xs : List Nat) (w : World) (h : Row w A xs.length (u32 xs)) (hc : xs.length ≤ c) (hm : c ≤ maxLen) :
    Calls Tryd.prog 79 #[.slice A xs.length c] w fun e w' => e = .returned (.slice A (trimL xs).length c) ∧ w = w' := by
  unfold maxLen at hm
  go_enter Tryd.func79, Tryd.ntmps79
  go_wp2
  go_loop [0] (fun g => ∃ k : Nat, k ≤ xs.length ∧ trimL (xs.take k) = trimL xs ∧ g = .slice A k c) (fun g => lenOf g)
  case atStart => exact ⟨_, Nat.le_refl _, by simp, rfl⟩
  case round =>
    obtain ⟨k, hk, ht, rfl⟩ := hrel
    have HT := Lib.hid ht
    clear ht
    rcases Nat.eq_zero_or_pos k with rfl | hpos
    · go_wp2
      go_ret
      exact ⟨by rw [← HT.out]; simp [trimL], rfl⟩
    · obtain ⟨j, rfl⟩ : ∃ j, k = j + 1 := ⟨k - 1, by omega⟩
      obtain ⟨b, o, rfl, hb, hcell⟩ := h (by omega)
      have hx : w.cell? ⟨b, o + j, none⟩ = some (.int .u32 (ix xs j : Nat)) := hcell j (by omega)
      have hts := take_snoc xs j (by omega)
      clear hcell
      by_cases hz : ix xs j = 0
      · have HZ := Lib.hid hz
        rw [hz] at hx
        clear hz
        have HS := Lib.hid hts
        clear hts
        go_wp2
        go_round
        case rel => exact ⟨j, by omega, by rw [← HT.out, HS.out, HZ.out, trimL_snoc_zero], rfl⟩
        case measure => simp [lenOf]
      · have hb2 : (((ix xs j : Nat) : Int) == 0) = false := by simpa using hz
        have HS := Lib.hid hts
        clear hts
        go_wp2
        go_ret
        exact ⟨ret_slice (by rw [← HT.out, HS.out, trimL_snoc _ _ hz]; simp; omega), rfl⟩

/-- trim, with the length as a variable of its own -/
theorem trim_n (A : Option Addr) (n c : Nat) (xs : List Nat) (w : World) (e : xs.length = n) (h : Row w A n (u32 xs)) (hc : n ≤ c) (hm : c ≤ maxLen) :
    Calls Tryd.prog 79 #[.slice A n c] w fun e w' => e = .returned (.slice A (trimL xs).length c) ∧ w = w' := by
  subst e
  exact trim_any A c xs w h hc hm
end Go.Proofs.YtomjnjpehokjbaaDoor

namespace Go.Proofs.YtomjnjpehokjbaaDoor
open Go.RowKit

theorem info_u32 : (Tryd.prog.info? 49).map (fun i => (i.zero, i.size, i.bytes)) = some (some (.int .u32 0), 1, 4) := by kernel_rfl
theorem make_u32 (k : Int) (n : Nat) (e : k = (n : Int)) (h : n ≤ 4000000) : ∀ u : World, (Instr.makeSlice 23 (.int .i64 k) (.int .i64 k)).run Tryd.prog u =
    .ok (.slice (some ⟨u.heap.size, 0, none⟩) n n) (u.alloc (.cells (u32s (List.replicate n 0)).toArray 49)) := fun u => by
  subst e
  obtain ⟨i0, hi, hz0, hz1, hz2⟩ := info_parts info_u32
  have h := run_make (P := Tryd.prog) u 23 49 i0 (.int .u32 0) Tryd.underlying23 hi hz0 .i64 .i64 (n : Int) (n : Int) (by omega) (Int.le_refl _) (by rw [hz2]; omega) (by omega)
  rw [← madeCells_u32]
  simpa [hz1, Value.cells] using h

end Go.Proofs.YtomjnjpehokjbaaDoor

namespace Go.Proofs.YtomjnjpehokjbaaDoor
open Go.RowKit

/-- a magnitude with a sign -/
def sgn (neg : Bool) (m : Nat) : Int := if neg then -(m : Int) else m
/-- the value V is the canonical integer z -/
def IntRep (w : World) (V : Value) (z : Int) : Prop := ∃ v, V = .agg #[.bool (decide (z < 0)), v] ∧ U32 w v (dig z.natAbs)
theorem IntRep.below {w w' : World} {V : Value} {z : Int} (h : IntRep w V z) (hb : Below w.heap.size w w') : IntRep w' V z := by
  obtain ⟨v, rfl, hv⟩ := h
  exact ⟨v, rfl, hv.below hb⟩

theorem IntRep.zero (w : World) : IntRep w (.agg #[.bool false, .slice none 0 0]) 0 := ⟨.slice none 0 0, by simp, by simpa [dig_zero] using U32.nil⟩
theorem IntRep.mk {w : World} {v : Value} {neg : Bool} {m : Nat} (h : U32 w v (dig m)) (hm : m ≠ 0) : IntRep w (.agg #[.bool neg, v]) (sgn neg m) := by
  cases neg
  · exact ⟨v, by simp [sgn], by simpa [sgn] using h⟩
  · exact ⟨v, by simp [sgn]; omega, by simpa [sgn] using h⟩

set_option maxRecDepth 100000 in
set_option maxHeartbeats 400000 in
theorem made_any (neg : Bool) (A : Option Addr) (n c : Nat) (xs : List Nat) (w : World) (e : xs.length = n) (h : Row w A n (u32 xs)) (ha : AllB xs) (hc : n ≤ c) (hm : c ≤ maxLen) (h0 : A = none → c = 0) :
    Calls Tryd.prog 64 #[.bool neg, .slice A n c] w fun e w' => ∃ V, e = .returned V ∧ IntRep w' V (sgn neg (val xs)) ∧ Keeps w w' := by
  have HT := Lib.hid (trim_n A n c xs (w.alloc (.cells #[.bool false, .slice none 0 0] 25)) e (h.below ((Below.refl _ _).alloc (Nat.le_refl _) _)) hc hm)
  have HL := Lib.hid (trimL_eq ha)
  go_enter Tryd.func64, Tryd.ntmps64
  go_wp2_with fail
  refine HT.out.mono ?_
  rintro e w1 ⟨rfl, rfl⟩
  go_wp2
  · refine bodyPost_ret (v := .agg #[.bool false, .slice none 0 0]) (by simp [results, Tryd.results64, go_sem]) rfl ?_
    have h0 : val xs = 0 := by
      rw [← dig_length_zero, ← HL.out]
      have : (((trimL xs).length : Int) == 0) = true := by assumption
      simpa using this
    rw [h0]
    exact ⟨_, rfl, by simpa [sgn] using IntRep.zero _, (Below.refl _ _).alloc (Nat.le_refl _) _⟩
  · refine bodyPost_ret (v := .agg #[.bool neg, .slice A (trimL xs).length c]) (by simp [results, Tryd.results64, go_sem]) rfl ?_
    have h1 : val xs ≠ 0 := by
      have : (((trimL xs).length : Int) == 0) = false := by assumption
      rw [← Nat.pos_iff_ne_zero, Nat.pos_iff_ne_zero, ← dig_length_pos, ← HL.out]
      simp at this
      exact List.length_pos_iff.2 this
    exact ⟨_, rfl, IntRep.mk (by rw [← HL.out]; exact (U32.trim (by rw [e]; exact h) (by omega) hm h0).below ((Below.refl _ _).alloc (Nat.le_refl _) _)) h1, (Below.refl _ _).alloc (Nat.le_refl _) _⟩

theorem info32 : (Tryd.prog.info? 49).map (fun i => (i.zero, i.size, i.bytes)) = some (some (.int .u32 0), 1, 4) := info_u32

set_option maxRecDepth 100000 in
set_option maxHeartbeats 400000 in
theorem split_any (m : Nat) (w : World) (hm : (m : Int) ≤ 18446744073709551615) :
    Calls Tryd.prog 65 #[.int .u64 (m : Nat)] w fun e w' => ∃ v, e = .returned v ∧ U32 w' v (dig m) ∧ Keeps w w' := by
  obtain ⟨i0, hi, hz0, hz1, hz2⟩ := info_parts info_u32
  have hd3 : (dig m).length ≤ 3 := dig_length_le (by omega)
  go_enter Tryd.func65, Tryd.ntmps65
  go_wp2
  go_loopw [0, 3] (fun x g wr => ∃ (k : Nat) (out : List Nat), k ≤ m ∧ x = .int .u64 (k : Nat) ∧ out ++ dig k = dig m ∧ wr.ownsRow w.heap.size 49 1 g out.length (u32s out) ∧ Keeps w wr)
    (fun x _ _ => (intOf x).toNat)
  case atStart => exact ⟨m, [], Nat.le_refl _, rfl, rfl, World.ownsRow_nil _ _ _ _, Below.refl _ _⟩
  case round =>
    obtain ⟨k, out, hk, rfl, hd, hown, hk1⟩ := hrel
    by_cases hpos : 0 < k
    · have hol : out.length ≤ 2 := by
        have := congrArg List.length hd
        rw [List.length_append] at this
        have := dig_length_pos.2 (show k ≠ 0 by omega)
        omega
      rw [dig_pos (by omega)] at hd
      have HD := Lib.hid hd
      clear hd
      go_wp2_with (at_builtin; refine wpList_append_own _ rfl _ _ 23 rfl w.heap.size 49 i0 (.int .u32 0) 1 4 Tryd.underlying23 hi hz0 hz1 hz2 rfl (by decide) _ _ _ rfl (hown.alloc _) ⟨wr.heap.size, 0, none⟩ 1 1 [.int .u32 ((k : Int) % 1000000000)] rfl rfl (newcell _ _ _) (by simp [Value.oneCell']) (by simp only [maxLen]; omega) (by omega) (by have := hk1.size; simp; omega) ?_; intro v' w1 hown' hgrow _)
      rw [u32s_snoc out (k % 1000000000) (by omega)] at hown'
      have hk2 : Keeps w w1 := (hk1.alloc hk1.size _).grown hgrow (by have := hk1.size; simp; omega) (fun b e => (hown.lt b e).1)
      go_roundw
      case rel => exact ⟨k / 1000000000, out ++ [k % 1000000000], by omega, by go_num, by rw [List.append_assoc]; exact HD.out, by simpa using hown', hk2⟩
      case measure => simp [intOf]; omega
    · obtain rfl : k = 0 := by omega
      rw [dig_zero, List.append_nil] at hd
      have HD := Lib.hid hd
      clear hd
      go_wp2
      go_ret
      exact ⟨_, rfl, by rw [← HD.out]; exact U32.of_own hown, hk1⟩

end Go.Proofs.YtomjnjpehokjbaaDoor

namespace Go.Proofs.YtomjnjpehokjbaaDoor
open Go.RowKit

/-- is a list of groups with a sign canonical? -/
def validB (neg : Bool) (xs : List Nat) : Bool := if xs.length = 0 then !neg else (ix xs (xs.length - 1) != 0) && xs.all (fun g => decide (g < 1000000000))
def anyBig (xs : List Nat) : Bool := xs.any fun g => decide (1000000000 ≤ g)

theorem valid1_any (x : Nat) (w : World) :
    Calls Tryd.prog 67 #[.int .u32 (x : Nat)] w fun e w' => e = .returned (.bool (decide ((1000000000 : Int) ≤ (x : Int)))) ∧ w = w' := by
  go_enter Tryd.func67, Tryd.ntmps67
  go_wp2
  go_ret
  exact ⟨rfl, rfl⟩

theorem anyBig_take (xs : List Nat) (k : Nat) (h : k < xs.length) : anyBig (xs.take (k + 1)) = (anyBig (xs.take k) || decide (1000000000 ≤ ix xs k)) := by
  unfold anyBig
  rw [take_snoc xs k h, List.any_append]
  simp
theorem anyBig_of (xs : List Nat) (k : Nat) (h : k < xs.length) (hb : 1000000000 ≤ ix xs k) : anyBig xs = true := by
  unfold anyBig
  rw [List.any_eq_true]
  exact ⟨ix xs k, by rw [ix_get xs k h]; exact List.getElem_mem h, by simpa using hb⟩

def Found (b : Bool) (w : World) (e : Ending) (w' : World) : Prop := ∃ r : Int, e = .returned (.int .i64 r) ∧ decide (0 ≤ r) = b ∧ w = w'

set_option maxRecDepth 100000 in
set_option maxHeartbeats 400000 in
theorem indexBig_any (A : Option Addr) (n c : Nat) (xs : List Nat) (w : World) (e : xs.length = n) (h : Row w A n (u32 xs)) (hm : n ≤ 9000000000) :
    Calls Tryd.prog 80 #[.slice A n c, .func (.func 67) #[] #[]] w (Found (anyBig xs) w) := by
  have HE := Lib.hid e
  clear e
  go_enter Tryd.func80, Tryd.ntmps80
  go_wp2
  go_loop [8] (fun i => ∃ k : Nat, k ≤ n ∧ i = .int .i64 (k : Nat) ∧ anyBig (xs.take k) = false) (fun i => n - (intOf i).toNat)
  case atStart => exact ⟨0, by omega, rfl, rfl⟩
  case round =>
    obtain ⟨k, hk, rfl, hn⟩ := hrel
    have HN := Lib.hid hn
    clear hn
    by_cases hlt : k < n
    · obtain ⟨b, o, rfl, hb, hcell⟩ := h (by omega)
      have hx : w.cell? ⟨b, o + k, none⟩ = some (.int .u32 (ix xs k : Nat)) := hcell k hlt
      clear hcell
      rcases Nat.lt_or_ge (ix xs k) 1000000000 with hs | hs
      · have hD : decide ((1000000000 : Int) ≤ (ix xs k : Int)) = false := decide_eq_false (by omega)
        have HS := Lib.hid hs
        clear hs
        go_wp2_with (go_at_call 67; refine (valid1_any _ _).mono ?_; rintro e w' ⟨rfl, rfl⟩)
        go_round
        case rel => exact ⟨k + 1, by omega, by go_num, by rw [anyBig_take xs k (by rw [HE.out]; exact hlt), HN.out, decide_eq_false (by have := HS.out; omega)]; rfl⟩
        case measure => simp [intOf]; omega
      · have hD : decide ((1000000000 : Int) ≤ (ix xs k : Int)) = true := decide_eq_true (by omega)
        have HS := Lib.hid hs
        clear hs
        go_wp2_with (go_at_call 67; refine (valid1_any _ _).mono ?_; rintro e w' ⟨rfl, rfl⟩)
        go_ret
        exact ⟨_, rfl, by rw [anyBig_of xs k (by rw [HE.out]; exact hlt) HS.out]; simp, rfl⟩
    · obtain rfl : k = n := by omega
      go_wp2
      go_ret
      have he := HE.out
      subst he
      exact ⟨_, rfl, by have := HN.out; rw [List.take_length] at this; rw [this]; rfl, rfl⟩

theorem containsBig_any (A : Option Addr) (n c : Nat) (xs : List Nat) (w : World) (e : xs.length = n) (h : Row w A n (u32 xs)) (hm : n ≤ 9000000000) :
    Calls Tryd.prog 66 #[.slice A n c, .func (.func 67) #[] #[]] w fun e w' => e = .returned (.bool (anyBig xs)) ∧ w = w' := by
  have hI := Lib.hid (indexBig_any A n c xs w e h hm)
  go_enter Tryd.func66, Tryd.ntmps66
  go_wp2_with fail
  refine hI.out.mono ?_
  rintro e w1 ⟨r, rfl, hr, rfl⟩
  have HR := Lib.hid hr
  clear hr
  go_wp2
  go_ret
  exact ⟨by rw [← HR.out]; rfl, rfl⟩

theorem validB_ne {neg : Bool} {xs : List Nat} {n : Nat} (e : xs.length = n) (h : n ≠ 0) : validB neg xs = ((ix xs (n - 1) != 0) && !anyBig xs) := by
  subst e
  unfold validB anyBig
  rw [if_neg h]
  congr 1
  induction xs with
  | nil => rfl
  | cons x r ih =>
    by_cases hr : r.length = 0
    · have : r = [] := List.eq_nil_of_length_eq_zero hr
      subst this
      by_cases hx : x < 1000000000
      · simp [hx]
      · simp [hx]; omega
    · simp only [List.all_cons, List.any_cons, ih hr]
      by_cases hx : x < 1000000000
      · simp [hx]
      · simp [hx]

set_option maxRecDepth 100000 in
set_option maxHeartbeats 400000 in
theorem valid_any (neg : Bool) (A : Option Addr) (n c : Nat) (xs : List Nat) (w : World) (e : xs.length = n) (h : Row w A n (u32 xs)) (hm : n ≤ 9000000000) :
    Calls Tryd.prog 45 #[.agg #[.bool neg, .slice A n c]] w fun e w' => e = .returned (.bool (validB neg xs)) ∧ Keeps w w' := by
  have hkk : Keeps w (w.alloc (.cells #[.bool neg, .slice A n c] 25)) := (Below.refl _ _).alloc (Nat.le_refl _) _
  rcases Nat.eq_zero_or_pos n with h0 | h0
  · subst h0
    have HE := Lib.hid e
    clear e
    go_enter Tryd.func45, Tryd.ntmps45
    go_wp2
    go_ret
    exact ⟨by unfold validB; rw [if_pos HE.out]; rfl, hkk⟩
  · have HC := Lib.hid (containsBig_any A n c xs (w.alloc (.cells #[.bool neg, .slice A n c] 25)) e (h.below hkk) hm)
    have HV := Lib.hid (validB_ne (neg := neg) e (by omega))
    obtain ⟨b, o, rfl, hb, hcell⟩ := (h.below hkk) h0
    have hx := hcell (n - 1) (by omega)
    unfold u32 at hx
    clear hcell
    have hn0 : ((n : Int) == 0) = false := by simp; omega
    have h1 : (1 : Int) ≤ n := by omega
    by_cases hz : ix xs (n - 1) = 0
    · have hb2 : (((ix xs (n - 1) : Nat) : Int) != 0) = false := by simp [hz]
      have HZ := Lib.hid hz
      clear hz
      go_enter Tryd.func45, Tryd.ntmps45
      go_wp2
      go_ret
      exact ⟨by rw [HV.out, HZ.out]; rfl, hkk⟩
    · have hb2 : (((ix xs (n - 1) : Nat) : Int) != 0) = true := by simpa using hz
      have HZ := Lib.hid hz
      clear hz
      go_enter Tryd.func45, Tryd.ntmps45
      go_wp2_with (go_at_call 66; refine HC.out.mono ?_; rintro e w' ⟨rfl, rfl⟩)
      go_ret
      exact ⟨by rw [HV.out]; simp [HZ.out], hkk⟩

/-- the magnitude that counts, and the number -/
def mag (neg : Bool) (xs : List Nat) : Nat := if validB neg xs then val xs else 0
def cnt (neg : Bool) (xs : List Nat) : Int := sgn neg (mag neg xs)
theorem allB_of_all {xs : List Nat} (h : xs.all (fun g => decide (g < 1000000000)) = true) : AllB xs := by
  intro x hx
  have := List.all_eq_true.1 h x hx
  simpa using this
theorem validB_allB {neg : Bool} {xs : List Nat} (h : validB neg xs = true) : AllB xs := by
  unfold validB at h
  split at h
  · next h0 => rw [List.eq_nil_of_length_eq_zero h0]; exact AllB.nil
  · rw [Bool.and_eq_true] at h; exact allB_of_all h.2
theorem validB_dig {neg : Bool} {xs : List Nat} (h : validB neg xs = true) : dig (val xs) = xs := by
  refine dig_of (validB_allB h) fun hp => ?_
  unfold validB at h
  rw [if_neg (by omega), Bool.and_eq_true] at h
  simpa using h.1
theorem dig_mag {neg : Bool} {xs : List Nat} (h : validB neg xs = true) : dig (mag neg xs) = xs := by
  unfold mag; rw [if_pos h]; exact validB_dig h
theorem dig_mag_not {neg : Bool} {xs : List Nat} (h : validB neg xs = false) : dig (mag neg xs) = [] := by
  unfold mag; rw [if_neg (by rw [h]; simp)]; exact dig_zero
/-- a value of type api.Int, canonical or not: its sign and its groups -/
def IntArg (w : World) (V : Value) (neg : Bool) (xs : List Nat) : Prop := ∃ v, V = .agg #[.bool neg, v] ∧ U32 w v xs
theorem IntArg.below {w w' : World} {V : Value} {neg : Bool} {xs : List Nat} (h : IntArg w V neg xs) (hb : Below w.heap.size w w') : IntArg w' V neg xs := by
  obtain ⟨v, rfl, hv⟩ := h
  exact ⟨v, rfl, hv.below hb⟩

set_option maxRecDepth 100000 in
set_option maxHeartbeats 400000 in
theorem groups_any (neg : Bool) (xs : List Nat) (V : Value) (w : World) (h : IntArg w V neg xs) (hm : xs.length ≤ 1000000) :
    Calls Tryd.prog 62 #[V] w fun e w' => ∃ v, e = .returned v ∧ U32 w' v (dig (mag neg xs)) ∧ Keeps w w' := by
  obtain ⟨v, rfl, A, c, rfl, hc, hcm, h0, hr⟩ := h
  have hkk : Keeps w (w.alloc (.cells #[.bool neg, .slice A xs.length c] 25)) := (Below.refl _ _).alloc (Nat.le_refl _) _
  have hV := Lib.hid (valid_any neg A xs.length c xs (w.alloc (.cells #[.bool neg, .slice A xs.length c] 25)) rfl (hr.below hkk) (by omega))
  cases hb : validB neg xs with
  | true =>
    have HB := Lib.hid hb
    rw [hb] at hV
    clear hb
    go_enter Tryd.func62, Tryd.ntmps62
    go_wp2_with fail
    refine hV.out.mono ?_
    rintro e w1 ⟨rfl, hk1⟩
    obtain ⟨hc1, hf1⟩ := bcell hk1
    go_wp2
    go_ret
    exact ⟨_, rfl, by rw [dig_mag HB.out]; exact ⟨_, _, rfl, hc, hcm, h0, (hr.below hkk).below hk1⟩, hkk.trans (hk1.mono (by simp))⟩
  | false =>
    have HB := Lib.hid hb
    rw [hb] at hV
    clear hb
    go_enter Tryd.func62, Tryd.ntmps62
    go_wp2_with fail
    refine hV.out.mono ?_
    rintro e w1 ⟨rfl, hk1⟩
    obtain ⟨hc1, hf1⟩ := bcell hk1
    go_wp2
    go_ret
    exact ⟨_, rfl, by rw [dig_mag_not HB.out]; exact U32.nil, hkk.trans (hk1.mono (by simp))⟩
end Go.Proofs.YtomjnjpehokjbaaDoor

namespace Go.Proofs.YtomjnjpehokjbaaDoor
open Go.RowKit

theorem U32.open_ {w : World} {v : Value} {xs : List Nat} (h : U32 w v xs) : ∃ A n c, v = .slice A n c ∧ xs.length = n ∧ n ≤ c ∧ c ≤ maxLen ∧ (A = none → c = 0) ∧ Row w A n (u32 xs) := by
  obtain ⟨A, c, rfl, h1, h2, h3, h4⟩ := h
  exact ⟨A, _, c, rfl, rfl, h1, h2, h3, h4⟩
theorem IntRep.open_ {w : World} {V : Value} {z : Int} (h : IntRep w V z) : ∃ A n c, V = .agg #[.bool (decide (z < 0)), .slice A n c] ∧ U32 w (.slice A n c) (dig z.natAbs) := by
  obtain ⟨v, rfl, hv⟩ := h
  obtain ⟨A, n, c, rfl, -⟩ := hv.open_
  exact ⟨A, n, c, rfl, hv⟩
/-- a store of a struct's two cells into a result's cell -/
theorem IntRep.two {w : World} {V : Value} {z : Int} {R : Nat} {t : TypeId} {x y x' y' : Value} (h : IntRep w V z) (hR : Own w R t [x, y]) (hx : noU32 x = true) (hy : noU32 y = true) (hx' : noU32 x' = true) :
    IntRep ((w.setCell ⟨R, 0, none⟩ x').setCell ⟨R, 1, none⟩ y') V z := by
  obtain ⟨v, rfl, hv⟩ := h
  refine ⟨v, rfl, (hv.put hR (by simp [hx, hy]) 0 x').put (hR.set 0 x') (by simp [hx', hy]) 1 y'⟩
theorem sgn_zero (neg : Bool) : sgn neg 0 = 0 := by cases neg <;> rfl
theorem sgn_natAbs (neg : Bool) (m : Nat) : (sgn neg m).natAbs = m := by cases neg <;> simp [sgn]
theorem sgn_neg (neg : Bool) (m : Nat) : sgn (!neg) m = -sgn neg m := by cases neg <;> simp [sgn]
theorem sgn_sign (neg : Bool) (m : Nat) (h : 0 < m) : (sgn neg m).sign = if neg then -1 else 1 := by
  cases neg
  · exact Int.sign_eq_one_of_pos (by simp [sgn]; omega)
  · exact Int.sign_eq_neg_one_of_neg (by simp [sgn]; omega)
theorem ret_int {k : IntKind} {a b : Int} (h : b = a) : Ending.returned (.int k a) = .returned (.int k b) := by rw [h]
theorem box2 (w : World) (o : Obj) : Keeps w (w.alloc o) := (Below.refl _ _).alloc (Nat.le_refl _) _

/-- made, of a slice value that reads as a list -/
theorem made_u (neg : Bool) (v : Value) (xs : List Nat) (w : World) (h : U32 w v xs) (ha : AllB xs) :
    Calls Tryd.prog 64 #[.bool neg, v] w fun e w' => ∃ V, e = .returned V ∧ IntRep w' V (sgn neg (val xs)) ∧ Keeps w w' := by
  obtain ⟨A, n, c, rfl, e, hc, hm, h0, hr⟩ := h.open_
  exact made_any neg A n c xs w e hr ha hc hm h0
theorem made_d (neg : Bool) (v : Value) (m : Nat) (w : World) (h : U32 w v (dig m)) :
    Calls Tryd.prog 64 #[.bool neg, v] w fun e w' => ∃ V, e = .returned V ∧ IntRep w' V (sgn neg m) ∧ Keeps w w' := by
  have := made_u neg v (dig m) w h (AllB.dig m)
  rwa [val_dig] at this
theorem mag_length (neg : Bool) (xs : List Nat) : (dig (mag neg xs)).length ≤ xs.length := by
  cases h : validB neg xs with
  | true => rw [dig_mag h]; exact Nat.le_refl _
  | false => rw [dig_mag_not h]; simp

end Go.Proofs.YtomjnjpehokjbaaDoor

namespace Go.Proofs.YtomjnjpehokjbaaDoor
open Go.RowKit Go.Shelf
attribute [local go_sem] Oper.semAt_some

/-- what round number k of slices.Backward hands over -/
def backEnc (xs : List Nat) (n k : Nat) : Array Value := #[.int .i64 ((n - 1 - k : Nat) : Int), .int .u32 (ix xs (n - 1 - k) : Nat)]
/-- what a round keeps: all below n₀, and the iterator's box -/
def BackKp (n₀ Bs : Nat) (W W' : World) : Prop := Below n₀ W W' ∧ W'.heap[Bs]? = W.heap[Bs]?
theorem BackKp.t {n₀ Bs : Nat} {A B C : World} (h : BackKp n₀ Bs A B) (k : BackKp n₀ Bs B C) : BackKp n₀ Bs A C := ⟨h.1.trans k.1, k.2.trans h.2⟩
theorem BackKp.b {n₀ Bs : Nat} {w : World} (hn : n₀ ≤ w.heap.size) (hb : Bs < w.heap.size) (W : World) (l : Nat) (o o' : Obj) (hl : w.heap.size ≤ l) (h : W.heap[l]? = some o) (hc : o.isCells = false) (hw : o.isWalk = false) : BackKp n₀ Bs W (W.putObj l o') :=
  ⟨belowK_b hn W l o o' hl h hc hw, World.putObj_heap_other (by omega)⟩

theorem back_any (A : Option Addr) (n c : Nat) (w : World) :
    Calls Tryd.prog 63 #[.slice A n c] w fun e w' => e = .returned (.func (.func 78) #[] #[.pointer (some ⟨w.heap.size, 0, none⟩)]) ∧ w' = w.alloc (.cells #[.slice A n c] 23) := by
  go_enter Tryd.func63, Tryd.ntmps63
  go_wp2
  go_ret
  exact ⟨rfl, rfl⟩

set_option maxRecDepth 100000 in
set_option maxHeartbeats 1000000 in
theorem back_seq (F : Fence) (m : Nat) (hF : F.fn 78) (hro : F.round = none) (hm : 1 ≤ m) (Bs n₀ n c : Nat) (A : Option Addr) (xs : List Nat) (hn : n ≤ 1000000000) (w : World)
    (hBs : Own w Bs 23 [.slice A n c]) (hr : Row w A n (u32 xs)) (hlt : ∀ b o, A = some ⟨b, o, none⟩ → 0 < n → b < n₀) :
    SeqIdx F m Tryd.prog 78 #[.pointer (some ⟨Bs, 0, none⟩)] (backEnc xs n) (BackKp n₀ Bs) n w := by
  intro l J Jx W hW hJ hJx hY h0
  have hBW := hBs.below hW
  have hrW := hr.below hW
  have b0 := hBW.c0
  refine callsIn_of_wp Tryd.func78 rfl hF ?_ hro
  simp only [Tryd.ntmps78, List.size_toArray, List.length_cons, List.length_nil, Nat.reduceAdd, Nat.reduceSub, Array.replicate_succ, Array.replicate_zero, List.push_toArray, List.append_toArray, List.nil_append, List.cons_append]
  gi_wp2
  gi_loopw [3] (fun i wr => ∃ k : Nat, k ≤ n ∧ i = .int .i64 ((n : Int) - 1 - (k : Nat)) ∧ J k wr ∧ BackKp n₀ Bs W wr)
    (fun i _ => (intOf i + 1).toNat)
  case atStart => exact ⟨0, Nat.zero_le _, by go_num, h0, Below.refl _ _, rfl⟩
  case round =>
    obtain ⟨k, hk, rfl, hJs, hnx⟩ := hrel
    have hOwn : Own wr Bs 23 [.slice A n c] := hnx.2.trans hBW
    have c0 := hOwn.c0
    by_cases hlt' : k < n
    · obtain ⟨b, o, rfl, hb, hcell⟩ := hrW (by omega)
      have hcx : wr.cell? ⟨b, o + (n - 1 - k), none⟩ = some (.int .u32 (ix xs (n - 1 - k) : Nat)) := (hnx.1.cell (p := ⟨b, o + (n - 1 - k), none⟩) (hlt b o rfl (by omega))).trans (hcell (n - 1 - k) (by omega))
      clear hcell
      obtain ⟨fn, tmps, assign, body, hy, hR⟩ := hY k wr hJs hlt'
      unfold backEnc at hy
      have e : (n : Int) - 1 - (k : Int) = ((n - 1 - k : Nat) : Int) := by omega
      rw [e]
      clear e
      obtain ⟨q, hq⟩ : ∃ q, n - 1 - k = q := ⟨_, rfl⟩
      rw [hq] at hy hcx ⊢
      have hqn : q < n := by omega
      have HQ := Lib.hid hq
      clear hq
      gi_wp2
      refine hR.mono ?_
      rintro e W3 (⟨rfl, hJ3, hk3⟩ | ⟨rfl, hJx3⟩)
      · gi_wp2
        go_roundw
        case rel => exact ⟨k + 1, by omega, by have := HQ.out; congr 1; omega, hJ3, hnx.t hk3⟩
        case measure => have := HQ.out; simp [intOf]
      · gi_wp2
        refine bodyPost_ret (results_none rfl _ _ _) rfl ?_
        exact ⟨⟨_, rfl⟩, .inr ⟨k + 1, by omega, hJx3⟩⟩
    · obtain rfl : k = n := by omega
      gi_wp2
      go_end0
      exact ⟨⟨_, rfl⟩, .inl hJs⟩

/-- word: a magnitude of at most two groups -/
theorem val_drop_all (xs : List Nat) : val (xs.drop xs.length) = 0 := by simp [val]

/-- word, of a magnitude -/
def wordV (m : Nat) : Value := if m < 1000000000000000000 then .tuple #[.int .u64 (m : Nat), .bool true] else .tuple #[.int .u64 0, .bool false]
end Go.Proofs.YtomjnjpehokjbaaDoor

namespace Go.Proofs.YtomjnjpehokjbaaDoor
open Go.RowKit Go.Shelf
attribute [local go_sem] Oper.semAt_some

theorem sub_sign (x y : Int) : (x < y ∧ (x - y).sign = -1) ∨ (x = y ∧ (x - y).sign = 0) ∨ (y < x ∧ (x - y).sign = 1) := by
  rcases Int.lt_trichotomy x y with h | h | h
  · exact .inl ⟨h, Int.sign_eq_neg_one_of_neg (by omega)⟩
  · exact .inr (.inl ⟨h, by subst h; simp⟩)
  · exact .inr (.inr ⟨h, Int.sign_eq_one_of_pos (by omega)⟩)

end Go.Proofs.YtomjnjpehokjbaaDoor

namespace Go.Proofs.YtomjnjpehokjbaaDoor
open Go.RowKit Go.Shelf

theorem cast_div (o p q c : Nat) : ((o : Int) + p * q + c) / 1000000000 = (((o + p * q + c) / 1000000000 : Nat) : Int) := by
  have : ((p * q : Nat) : Int) = (p : Int) * q := Int.natCast_mul _ _
  omega
theorem cast_mod (o p q c : Nat) : ((o : Int) + p * q + c) % 1000000000 = (((o + p * q + c) % 1000000000 : Nat) : Int) := by
  have : ((p * q : Nat) : Int) = (p : Int) * q := Int.natCast_mul _ _
  omega
end Go.Proofs.YtomjnjpehokjbaaDoor

namespace Go.Proofs.YtomjnjpehokjbaaDoor
open Go.RowKit Go.Shelf

end Go.Proofs.YtomjnjpehokjbaaDoor

namespace Go.Proofs.YtomjnjpehokjbaaDoor
open Go.RowKit Go.Shelf

theorem validB_big {neg : Bool} {xs : List Nat} {k : Nat} (hk : k < xs.length) (h : 1000000000 ≤ ix xs k) : validB neg xs = false := by
  rw [validB_ne rfl (by omega), anyBig_of xs k hk h]; simp
theorem validB_small {neg : Bool} {xs : List Nat} {n : Nat} (e : xs.length = n) (h0 : n ≠ 0) (h : anyBig xs = false) : validB neg xs = (ix xs (n - 1) != 0) := by
  rw [validB_ne e h0, h]; simp

set_option maxRecDepth 100000 in
set_option maxHeartbeats 400000 in
theorem rvalid_any (neg : Bool) (A : Option Addr) (n c : Nat) (xs : List Nat) (w : World) (e : xs.length = n) (h : Row w A n (u32 xs)) (hm : n ≤ 1000000000) :
    Calls Tryd.prog 76 #[.agg #[.bool neg, .slice A n c]] w fun e w' => e = .returned (.bool (validB neg xs)) ∧ Keeps w w' := by
  have hkk := box2 w (.cells #[.bool neg, .slice A n c] 25)
  have h1 := h.below hkk
  have HE := Lib.hid e
  clear e
  go_enter Tryd.func76, Tryd.ntmps76
  go_wp2
  go_loop [4] (fun i => ∃ k : Nat, k ≤ n ∧ i = .int .i64 (k : Nat) ∧ anyBig (xs.take k) = false) (fun i => n - (intOf i).toNat)
  case atStart => exact ⟨0, by omega, rfl, rfl⟩
  case round =>
    obtain ⟨k, hk, rfl, hn⟩ := hrel
    have HN := Lib.hid hn
    clear hn
    by_cases hlt : k < n
    · obtain ⟨b, o, rfl, hb, hcell⟩ := h1 (by omega)
      have hx : (w.alloc (.cells #[.bool neg, .slice (some ⟨b, o, none⟩) n c] 25)).cell? ⟨b, o + k, none⟩ = some (.int .u32 (ix xs k : Nat)) := hcell k hlt
      clear hcell
      rcases Nat.lt_or_ge (ix xs k) 1000000000 with hs | hs
      · have hD : decide ((1000000000 : Int) ≤ (ix xs k : Int)) = false := decide_eq_false (by omega)
        have HS := Lib.hid hs
        clear hs
        go_wp2
        go_round
        case rel => exact ⟨k + 1, by omega, by go_num, by rw [anyBig_take xs k (by rw [HE.out]; exact hlt), HN.out, decide_eq_false (by have := HS.out; omega)]; rfl⟩
        case measure => simp [intOf]; omega
      · have hD : decide ((1000000000 : Int) ≤ (ix xs k : Int)) = true := decide_eq_true (by omega)
        have HS := Lib.hid hs
        clear hs
        go_wp2
        go_ret
        exact ⟨by rw [validB_big (neg := neg) (by rw [HE.out]; exact hlt) HS.out]; rfl, hkk⟩
    · obtain rfl : k = n := by omega
      rcases Nat.eq_zero_or_pos k with h0 | h0
      · subst h0
        go_wp2
        go_ret
        exact ⟨by unfold validB; rw [if_pos HE.out]; rfl, hkk⟩
      · have hk0 : ((k : Int) == 0) = false := by simp; omega
        obtain ⟨b, o, rfl, hb, hcell⟩ := h1 (by omega)
        have hx : (w.alloc (.cells #[.bool neg, .slice (some ⟨b, o, none⟩) k c] 25)).cell? ⟨b, o + (k - 1), none⟩ = some (.int .u32 (ix xs (k - 1) : Nat)) := hcell (k - 1) (by omega)
        clear hcell
        go_wp2
        go_ret
        have hb : anyBig xs = false := by have := HN.out; rwa [← HE.out, List.take_length] at this
        exact ⟨by rw [validB_small HE.out (by omega) hb]; exact congrArg (fun b => Ending.returned (.bool b)) (bne_cast _), hkk⟩

theorem U32.empty (w : World) (a : Addr) : U32 w (.slice (some a) 0 0) [] := ⟨some a, 0, rfl, Nat.le_refl _, by simp [maxLen], (by intro h; cases h), Row.zero⟩
theorem IntRep.of_nil {w : World} {v : Value} (h : U32 w v []) : IntRep w (.agg #[.bool false, v]) 0 := ⟨v, by simp, by simpa [dig_zero] using h⟩
theorem validB_nil {neg : Bool} (h : validB neg [] = true) : neg = false := by simpa [validB] using h
theorem cnt_neg {neg : Bool} {xs : List Nat} (h : validB neg xs = true) : decide (cnt neg xs < 0) = neg := by
  unfold cnt mag
  rw [if_pos h]
  cases neg with
  | false => simp [sgn]
  | true =>
    have : val xs ≠ 0 := by
      intro h0
      have := validB_dig h
      rw [h0, dig_zero] at this
      subst this
      cases validB_nil h
    simp [sgn]; omega
theorem cnt_abs (neg : Bool) (xs : List Nat) : (cnt neg xs).natAbs = mag neg xs := sgn_natAbs _ _

set_option maxRecDepth 100000 in
set_option maxHeartbeats 400000 in
theorem rvalue_any (neg : Bool) (xs : List Nat) (V : Value) (w : World) (h : IntArg w V neg xs) (hm : xs.length ≤ 1000000) :
    Calls Tryd.prog 77 #[V] w fun e w' => ∃ V, e = .returned V ∧ IntRep w' V (cnt neg xs) ∧ Keeps w w' := by
  obtain ⟨i0, hi, hz0, hz1, hz2⟩ := info_parts info_u32
  obtain ⟨v, rfl, hv⟩ := h
  obtain ⟨A, n, c, rfl, e, hc, hcm, h0, hr⟩ := hv.open_
  have hkk := keep2 w (.cells #[.bool neg, .slice A n c] 25) (.cells #[.bool false, .slice none 0 0] 25)
  have hR := own2 w (.cells #[.bool neg, .slice A n c] 25) 25 [.bool false, .slice none 0 0]
  have hB := (Own.new w 25 [.bool neg, .slice A n c]).alloc (.cells #[.bool false, .slice none 0 0] 25)
  have hV := Lib.hid (rvalid_any neg A n c xs _ e (hr.below hkk) (by omega))
  cases hb : validB neg xs with
  | false =>
    have HB := Lib.hid hb
    rw [hb] at hV
    clear hb e
    go_enter Tryd.func77, Tryd.ntmps77
    go_wp2_with fail
    refine hV.out.mono ?_
    rintro e w1 ⟨rfl, hk1⟩
    have hR1 := hR.below hk1
    have r0 := hR1.c0
    have r1 := hR1.c1
    have f0 := hR1.frozen 0
    have f1 := hR1.frozen 1
    go_wp2
    have hR4 := hR1.two (.bool false) (.slice none 0 0)
    refine bodyPost_ret (v := .agg #[.bool false, .slice none 0 0]) (by simp [results, Tryd.results77, go_sem, hR4.c0, hR4.c1]) rfl ?_
    refine ⟨_, rfl, ?_, ((hkk.trans' hk1).set (by simp) _).set (by simp) _⟩
    rw [show cnt neg xs = 0 by unfold cnt mag; rw [if_neg (by rw [HB.out]; simp), sgn_zero]]
    exact IntRep.zero _
  | true =>
    have HB := Lib.hid hb
    have HE := Lib.hid e
    have hnm : n ≤ 1000000 := by omega
    rw [hb] at hV
    clear hb e
    go_enter Tryd.func77, Tryd.ntmps77
    go_wp2_with fail
    refine hV.out.mono ?_
    rintro e w1 ⟨rfl, hk1⟩
    have hR1 := hR.below hk1
    have hB1 := hB.below hk1
    have b0 := hB1.c0
    have b1 := hB1.c1
    have hk2 := hkk.trans' hk1
    have hr1 := (hr.below hkk).below hk1
    have hz3 : w.heap.size + 1 < w1.heap.size := by have := hk1.size; simp at this; omega
    go_wp2
    go_region_held3 (fun w' => w'.cell? ⟨w.heap.size, 0, none⟩ = some (.bool neg) ∧ w'.cell? ⟨w.heap.size, 1, none⟩ = some (.slice A n c))
      (first | exact ⟨b0, b1⟩ | exact ⟨(hB1.alloc (.cells #[] 49)).c0, (hB1.alloc (.cells #[] 49)).c1⟩ | exact ⟨hB5.c0, hB5.c1⟩ | exact ⟨(hB5.far2 (by omega)).c0, (hB5.far2 (by omega)).c1⟩)
      (first
        | (refine step_append_row (by rfl) _ _ 23 (by rfl) w1.heap.size 49 i0 (.int .u32 0) 4 Tryd.underlying23 hi hz0 hz1 hz2 rfl (.slice (some ⟨w1.heap.size, 0, none⟩) 0 0) 0 [] (by rfl) ((made1 w1 49).drew) A n c (u32 xs) (by rfl) h0 hc (hr1.below (w' := (w1.alloc (.cells #[] 49)).drew) (Below.drew (box2 _ _))) (fun j => rfl) (by simp only [maxLen]; omega) (by omega) (by simp) ?_; intro v5 w5 hown5 hgrow5; rw [List.nil_append, Nat.zero_add, u32s_take xs n (by rw [HE.out]; exact Nat.le_refl _), List.take_of_length_le (by rw [HE.out]; exact Nat.le_refl _)] at hown5; have hu5 := U32.of_own hown5; obtain ⟨A5, n5, c5, rfl, -⟩ := hu5.open_; have hR5 := (hR1.alloc (.cells #[] 49)).drew.grown hgrow5 (by simp [Value.ownBlock]; omega); have r0 := hR5.c0; have r1 := hR5.c1; have f0 := hR5.frozen 0; have f1 := hR5.frozen 1; have hB5 := (hB1.alloc (.cells #[] 49)).drew.grown hgrow5 (by simp [Value.ownBlock]; omega)))
    go_wp2
    have hR6 := hR5.two (.bool neg) (.slice A5 n5 c5)
    refine bodyPost_ret (v := .agg #[.bool neg, .slice A5 n5 c5]) (by simp [results, Tryd.results77, go_sem, hR6.c0, hR6.c1]) rfl ?_
    have hk5 : Keeps w w5 := (Below.drew (Below.alloc hk2 (by omega) _)).grown hgrow5 (by simp; omega) (fun b e => by cases e; show w.heap.size ≤ w1.heap.size; omega)
    refine ⟨_, rfl, ?_, (hk5.set (by simp) _).set (by simp) _⟩
    have hrep : IntRep w5 (.agg #[.bool neg, .slice A5 n5 c5]) (cnt neg xs) := ⟨_, by rw [cnt_neg HB.out], by rw [cnt_abs, dig_mag HB.out]; exact hu5⟩
    exact hrep.two hR5 rfl rfl rfl
end Go.Proofs.YtomjnjpehokjbaaDoor

namespace Go.Proofs.YtomjnjpehokjbaaDoor
open Go.RowKit Go.Shelf

/-- Same, of two equal integers -/
def sameB (n1 n2 : Bool) (xs ys : List Nat) : Bool := decide (n1 = n2 ∧ xs = ys)
end Go.Proofs.YtomjnjpehokjbaaDoor

namespace Go.Proofs.YtomjnjpehokjbaaDoor
open Go.RowKit Go.Shelf

theorem field_groups (x y : Value) : ∀ w : World, (Instr.field 25 (.agg #[x, y]) 1).run Tryd.prog w = .ok y w := fun _ => by kernel_rfl
/-- what the reference's loops leave: a row of the call's own -/
theorem rplus_step (xs ys out : List Nat) (k cc s c : Nat) (hk : out.length = k) (hv : val out + cc * 1000000000 ^ k = val (xs.take k) + val (ys.take k))
    (e : s + c * 1000000000 = ix xs k + ix ys k + cc) :
    val (out ++ [s]) + c * 1000000000 ^ (k + 1) = val (xs.take (k + 1)) + val (ys.take (k + 1)) := by
  rw [val_snoc, hk, val_take_succ xs, val_take_succ ys]
  have : (s + c * 1000000000) * 1000000000 ^ k = (ix xs k + ix ys k + cc) * 1000000000 ^ k := by rw [e]
  grind

end Go.Proofs.YtomjnjpehokjbaaDoor

namespace Go.Proofs.YtomjnjpehokjbaaDoor
open Go.RowKit Go.Shelf

theorem rminus_step (xs ys out : List Nat) (k cc s c : Nat) (hk : out.length = k) (hv : val out + val (ys.take k) = val (xs.take k) + cc * 1000000000 ^ k)
    (e : s + ix ys k + cc = ix xs k + c * 1000000000) :
    val (out ++ [s]) + val (ys.take (k + 1)) = val (xs.take (k + 1)) + c * 1000000000 ^ (k + 1) := by
  rw [val_snoc, hk, val_take_succ xs, val_take_succ ys]
  have : (s + ix ys k + cc) * 1000000000 ^ k = (ix xs k + c * 1000000000) * 1000000000 ^ k := by rw [e]
  grind

theorem sign_sgn (neg : Bool) (m : Nat) (h : m ≠ 0) : decide (sgn neg m < 0) = neg := by
  cases neg <;> simp [sgn] <;> omega
theorem sgn_of_rep (z : Int) : sgn (decide (z < 0)) z.natAbs = z := by
  by_cases h : z < 0
  · rw [decide_eq_true h]; simp [sgn]; omega
  · rw [decide_eq_false h]; simp [sgn]; omega

/-- a canonical integer as an argument -/
theorem IntRep.arg {w : World} {V : Value} {z : Int} (h : IntRep w V z) : IntArg w V (decide (z < 0)) (dig z.natAbs) := h
theorem validB_rep (z : Int) : validB (decide (z < 0)) (dig z.natAbs) = true := by
  unfold validB
  by_cases h0 : z.natAbs = 0
  · rw [if_pos (by rw [h0, dig_zero]; rfl)]
    simp; omega
  · rw [if_neg (by rw [dig_length_zero]; exact h0), Bool.and_eq_true]
    refine ⟨by simpa using dig_last h0, ?_⟩
    rw [List.all_eq_true]
    intro x hx
    have := AllB.dig z.natAbs x hx
    simpa using this
theorem cnt_rep (z : Int) : cnt (decide (z < 0)) (dig z.natAbs) = z := by
  unfold cnt mag
  rw [if_pos (validB_rep z), val_dig]
  exact sgn_of_rep z

end Go.Proofs.YtomjnjpehokjbaaDoor

namespace Go.Proofs.YtomjnjpehokjbaaDoor
open Go.RowKit Go.Shelf

theorem field_neg (x y : Value) : ∀ w : World, (Instr.field 25 (.agg #[x, y]) 1).run Tryd.prog w = .ok y w := field_groups x y

end Go.Proofs.YtomjnjpehokjbaaDoor

namespace Go.Proofs.YtomjnjpehokjbaaDoor
open Go.RowKit Go.Shelf

/-- behind 'x, y = Value(x), Value(y)': the three blocks of a function of two integers -/
def TwoRes (w wx : World) (t : TypeId) (z1 z2 : Int) : Prop := ∃ A1 m1 c1 A2 m2 c2, Own wx w.heap.size t [.bool (decide (z1 < 0)), .slice A1 m1 c1] ∧ Own wx (w.heap.size + 1) t [.bool (decide (z2 < 0)), .slice A2 m2 c2] ∧
  Own wx (w.heap.size + 1 + 1) t [.bool false, .slice none 0 0] ∧ U32 wx (.slice A1 m1 c1) (dig z1.natAbs) ∧ U32 wx (.slice A2 m2 c2) (dig z2.natAbs) ∧ Keeps w wx
theorem U32.two {w : World} {R : Nat} {t : TypeId} {v x y x' y' : Value} {xs : List Nat} (h : U32 w v xs) (hR : Own w R t [x, y]) (hx : noU32 x = true) (hy : noU32 y = true) (hx' : noU32 x' = true) :
    U32 ((w.setCell ⟨R, 0, none⟩ x').setCell ⟨R, 1, none⟩ y') v xs :=
  (h.put hR (by simp [hx, hy]) 0 x').put (hR.set 0 x') (by simp [hx', hy]) 1 y'
theorem U32.noU {w : World} {v : Value} {xs : List Nat} (h : U32 w v xs) : noU32 v = true := by obtain ⟨A, c, rfl, -⟩ := h; rfl
theorem TwoRes.of {w w2 : World} {t : TypeId} {z1 z2 : Int} {A1 A2 : Option Addr} {m1 c1 m2 c2 : Nat} {x y x' y' : Value}
    (hA : Own w2 w.heap.size t [x, y]) (hB : Own w2 (w.heap.size + 1) t [x', y']) (hR : Own w2 (w.heap.size + 1 + 1) t [.bool false, .slice none 0 0])
    (h1 : U32 w2 (.slice A1 m1 c1) (dig z1.natAbs)) (h2 : U32 w2 (.slice A2 m2 c2) (dig z2.natAbs)) (hk : Keeps w w2) (hx : noU32 x = true) (hy : noU32 y = true) (hx' : noU32 x' = true) (hy' : noU32 y' = true) :
    TwoRes w ((((w2.setCell ⟨w.heap.size, 0, none⟩ (.bool (decide (z1 < 0)))).setCell ⟨w.heap.size, 1, none⟩ (.slice A1 m1 c1)).setCell ⟨w.heap.size + 1, 0, none⟩ (.bool (decide (z2 < 0)))).setCell ⟨w.heap.size + 1, 1, none⟩ (.slice A2 m2 c2)) t z1 z2 := by
  have hA1 := hA.two (.bool (decide (z1 < 0))) (.slice A1 m1 c1)
  have hB1 := hB.far2 (R := w.heap.size) (by omega) (x := .bool (decide (z1 < 0))) (y := .slice A1 m1 c1)
  have hR1 := hR.far2 (R := w.heap.size) (by omega) (x := .bool (decide (z1 < 0))) (y := .slice A1 m1 c1)
  have g1 := h1.two (x' := .bool (decide (z1 < 0))) (y' := .slice A1 m1 c1) hA hx hy rfl
  have g2 := h2.two (x' := .bool (decide (z1 < 0))) (y' := .slice A1 m1 c1) hA hx hy rfl
  exact ⟨A1, m1, c1, A2, m2, c2, hA1.far2 (by omega), hB1.two _ _, hR1.far2 (by omega), g1.two hB1 hx' hy' rfl, g2.two hB1 hx' hy' rfl,
    (((hk.set (Nat.le_refl _) _).set (Nat.le_refl _) _).set (by simp) _).set (by simp) _⟩

end Go.Proofs.YtomjnjpehokjbaaDoor

namespace Go.Proofs.YtomjnjpehokjbaaDoor
open Go.RowKit Go.Shelf

theorem rep_sub_length (a b : Int) : (dig (a - b).natAbs).length ≤ max (dig a.natAbs).length (dig b.natAbs).length + 1 := by
  have h1 := dig_length_add a.natAbs b.natAbs
  have h2 := dig_length_mono (show (a - b).natAbs ≤ a.natAbs + b.natAbs by omega)
  omega
theorem rep_add_length (a b : Int) : (dig (a + b).natAbs).length ≤ max (dig a.natAbs).length (dig b.natAbs).length + 1 := by
  have h1 := dig_length_add a.natAbs b.natAbs
  have h2 := dig_length_mono (show (a + b).natAbs ≤ a.natAbs + b.natAbs by omega)
  omega
theorem cnt_length (neg : Bool) (xs : List Nat) : (dig (cnt neg xs).natAbs).length ≤ xs.length := by rw [cnt_abs]; exact mag_length neg xs

theorem sign_cases (x : Int) : (x < 0 ∧ x.sign = -1) ∨ (x = 0 ∧ x.sign = 0) ∨ (0 < x ∧ x.sign = 1) := by
  rcases Int.lt_trichotomy x 0 with h | h | h
  · exact .inl ⟨h, Int.sign_eq_neg_one_of_neg h⟩
  · exact .inr (.inl ⟨h, by rw [h]; rfl⟩)
  · exact .inr (.inr ⟨h, Int.sign_eq_one_of_pos h⟩)
theorem cmp_diff (x y : Int) (h : x.sign ≠ y.sign) : (x.sign - y.sign).sign = (x - y).sign := by
  rcases sign_cases x with ⟨h1, e1⟩ | ⟨h1, e1⟩ | ⟨h1, e1⟩ <;> rcases sign_cases y with ⟨h2, e2⟩ | ⟨h2, e2⟩ | ⟨h2, e2⟩ <;> rcases sign_cases (x - y) with ⟨h3, e3⟩ | ⟨h3, e3⟩ | ⟨h3, e3⟩ <;>
    rw [e1, e2] at h <;> rw [e1, e2, e3] <;> first | rfl | (exfalso; omega)
theorem cmp_same (n1 n2 : Bool) (a b : Nat) (h : (sgn n1 a).sign = (sgn n2 b).sign) : (sgn n1 a - sgn n2 b).sign = if n1 then -((a : Int) - b).sign else ((a : Int) - b).sign := by
  rcases sign_cases (sgn n1 a) with ⟨h1, e1⟩ | ⟨h1, e1⟩ | ⟨h1, e1⟩ <;> rcases sign_cases (sgn n2 b) with ⟨h2, e2⟩ | ⟨h2, e2⟩ | ⟨h2, e2⟩ <;>
    rw [e1, e2] at h <;> (try (exfalso; omega)) <;> cases n1 <;> cases n2 <;> simp [sgn] at h1 h2 ⊢ <;>
    first
    | omega
    | (rw [show (-(a : Int) + (b : Int)) = -((a : Int) - b) by omega, Int.sign_neg])
    | (subst h1; subst h2; rfl)
    | skip
theorem sign_bd (x : Int) : -1 ≤ x.sign ∧ x.sign ≤ 1 := by
  rcases sign_cases x with ⟨-, e⟩ | ⟨-, e⟩ | ⟨-, e⟩ <;> rw [e] <;> omega

end Go.Proofs.YtomjnjpehokjbaaDoor

namespace Go.Proofs.YtomjnjpehokjbaaDoor
open Go.RowKit Go.Shelf

end Go.Proofs.YtomjnjpehokjbaaDoor

namespace Go.Proofs.YtomjnjpehokjbaaDoor
open Go.RowKit Go.Shelf

/-- an api.Int of a bearable length that counts z -/
def IntNum (w : World) (V : Value) (z : Int) : Prop := ∃ neg xs, IntArg w V neg xs ∧ cnt neg xs = z ∧ xs.length ≤ 900000
def lenI (z : Int) : Nat := (dig z.natAbs).length
theorem IntNum.below {w w' : World} {V : Value} {z : Int} (h : IntNum w V z) (hk : Keeps w w') : IntNum w' V z := by
  obtain ⟨neg, xs, h, e, hl⟩ := h
  exact ⟨neg, xs, h.below hk, e, hl⟩
theorem IntRep.num {w : World} {V : Value} {z : Int} (h : IntRep w V z) (hl : lenI z ≤ 900000) : IntNum w V z := ⟨_, _, h.arg, cnt_rep z, hl⟩
theorem IntRep.drew {w : World} {V : Value} {z : Int} (h : IntRep w V z) : IntRep w.drew V z := h
theorem IntNum.drew {w : World} {V : Value} {z : Int} (h : IntNum w V z) : IntNum w.drew V z := h
theorem lenI_add (a b : Int) : lenI (a + b) ≤ max (lenI a) (lenI b) + 1 := rep_add_length a b
theorem lenI_sub (a b : Int) : lenI (a - b) ≤ max (lenI a) (lenI b) + 1 := rep_sub_length a b
theorem lenI_mul (a b : Int) : lenI (a * b) ≤ lenI a + lenI b := by
  unfold lenI
  rw [Int.natAbs_mul]
  exact dig_length_mul _ _
theorem lenI_neg (a : Int) : lenI (-a) = lenI a := by unfold lenI; rw [Int.natAbs_neg]
theorem lenI_cnt (neg : Bool) (xs : List Nat) : lenI (cnt neg xs) ≤ xs.length := cnt_length neg xs

section
variable {V1 V2 : Value} {x y : Int} {w : World}
def Gives (z : Int) (w : World) (e : Ending) (w' : World) : Prop := ∃ V, e = .returned V ∧ IntRep w' V z ∧ Keeps w w'
theorem rvalue_num (h1 : IntNum w V1 x) : Calls Tryd.prog 77 #[V1] w (Gives x w) := by
  obtain ⟨n1, xs, h1, rfl, l1⟩ := h1
  exact rvalue_any n1 xs V1 w h1 (by omega)
end
end Go.Proofs.YtomjnjpehokjbaaDoor

namespace Go.Proofs.YtomjnjpehokjbaaDoor
open Go.RowKit

/-- a store that touches no row of uint32 -/
def Same32 (w w' : World) : Prop := ∀ v xs, U32 w v xs → U32 w' v xs
theorem IntRep.map {w w' : World} {V : Value} {z : Int} (h : IntRep w V z) (hs : Same32 w w') : IntRep w' V z := by
  obtain ⟨v, rfl, hv⟩ := h
  exact ⟨v, rfl, hs _ _ hv⟩
theorem IntNum.map {w w' : World} {V : Value} {z : Int} (h : IntNum w V z) (hs : Same32 w w') : IntNum w' V z := by
  obtain ⟨neg, xs, ⟨v, rfl, hv⟩, e, l⟩ := h
  exact ⟨neg, xs, ⟨v, rfl, hs _ _ hv⟩, e, l⟩
theorem one_box {w w' : World} {t : TypeId} {d1 : Nat} {x1 y1 x4 y4 : Value} (hO1 : Own w d1 t [x1, y1]) (a1 : noU32 x1 = true) (b1 : noU32 y1 = true) (a4 : noU32 x4 = true)
    (hw : w' = (w.setCell ⟨d1, 0, none⟩ x4).setCell ⟨d1, 1, none⟩ y4) :
    Own w' d1 t [x4, y4] ∧ (∀ b vs, b ≠ d1 → Own w b t vs → Own w' b t vs) ∧ Same32 w w' ∧ (∀ w0 : World, w0.heap.size ≤ d1 → Keeps w0 w → Keeps w0 w') := by
  subst hw
  exact ⟨hO1.two x4 y4, fun b vs e1 h => h.far2 e1, fun v xs h => h.two hO1 a1 b1 a4, fun w0 e1 h => (h.set e1 _).set e1 _⟩
end Go.Proofs.YtomjnjpehokjbaaDoor
