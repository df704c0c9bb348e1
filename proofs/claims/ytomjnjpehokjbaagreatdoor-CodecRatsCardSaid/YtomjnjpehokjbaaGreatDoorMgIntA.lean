/- The walks of the magnitudes' small functions. The walks of plus and minus. The walks of made, split, Of, Valid, groups. The walks of Of, Valid, groups and their callees. The walks of Sign, Neg, Abs, Of. slices.Backward of a magnitude: the iterator's contract; the walk of word. The walks of cmp.Compare and compare. The walks of times and short. The walks of sum, Add, Sub, Mul, Compare, Of. The walks of the reference's small functions: Valid, made, Value, Same, group. The walks of the reference's Same, group, size. The walks of the reference's size, plus, minus. The walks of the reference's minus, Sign, Neg, Abs, Of. The walks of the reference's Neg, Abs, Of. The walks of the reference's Add, Sub, Mul, Compare, Of. The walks of the reference's Sub, Compare, and of Of and Compare. The walk of the reference's Mul. The contracts once more, in one form: an api.Int that counts z. A store into a box of the call's own. No program in sight. -/
import Derived.Test.YtomjnjpehokjbaaGreatDoorMgNum
import Derived.Test.YtomjnjpehokjbaaGreatDoorProg
import Derived.WalkSpells
import Derived.Deep.RegionHeld3
import Derived.Deep.RegionWith
import Derived.Deep.QuietTactic
import Derived.BigQuiet
import Derived.Deep.DeepCutAuto
namespace Go.Proofs.YtomjnjpehokjbaaGreatDoor
open Go.RowKit

theorem ret_slice {A : Option Addr} {n m c : Nat} (h : n = m) : Ending.returned (.slice A n c) = .returned (.slice A m c) := by rw [h]

set_option maxHeartbeats 400000 in
theorem trim_any (A : Option Addr) (c : Nat) (xs : List Nat) (w : World) (h : Row w A xs.length (u32 xs)) (hc : xs.length ≤ c) (hm : c ≤ maxLen) :
    Calls Tryz.prog 94 #[.slice A xs.length c] w fun e w' => e = .returned (.slice A (trimL xs).length c) ∧ w = w' := by
  unfold maxLen at hm
  go_enter Tryz.func94, Tryz.ntmps94
  go_wp2
  go_loop [0] (fun g => ∃ k : Nat, k ≤ xs.length ∧ trimL (xs.take k) = trimL xs ∧ g = .slice A k c) (fun g => lenOf g)
  case atStart => exact ⟨_, Nat.le_refl _, by simp, rfl⟩
  case round =>
    obtain ⟨k, hk, ht, rfl⟩ := hrel
    have HT := Lib.hid ht
    clear ht
    rcases Nat.eq_zero_or_pos k with rfl | hpos
    · go_wp2
      go_ret
      exact ⟨by rw [← HT.out]; simp [trimL], rfl⟩
    · obtain ⟨j, rfl⟩ : ∃ j, k = j + 1 := ⟨k - 1, by omega⟩
      obtain ⟨b, o, rfl, hb, hcell⟩ := h (by omega)
      have hx : w.cell? ⟨b, o + j, none⟩ = some (.int .u32 (ix xs j : Nat)) := hcell j (by omega)
      have hts := take_snoc xs j (by omega)
      clear hcell
      by_cases hz : ix xs j = 0
      · have HZ := Lib.hid hz
        rw [hz] at hx
        clear hz
        have HS := Lib.hid hts
        clear hts
        go_wp2
        go_round
        case rel => exact ⟨j, by omega, by rw [← HT.out, HS.out, HZ.out, trimL_snoc_zero], rfl⟩
        case measure => simp [lenOf]
      · have hb2 : (((ix xs j : Nat) : Int) == 0) = false := by simpa using hz
        have HS := Lib.hid hts
        clear hts
        go_wp2
        go_ret
        exact ⟨ret_slice (by rw [← HT.out, HS.out, trimL_snoc _ _ hz]; simp; omega), rfl⟩

theorem at_any (A : Option Addr) (c : Nat) (xs : List Nat) (i : Nat) (w : World) (h : Row w A xs.length (u32 xs)) (hm : xs.length ≤ 1000000000) (hi : i ≤ 1000000000) :
    Calls Tryz.prog 143 #[.slice A xs.length c, .int .i64 (i : Nat)] w fun e w' => e = .returned (.int .u32 (ix xs i : Nat)) ∧ w = w' := by
  by_cases hlt : i < xs.length
  · obtain ⟨b, o, rfl, hb, hcell⟩ := h (by omega)
    have hx : w.cell? ⟨b, o + i, none⟩ = some (.int .u32 (ix xs i : Nat)) := hcell i hlt
    go_enter Tryz.func143, Tryz.ntmps143
    go_wp2
    go_ret
    exact ⟨rfl, rfl⟩
  · have HZ := Lib.hid (ix_past xs i (by omega))
    go_enter Tryz.func143, Tryz.ntmps143
    go_wp2
    go_ret
    exact ⟨by rw [HZ.out]; rfl, rfl⟩

/-- trim, with the length as a variable of its own -/
theorem trim_n (A : Option Addr) (n c : Nat) (xs : List Nat) (w : World) (e : xs.length = n) (h : Row w A n (u32 xs)) (hc : n ≤ c) (hm : c ≤ maxLen) :
    Calls Tryz.prog 94 #[.slice A n c] w fun e w' => e = .returned (.slice A (trimL xs).length c) ∧ w = w' := by
  subst e
  exact trim_any A c xs w h hc hm
theorem at_n (A : Option Addr) (n c : Nat) (xs : List Nat) (i : Nat) (w : World) (e : xs.length = n) (h : Row w A n (u32 xs)) (hm : n ≤ 1000000000) (hi : i ≤ 1000000000) :
    Calls Tryz.prog 143 #[.slice A n c, .int .i64 (i : Nat)] w fun e w' => e = .returned (.int .u32 (ix xs i : Nat)) ∧ w = w' := by
  subst e
  exact at_any A c xs i w h hm hi
end Go.Proofs.YtomjnjpehokjbaaGreatDoor

namespace Go.Proofs.YtomjnjpehokjbaaGreatDoor
open Go.RowKit

theorem info_u32 : (Tryz.prog.info? 51).map (fun i => (i.zero, i.size, i.bytes)) = some (some (.int .u32 0), 1, 4) := by kernel_rfl
theorem make_u32 (k : Int) (n : Nat) (e : k = (n : Int)) (h : n ≤ 4000000) : ∀ u : World, (Instr.makeSlice 25 (.int .i64 k) (.int .i64 k)).run Tryz.prog u =
    .ok (.slice (some ⟨u.heap.size, 0, none⟩) n n) (u.alloc (.cells (u32s (List.replicate n 0)).toArray 51)) := fun u => by
  subst e
  obtain ⟨i0, hi, hz0, hz1, hz2⟩ := info_parts info_u32
  have h := run_make (P := Tryz.prog) u 25 51 i0 (.int .u32 0) Tryz.underlying25 hi hz0 .i64 .i64 (n : Int) (n : Int) (by omega) (Int.le_refl _) (by rw [hz2]; omega) (by omega)
  rw [← madeCells_u32]
  simpa [hz1, Value.cells] using h

end Go.Proofs.YtomjnjpehokjbaaGreatDoor

namespace Go.Proofs.YtomjnjpehokjbaaGreatDoor
open Go.RowKit

/-- a magnitude with a sign -/
def sgn (neg : Bool) (m : Nat) : Int := if neg then -(m : Int) else m
/-- the value V is the canonical integer z -/
def IntRep (w : World) (V : Value) (z : Int) : Prop := ∃ v, V = .agg #[.bool (decide (z < 0)), v] ∧ U32 w v (dig z.natAbs)
theorem IntRep.below {w w' : World} {V : Value} {z : Int} (h : IntRep w V z) (hb : Below w.heap.size w w') : IntRep w' V z := by
  obtain ⟨v, rfl, hv⟩ := h
  exact ⟨v, rfl, hv.below hb⟩

theorem IntRep.zero (w : World) : IntRep w (.agg #[.bool false, .slice none 0 0]) 0 := ⟨.slice none 0 0, by simp, by simpa [dig_zero] using U32.nil⟩
theorem IntRep.mk {w : World} {v : Value} {neg : Bool} {m : Nat} (h : U32 w v (dig m)) (hm : m ≠ 0) : IntRep w (.agg #[.bool neg, v]) (sgn neg m) := by
  cases neg
  · exact ⟨v, by simp [sgn], by simpa [sgn] using h⟩
  · exact ⟨v, by simp [sgn]; omega, by simpa [sgn] using h⟩

set_option maxRecDepth 100000 in
set_option maxHeartbeats 400000 in
theorem made_any (neg : Bool) (A : Option Addr) (n c : Nat) (xs : List Nat) (w : World) (e : xs.length = n) (h : Row w A n (u32 xs)) (ha : AllB xs) (hc : n ≤ c) (hm : c ≤ maxLen) (h0 : A = none → c = 0) :
    Calls Tryz.prog 63 #[.bool neg, .slice A n c] w fun e w' => ∃ V, e = .returned V ∧ IntRep w' V (sgn neg (val xs)) ∧ Keeps w w' := by
  have HT := Lib.hid (trim_n A n c xs (w.alloc (.cells #[.bool false, .slice none 0 0] 27)) e (h.below ((Below.refl _ _).alloc (Nat.le_refl _) _)) hc hm)
  have HL := Lib.hid (trimL_eq ha)
  go_enter Tryz.func63, Tryz.ntmps63
  go_wp2_with fail
  refine HT.out.mono ?_
  rintro e w1 ⟨rfl, rfl⟩
  go_wp2
  · refine bodyPost_ret (v := .agg #[.bool false, .slice none 0 0]) (by simp [results, Tryz.results63, go_sem]) rfl ?_
    have h0 : val xs = 0 := by
      rw [← dig_length_zero, ← HL.out]
      have : (((trimL xs).length : Int) == 0) = true := by assumption
      simpa using this
    rw [h0]
    exact ⟨_, rfl, by simpa [sgn] using IntRep.zero _, (Below.refl _ _).alloc (Nat.le_refl _) _⟩
  · refine bodyPost_ret (v := .agg #[.bool neg, .slice A (trimL xs).length c]) (by simp [results, Tryz.results63, go_sem]) rfl ?_
    have h1 : val xs ≠ 0 := by
      have : (((trimL xs).length : Int) == 0) = false := by assumption
      rw [← Nat.pos_iff_ne_zero, Nat.pos_iff_ne_zero, ← dig_length_pos, ← HL.out]
      simp at this
      exact List.length_pos_iff.2 this
    exact ⟨_, rfl, IntRep.mk (by rw [← HL.out]; exact (U32.trim (by rw [e]; exact h) (by omega) hm h0).below ((Below.refl _ _).alloc (Nat.le_refl _) _)) h1, (Below.refl _ _).alloc (Nat.le_refl _) _⟩

theorem info32 : (Tryz.prog.info? 51).map (fun i => (i.zero, i.size, i.bytes)) = some (some (.int .u32 0), 1, 4) := info_u32

set_option maxRecDepth 100000 in
set_option maxHeartbeats 400000 in
theorem split_any (m : Nat) (w : World) (hm : (m : Int) ≤ 18446744073709551615) :
    Calls Tryz.prog 64 #[.int .u64 (m : Nat)] w fun e w' => ∃ v, e = .returned v ∧ U32 w' v (dig m) ∧ Keeps w w' := by
  obtain ⟨i0, hi, hz0, hz1, hz2⟩ := info_parts info_u32
  have hd3 : (dig m).length ≤ 3 := dig_length_le (by omega)
  go_enter Tryz.func64, Tryz.ntmps64
  go_wp2
  go_loopw [0, 3] (fun x g wr => ∃ (k : Nat) (out : List Nat), k ≤ m ∧ x = .int .u64 (k : Nat) ∧ out ++ dig k = dig m ∧ wr.ownsRow w.heap.size 51 1 g out.length (u32s out) ∧ Keeps w wr)
    (fun x _ _ => (intOf x).toNat)
  case atStart => exact ⟨m, [], Nat.le_refl _, rfl, rfl, World.ownsRow_nil _ _ _ _, Below.refl _ _⟩
  case round =>
    obtain ⟨k, out, hk, rfl, hd, hown, hk1⟩ := hrel
    by_cases hpos : 0 < k
    · have hol : out.length ≤ 2 := by
        have := congrArg List.length hd
        rw [List.length_append] at this
        have := dig_length_pos.2 (show k ≠ 0 by omega)
        omega
      rw [dig_pos (by omega)] at hd
      have HD := Lib.hid hd
      clear hd
      go_wp2_with (at_builtin; refine wpList_append_own _ rfl _ _ 25 rfl w.heap.size 51 i0 (.int .u32 0) 1 4 Tryz.underlying25 hi hz0 hz1 hz2 rfl (by decide) _ _ _ rfl (hown.alloc _) ⟨wr.heap.size, 0, none⟩ 1 1 [.int .u32 ((k : Int) % 1000000000)] rfl rfl (newcell _ _ _) (by simp [Value.oneCell']) (by simp only [maxLen]; omega) (by omega) (by have := hk1.size; simp; omega) ?_; intro v' w1 hown' hgrow _)
      rw [u32s_snoc out (k % 1000000000) (by omega)] at hown'
      have hk2 : Keeps w w1 := (hk1.alloc hk1.size _).grown hgrow (by have := hk1.size; simp; omega) (fun b e => (hown.lt b e).1)
      go_roundw
      case rel => exact ⟨k / 1000000000, out ++ [k % 1000000000], by omega, by go_num, by rw [List.append_assoc]; exact HD.out, by simpa using hown', hk2⟩
      case measure => simp [intOf]; omega
    · obtain rfl : k = 0 := by omega
      rw [dig_zero, List.append_nil] at hd
      have HD := Lib.hid hd
      clear hd
      go_wp2
      go_ret
      exact ⟨_, rfl, by rw [← HD.out]; exact U32.of_own hown, hk1⟩

set_option maxRecDepth 100000 in
set_option maxHeartbeats 400000 in
/-- slices.Clone of a magnitude: the same groups (in whatever memory) -/
theorem clone_any (A : Option Addr) (n c : Nat) (xs : List Nat) (w : World) (e : xs.length = n) (h : Row w A n (u32 xs)) (hc : n ≤ c) (hm : n ≤ 1000000) (h0 : A = none → c = 0) :
    Calls Tryz.prog 104 #[.slice A n c] w fun e w' => ∃ v, e = .returned v ∧ U32 w' v xs ∧ Keeps w w' := by
  obtain ⟨i0, hi, hz0, hz1, hz2⟩ := info_parts info_u32
  have HE := Lib.hid e
  clear e
  cases A with
  | none =>
    obtain rfl := h0 rfl
    obtain rfl : n = 0 := by omega
    have hx := Lib.run_eql_slice_nil (P := Tryz.prog) w 25 51 none 0 0 0 0 Tryz.underlying25
    go_enter Tryz.func104, Tryz.ntmps104
    go_wp2
    go_ret
    exact ⟨_, rfl, by rw [List.eq_nil_of_length_eq_zero HE.out]; exact U32.nil, Below.refl _ _⟩
  | some ad =>
    have hx := Lib.run_eql_slice_nil (P := Tryz.prog) w 25 51 (some ad) n c 0 0 Tryz.underlying25
    go_enter Tryz.func104, Tryz.ntmps104
    go_wp2_with (at_builtin; refine wpList_append_row rfl _ _ 25 rfl w.heap.size 51 i0 (.int .u32 0) 4 Tryz.underlying25 hi hz0 hz1 hz2 rfl _ 0 [] rfl (World.ownsRow_made w #[] 0 (Nat.le_refl _) (by simp [maxLen]) rfl) _ _ _ (u32 xs) rfl h0 hc (h.below ((Below.refl _ _).alloc (Nat.le_refl _) _)) (fun j => rfl) (by simp only [maxLen]; omega) (by omega) (by simp) ?_; intro v' w1 hown' hgrow)
    go_ret
    refine ⟨_, rfl, ?_, ((Below.refl _ _).alloc (Nat.le_refl _) _).grown hgrow (by simp) (fun b e => by cases e; exact Nat.le_refl _)⟩
    have he := HE.out
    subst he
    rw [List.nil_append, u32s_range] at hown'
    exact U32.of_own hown'

end Go.Proofs.YtomjnjpehokjbaaGreatDoor

namespace Go.Proofs.YtomjnjpehokjbaaGreatDoor
open Go.RowKit

/-- is a list of groups with a sign canonical? -/
def validB (neg : Bool) (xs : List Nat) : Bool := if xs.length = 0 then !neg else (ix xs (xs.length - 1) != 0) && xs.all (fun g => decide (g < 1000000000))
def anyBig (xs : List Nat) : Bool := xs.any fun g => decide (1000000000 ≤ g)

theorem valid1_any (x : Nat) (w : World) :
    Calls Tryz.prog 96 #[.int .u32 (x : Nat)] w fun e w' => e = .returned (.bool (decide ((1000000000 : Int) ≤ (x : Int)))) ∧ w = w' := by
  go_enter Tryz.func96, Tryz.ntmps96
  go_wp2
  go_ret
  exact ⟨rfl, rfl⟩

theorem anyBig_take (xs : List Nat) (k : Nat) (h : k < xs.length) : anyBig (xs.take (k + 1)) = (anyBig (xs.take k) || decide (1000000000 ≤ ix xs k)) := by
  unfold anyBig
  rw [take_snoc xs k h, List.any_append]
  simp
theorem anyBig_of (xs : List Nat) (k : Nat) (h : k < xs.length) (hb : 1000000000 ≤ ix xs k) : anyBig xs = true := by
  unfold anyBig
  rw [List.any_eq_true]
  exact ⟨ix xs k, by rw [ix_get xs k h]; exact List.getElem_mem h, by simpa using hb⟩

def Found (b : Bool) (w : World) (e : Ending) (w' : World) : Prop := ∃ r : Int, e = .returned (.int .i64 r) ∧ decide (0 ≤ r) = b ∧ w = w'

set_option maxRecDepth 100000 in
set_option maxHeartbeats 400000 in
theorem indexBig_any (A : Option Addr) (n c : Nat) (xs : List Nat) (w : World) (e : xs.length = n) (h : Row w A n (u32 xs)) (hm : n ≤ 9000000000) :
    Calls Tryz.prog 117 #[.slice A n c, .func (.func 96) #[] #[]] w (Found (anyBig xs) w) := by
  have HE := Lib.hid e
  clear e
  go_enter Tryz.func117, Tryz.ntmps117
  go_wp2
  go_loop [8] (fun i => ∃ k : Nat, k ≤ n ∧ i = .int .i64 (k : Nat) ∧ anyBig (xs.take k) = false) (fun i => n - (intOf i).toNat)
  case atStart => exact ⟨0, by omega, rfl, rfl⟩
  case round =>
    obtain ⟨k, hk, rfl, hn⟩ := hrel
    have HN := Lib.hid hn
    clear hn
    by_cases hlt : k < n
    · obtain ⟨b, o, rfl, hb, hcell⟩ := h (by omega)
      have hx : w.cell? ⟨b, o + k, none⟩ = some (.int .u32 (ix xs k : Nat)) := hcell k hlt
      clear hcell
      rcases Nat.lt_or_ge (ix xs k) 1000000000 with hs | hs
      · have hD : decide ((1000000000 : Int) ≤ (ix xs k : Int)) = false := decide_eq_false (by omega)
        have HS := Lib.hid hs
        clear hs
        go_wp2_with (go_at_call 96; refine (valid1_any _ _).mono ?_; rintro e w' ⟨rfl, rfl⟩)
        go_round
        case rel => exact ⟨k + 1, by omega, by go_num, by rw [anyBig_take xs k (by rw [HE.out]; exact hlt), HN.out, decide_eq_false (by have := HS.out; omega)]; rfl⟩
        case measure => simp [intOf]; omega
      · have hD : decide ((1000000000 : Int) ≤ (ix xs k : Int)) = true := decide_eq_true (by omega)
        have HS := Lib.hid hs
        clear hs
        go_wp2_with (go_at_call 96; refine (valid1_any _ _).mono ?_; rintro e w' ⟨rfl, rfl⟩)
        go_ret
        exact ⟨_, rfl, by rw [anyBig_of xs k (by rw [HE.out]; exact hlt) HS.out]; simp, rfl⟩
    · obtain rfl : k = n := by omega
      go_wp2
      go_ret
      have he := HE.out
      subst he
      exact ⟨_, rfl, by have := HN.out; rw [List.take_length] at this; rw [this]; rfl, rfl⟩

theorem containsBig_any (A : Option Addr) (n c : Nat) (xs : List Nat) (w : World) (e : xs.length = n) (h : Row w A n (u32 xs)) (hm : n ≤ 9000000000) :
    Calls Tryz.prog 95 #[.slice A n c, .func (.func 96) #[] #[]] w fun e w' => e = .returned (.bool (anyBig xs)) ∧ w = w' := by
  have hI := Lib.hid (indexBig_any A n c xs w e h hm)
  go_enter Tryz.func95, Tryz.ntmps95
  go_wp2_with fail
  refine hI.out.mono ?_
  rintro e w1 ⟨r, rfl, hr, rfl⟩
  have HR := Lib.hid hr
  clear hr
  go_wp2
  go_ret
  exact ⟨by rw [← HR.out]; rfl, rfl⟩

theorem validB_ne {neg : Bool} {xs : List Nat} {n : Nat} (e : xs.length = n) (h : n ≠ 0) : validB neg xs = ((ix xs (n - 1) != 0) && !anyBig xs) := by
  subst e
  unfold validB anyBig
  rw [if_neg h]
  congr 1
  induction xs with
  | nil => rfl
  | cons x r ih =>
    by_cases hr : r.length = 0
    · have : r = [] := List.eq_nil_of_length_eq_zero hr
      subst this
      by_cases hx : x < 1000000000
      · simp [hx]
      · simp [hx]; omega
    · simp only [List.all_cons, List.any_cons, ih hr]
      by_cases hx : x < 1000000000
      · simp [hx]
      · simp [hx]

set_option maxRecDepth 100000 in
set_option maxHeartbeats 400000 in
theorem valid_any (neg : Bool) (A : Option Addr) (n c : Nat) (xs : List Nat) (w : World) (e : xs.length = n) (h : Row w A n (u32 xs)) (hm : n ≤ 9000000000) :
    Calls Tryz.prog 65 #[.agg #[.bool neg, .slice A n c]] w fun e w' => e = .returned (.bool (validB neg xs)) ∧ Keeps w w' := by
  have hkk : Keeps w (w.alloc (.cells #[.bool neg, .slice A n c] 27)) := (Below.refl _ _).alloc (Nat.le_refl _) _
  rcases Nat.eq_zero_or_pos n with h0 | h0
  · subst h0
    have HE := Lib.hid e
    clear e
    go_enter Tryz.func65, Tryz.ntmps65
    go_wp2
    go_ret
    exact ⟨by unfold validB; rw [if_pos HE.out]; rfl, hkk⟩
  · have HC := Lib.hid (containsBig_any A n c xs (w.alloc (.cells #[.bool neg, .slice A n c] 27)) e (h.below hkk) hm)
    have HV := Lib.hid (validB_ne (neg := neg) e (by omega))
    obtain ⟨b, o, rfl, hb, hcell⟩ := (h.below hkk) h0
    have hx := hcell (n - 1) (by omega)
    unfold u32 at hx
    clear hcell
    have hn0 : ((n : Int) == 0) = false := by simp; omega
    have h1 : (1 : Int) ≤ n := by omega
    by_cases hz : ix xs (n - 1) = 0
    · have hb2 : (((ix xs (n - 1) : Nat) : Int) != 0) = false := by simp [hz]
      have HZ := Lib.hid hz
      clear hz
      go_enter Tryz.func65, Tryz.ntmps65
      go_wp2
      go_ret
      exact ⟨by rw [HV.out, HZ.out]; rfl, hkk⟩
    · have hb2 : (((ix xs (n - 1) : Nat) : Int) != 0) = true := by simpa using hz
      have HZ := Lib.hid hz
      clear hz
      go_enter Tryz.func65, Tryz.ntmps65
      go_wp2_with (go_at_call 95; refine HC.out.mono ?_; rintro e w' ⟨rfl, rfl⟩)
      go_ret
      exact ⟨by rw [HV.out]; simp [HZ.out], hkk⟩

/-- the magnitude that counts, and the number -/
def mag (neg : Bool) (xs : List Nat) : Nat := if validB neg xs then val xs else 0
def cnt (neg : Bool) (xs : List Nat) : Int := sgn neg (mag neg xs)
theorem allB_of_all {xs : List Nat} (h : xs.all (fun g => decide (g < 1000000000)) = true) : AllB xs := by
  intro x hx
  have := List.all_eq_true.1 h x hx
  simpa using this
theorem validB_allB {neg : Bool} {xs : List Nat} (h : validB neg xs = true) : AllB xs := by
  unfold validB at h
  split at h
  · next h0 => rw [List.eq_nil_of_length_eq_zero h0]; exact AllB.nil
  · rw [Bool.and_eq_true] at h; exact allB_of_all h.2
theorem validB_dig {neg : Bool} {xs : List Nat} (h : validB neg xs = true) : dig (val xs) = xs := by
  refine dig_of (validB_allB h) fun hp => ?_
  unfold validB at h
  rw [if_neg (by omega), Bool.and_eq_true] at h
  simpa using h.1
theorem dig_mag {neg : Bool} {xs : List Nat} (h : validB neg xs = true) : dig (mag neg xs) = xs := by
  unfold mag; rw [if_pos h]; exact validB_dig h
theorem dig_mag_not {neg : Bool} {xs : List Nat} (h : validB neg xs = false) : dig (mag neg xs) = [] := by
  unfold mag; rw [if_neg (by rw [h]; simp)]; exact dig_zero
/-- a value of type api.Int, canonical or not: its sign and its groups -/
def IntArg (w : World) (V : Value) (neg : Bool) (xs : List Nat) : Prop := ∃ v, V = .agg #[.bool neg, v] ∧ U32 w v xs
theorem IntArg.below {w w' : World} {V : Value} {neg : Bool} {xs : List Nat} (h : IntArg w V neg xs) (hb : Below w.heap.size w w') : IntArg w' V neg xs := by
  obtain ⟨v, rfl, hv⟩ := h
  exact ⟨v, rfl, hv.below hb⟩

set_option maxRecDepth 100000 in
set_option maxHeartbeats 400000 in
theorem groups_any (neg : Bool) (xs : List Nat) (V : Value) (w : World) (h : IntArg w V neg xs) (hm : xs.length ≤ 1000000) :
    Calls Tryz.prog 68 #[V] w fun e w' => ∃ v, e = .returned v ∧ U32 w' v (dig (mag neg xs)) ∧ Keeps w w' := by
  obtain ⟨v, rfl, A, c, rfl, hc, hcm, h0, hr⟩ := h
  have hkk : Keeps w (w.alloc (.cells #[.bool neg, .slice A xs.length c] 27)) := (Below.refl _ _).alloc (Nat.le_refl _) _
  have hV := Lib.hid (valid_any neg A xs.length c xs (w.alloc (.cells #[.bool neg, .slice A xs.length c] 27)) rfl (hr.below hkk) (by omega))
  cases hb : validB neg xs with
  | true =>
    have HB := Lib.hid hb
    rw [hb] at hV
    clear hb
    go_enter Tryz.func68, Tryz.ntmps68
    go_wp2_with fail
    refine hV.out.mono ?_
    rintro e w1 ⟨rfl, hk1⟩
    obtain ⟨hc1, hf1⟩ := bcell hk1
    go_wp2
    go_ret
    exact ⟨_, rfl, by rw [dig_mag HB.out]; exact ⟨_, _, rfl, hc, hcm, h0, (hr.below hkk).below hk1⟩, hkk.trans (hk1.mono (by simp))⟩
  | false =>
    have HB := Lib.hid hb
    rw [hb] at hV
    clear hb
    go_enter Tryz.func68, Tryz.ntmps68
    go_wp2_with fail
    refine hV.out.mono ?_
    rintro e w1 ⟨rfl, hk1⟩
    obtain ⟨hc1, hf1⟩ := bcell hk1
    go_wp2
    go_ret
    exact ⟨_, rfl, by rw [dig_mag_not HB.out]; exact U32.nil, hkk.trans (hk1.mono (by simp))⟩
end Go.Proofs.YtomjnjpehokjbaaGreatDoor

namespace Go.Proofs.YtomjnjpehokjbaaGreatDoor
open Go.RowKit

theorem U32.open_ {w : World} {v : Value} {xs : List Nat} (h : U32 w v xs) : ∃ A n c, v = .slice A n c ∧ xs.length = n ∧ n ≤ c ∧ c ≤ maxLen ∧ (A = none → c = 0) ∧ Row w A n (u32 xs) := by
  obtain ⟨A, c, rfl, h1, h2, h3, h4⟩ := h
  exact ⟨A, _, c, rfl, rfl, h1, h2, h3, h4⟩
theorem IntRep.open_ {w : World} {V : Value} {z : Int} (h : IntRep w V z) : ∃ A n c, V = .agg #[.bool (decide (z < 0)), .slice A n c] ∧ U32 w (.slice A n c) (dig z.natAbs) := by
  obtain ⟨v, rfl, hv⟩ := h
  obtain ⟨A, n, c, rfl, -⟩ := hv.open_
  exact ⟨A, n, c, rfl, hv⟩
/-- a store of a struct's two cells into a result's cell -/
theorem IntRep.two {w : World} {V : Value} {z : Int} {R : Nat} {t : TypeId} {x y x' y' : Value} (h : IntRep w V z) (hR : Own w R t [x, y]) (hx : noU32 x = true) (hy : noU32 y = true) (hx' : noU32 x' = true) :
    IntRep ((w.setCell ⟨R, 0, none⟩ x').setCell ⟨R, 1, none⟩ y') V z := by
  obtain ⟨v, rfl, hv⟩ := h
  refine ⟨v, rfl, (hv.put hR (by simp [hx, hy]) 0 x').put (hR.set 0 x') (by simp [hx', hy]) 1 y'⟩
theorem sgn_zero (neg : Bool) : sgn neg 0 = 0 := by cases neg <;> rfl
theorem sgn_natAbs (neg : Bool) (m : Nat) : (sgn neg m).natAbs = m := by cases neg <;> simp [sgn]
theorem sgn_neg (neg : Bool) (m : Nat) : sgn (!neg) m = -sgn neg m := by cases neg <;> simp [sgn]
theorem sgn_sign (neg : Bool) (m : Nat) (h : 0 < m) : (sgn neg m).sign = if neg then -1 else 1 := by
  cases neg
  · exact Int.sign_eq_one_of_pos (by simp [sgn]; omega)
  · exact Int.sign_eq_neg_one_of_neg (by simp [sgn]; omega)
theorem ret_int {k : IntKind} {a b : Int} (h : b = a) : Ending.returned (.int k a) = .returned (.int k b) := by rw [h]
theorem box2 (w : World) (o : Obj) : Keeps w (w.alloc o) := (Below.refl _ _).alloc (Nat.le_refl _) _

/-- made, of a slice value that reads as a list -/
theorem made_u (neg : Bool) (v : Value) (xs : List Nat) (w : World) (h : U32 w v xs) (ha : AllB xs) :
    Calls Tryz.prog 63 #[.bool neg, v] w fun e w' => ∃ V, e = .returned V ∧ IntRep w' V (sgn neg (val xs)) ∧ Keeps w w' := by
  obtain ⟨A, n, c, rfl, e, hc, hm, h0, hr⟩ := h.open_
  exact made_any neg A n c xs w e hr ha hc hm h0
theorem made_d (neg : Bool) (v : Value) (m : Nat) (w : World) (h : U32 w v (dig m)) :
    Calls Tryz.prog 63 #[.bool neg, v] w fun e w' => ∃ V, e = .returned V ∧ IntRep w' V (sgn neg m) ∧ Keeps w w' := by
  have := made_u neg v (dig m) w h (AllB.dig m)
  rwa [val_dig] at this
theorem clone_u (v : Value) (xs : List Nat) (w : World) (h : U32 w v xs) (hm : xs.length ≤ 1000000) :
    Calls Tryz.prog 104 #[v] w fun e w' => ∃ v, e = .returned v ∧ U32 w' v xs ∧ Keeps w w' := by
  obtain ⟨A, n, c, rfl, e, hc, _, h0, hr⟩ := h.open_
  exact clone_any A n c xs w e hr hc (by omega) h0
theorem mag_length (neg : Bool) (xs : List Nat) : (dig (mag neg xs)).length ≤ xs.length := by
  cases h : validB neg xs with
  | true => rw [dig_mag h]; exact Nat.le_refl _
  | false => rw [dig_mag_not h]; simp

set_option maxRecDepth 100000 in
set_option maxHeartbeats 400000 in
theorem sign_any (neg : Bool) (xs : List Nat) (V : Value) (w : World) (h : IntArg w V neg xs) (hm : xs.length ≤ 1000000) :
    Calls Tryz.prog 77 #[V] w fun e w' => e = .returned (.int .i64 (cnt neg xs).sign) ∧ Keeps w w' := by
  obtain ⟨v, rfl, hv⟩ := h
  have hkk : Keeps w (w.alloc (.cells #[.bool neg, v] 27)) := box2 _ _
  have hG := Lib.hid (groups_any neg xs (.agg #[.bool neg, v]) _ ⟨v, rfl, hv.below hkk⟩ hm)
  rcases Nat.eq_zero_or_pos (mag neg xs) with h0 | h0
  · have H0 := Lib.hid h0
    clear h0
    go_enter Tryz.func77, Tryz.ntmps77
    go_wp2_with fail
    refine hG.out.mono ?_
    rintro e w1 ⟨v1, rfl, hv1, hk1⟩
    rw [H0.out, dig_zero] at hv1
    obtain ⟨A, n, c, rfl, e1, -, -, -, -⟩ := hv1.open_
    obtain rfl : n = 0 := by simpa using e1.symm
    obtain ⟨hc1, hf1⟩ := bcell hk1
    go_wp2
    go_ret
    exact ⟨by unfold cnt; rw [H0.out, sgn_zero]; rfl, hkk.trans (hk1.mono (by simp))⟩
  · have H0 := Lib.hid h0
    clear h0
    cases neg
    all_goals
      go_enter Tryz.func77, Tryz.ntmps77
      go_wp2_with fail
      refine hG.out.mono ?_
      rintro e w1 ⟨v1, rfl, hv1, hk1⟩
      obtain ⟨A, n, c, rfl, e1, -, -, -, -⟩ := hv1.open_
      have hn : ((n : Int) == 0) = false := by
        have := dig_length_pos.2 (Nat.pos_iff_ne_zero.1 H0.out)
        rw [e1] at this
        simp; omega
      clear e1
      obtain ⟨hc1, hf1⟩ := bcell hk1
      go_wp2
      go_ret
      exact ⟨ret_int (by rw [cnt, sgn_sign _ _ H0.out]; rfl), hkk.trans (hk1.mono (by simp))⟩

set_option maxRecDepth 100000 in
set_option maxHeartbeats 400000 in
theorem neg_any (neg : Bool) (xs : List Nat) (V : Value) (w : World) (h : IntArg w V neg xs) (hm : xs.length ≤ 1000000) :
    Calls Tryz.prog 99 #[V] w fun e w' => ∃ V, e = .returned V ∧ IntRep w' V (-cnt neg xs) ∧ Keeps w w' := by
  obtain ⟨v, rfl, hv⟩ := h
  have hml := mag_length neg xs
  have hkk := keep2 w (.cells #[.bool neg, v] 27) (.cells #[.bool false, .slice none 0 0] 27)
  have hG := Lib.hid (fun W (hW : IntArg W (.agg #[.bool neg, v]) neg xs) => groups_any neg xs (.agg #[.bool neg, v]) W hW hm)
  have hA := own2 w (.cells #[.bool neg, v] 27) 27 [.bool false, .slice none 0 0]
  have hB : Own ((w.alloc (.cells #[.bool neg, v] 27)).alloc (.cells #[.bool false, .slice none 0 0] 27)) w.heap.size 27 [.bool neg, v] := (Own.new w 27 [.bool neg, v]).alloc _
  go_enter Tryz.func99, Tryz.ntmps99
  go_wp2_with fail
  have hv1 := hv.below hkk
  generalize (w.alloc (.cells #[.bool neg, v] 27)).alloc (.cells #[.bool false, .slice none 0 0] 27) = W at *
  have b0 := hB.c0
  have b1 := hB.c1
  go_region_held3 (fun w' => w'.cell? ⟨w.heap.size, 0, none⟩ = some (.bool neg) ∧ w'.cell? ⟨w.heap.size, 1, none⟩ = some v)
    (first | exact ⟨b0, b1⟩ | exact ⟨hB1.c0, hB1.c1⟩ | exact ⟨hB2.c0, hB2.c1⟩ | exact ⟨hB3.c0, hB3.c1⟩ | exact ⟨hB4.c0, hB4.c1⟩)
    (first
      | (go_at_call 68; refine (hG.out W.drew ⟨v, rfl, hv1⟩).mono ?_; rintro e w1 ⟨v1, rfl, hu1, hk1⟩; have hB1 := hB.drew.below hk1)
      | (go_at_call 104; refine (clone_u v1 _ _ hu1 (by omega)).mono ?_; rintro e w2 ⟨v2, rfl, hu2, hk2⟩; have hB2 := hB1.below hk2)
      | (go_at_call 63; refine (made_d (!neg) v2 _ _ hu2).mono ?_; rintro e w3 ⟨V3, rfl, hr3, hk3⟩; obtain ⟨A3, n3, c3, rfl, hv3⟩ := hr3.open_; have hB3 := hB2.below hk3; have hR3 := ((hA.drew.below hk1).below hk2).below hk3; have r0 := hR3.c0; have r1 := hR3.c1; have f0 := hR3.frozen 0; have f1 := hR3.frozen 1; have hB4 := (hB3.far (p := ⟨w.heap.size + 1, 0, none⟩) (by simp) (.bool (decide (sgn (!neg) (mag neg xs) < 0)))).far (p := ⟨w.heap.size + 1, 1, none⟩) (by simp) (.slice A3 n3 c3)))
  go_wp2
  have hR4 := hR3.two (.bool (decide (sgn (!neg) (mag neg xs) < 0))) (.slice A3 n3 c3)
  refine bodyPost_ret (v := .agg #[.bool (decide (sgn (!neg) (mag neg xs) < 0)), .slice A3 n3 c3]) (by simp [results, Tryz.results99, go_sem, hR4.c0, hR4.c1]) rfl ?_
  have hk := ((Keeps.trans' (Below.drew hkk) hk1).trans' hk2).trans' hk3
  refine ⟨_, rfl, ?_, (hk.set (by simp) _).set (by simp) _⟩
  have e1 : -cnt neg xs = sgn (!neg) (mag neg xs) := by unfold cnt; rw [sgn_neg]
  rw [e1]
  exact hr3.two hR3 rfl rfl rfl
end Go.Proofs.YtomjnjpehokjbaaGreatDoor

namespace Go.Proofs.YtomjnjpehokjbaaGreatDoor
open Go.RowKit Go.Shelf
attribute [local go_sem] Oper.semAt_some

/-- what round number k of slices.Backward hands over -/
def backEnc (xs : List Nat) (n k : Nat) : Array Value := #[.int .i64 ((n - 1 - k : Nat) : Int), .int .u32 (ix xs (n - 1 - k) : Nat)]
/-- what a round keeps: all below n₀, and the iterator's box -/
def BackKp (n₀ Bs : Nat) (W W' : World) : Prop := Below n₀ W W' ∧ W'.heap[Bs]? = W.heap[Bs]?
theorem BackKp.t {n₀ Bs : Nat} {A B C : World} (h : BackKp n₀ Bs A B) (k : BackKp n₀ Bs B C) : BackKp n₀ Bs A C := ⟨h.1.trans k.1, k.2.trans h.2⟩
theorem BackKp.b {n₀ Bs : Nat} {w : World} (hn : n₀ ≤ w.heap.size) (hb : Bs < w.heap.size) (W : World) (l : Nat) (o o' : Obj) (hl : w.heap.size ≤ l) (h : W.heap[l]? = some o) (hc : o.isCells = false) (hw : o.isWalk = false) : BackKp n₀ Bs W (W.putObj l o') :=
  ⟨belowK_b hn W l o o' hl h hc hw, World.putObj_heap_other (by omega)⟩

theorem back_any (A : Option Addr) (n c : Nat) (w : World) :
    Calls Tryz.prog 69 #[.slice A n c] w fun e w' => e = .returned (.func (.func 97) #[] #[.pointer (some ⟨w.heap.size, 0, none⟩)]) ∧ w' = w.alloc (.cells #[.slice A n c] 25) := by
  go_enter Tryz.func69, Tryz.ntmps69
  go_wp2
  go_ret
  exact ⟨rfl, rfl⟩

set_option maxRecDepth 100000 in
set_option maxHeartbeats 1000000 in
theorem back_seq (F : Fence) (m : Nat) (hF : F.fn 97) (hro : F.round = none) (hm : 1 ≤ m) (Bs n₀ n c : Nat) (A : Option Addr) (xs : List Nat) (hn : n ≤ 1000000000) (w : World)
    (hBs : Own w Bs 25 [.slice A n c]) (hr : Row w A n (u32 xs)) (hlt : ∀ b o, A = some ⟨b, o, none⟩ → 0 < n → b < n₀) :
    SeqIdx F m Tryz.prog 97 #[.pointer (some ⟨Bs, 0, none⟩)] (backEnc xs n) (BackKp n₀ Bs) n w := by
  intro l J Jx W hW hJ hJx hY h0
  have hBW := hBs.below hW
  have hrW := hr.below hW
  have b0 := hBW.c0
  refine callsIn_of_wp Tryz.func97 rfl hF ?_ hro
  simp only [Tryz.ntmps97, List.size_toArray, List.length_cons, List.length_nil, Nat.reduceAdd, Nat.reduceSub, Array.replicate_succ, Array.replicate_zero, List.push_toArray, List.append_toArray, List.nil_append, List.cons_append]
  gi_wp2
  gi_loopw [3] (fun i wr => ∃ k : Nat, k ≤ n ∧ i = .int .i64 ((n : Int) - 1 - (k : Nat)) ∧ J k wr ∧ BackKp n₀ Bs W wr)
    (fun i _ => (intOf i + 1).toNat)
  case atStart => exact ⟨0, Nat.zero_le _, by go_num, h0, Below.refl _ _, rfl⟩
  case round =>
    obtain ⟨k, hk, rfl, hJs, hnx⟩ := hrel
    have hOwn : Own wr Bs 25 [.slice A n c] := hnx.2.trans hBW
    have c0 := hOwn.c0
    by_cases hlt' : k < n
    · obtain ⟨b, o, rfl, hb, hcell⟩ := hrW (by omega)
      have hcx : wr.cell? ⟨b, o + (n - 1 - k), none⟩ = some (.int .u32 (ix xs (n - 1 - k) : Nat)) := (hnx.1.cell (p := ⟨b, o + (n - 1 - k), none⟩) (hlt b o rfl (by omega))).trans (hcell (n - 1 - k) (by omega))
      clear hcell
      obtain ⟨fn, tmps, assign, body, hy, hR⟩ := hY k wr hJs hlt'
      unfold backEnc at hy
      have e : (n : Int) - 1 - (k : Int) = ((n - 1 - k : Nat) : Int) := by omega
      rw [e]
      clear e
      obtain ⟨q, hq⟩ : ∃ q, n - 1 - k = q := ⟨_, rfl⟩
      rw [hq] at hy hcx ⊢
      have hqn : q < n := by omega
      have HQ := Lib.hid hq
      clear hq
      gi_wp2
      refine hR.mono ?_
      rintro e W3 (⟨rfl, hJ3, hk3⟩ | ⟨rfl, hJx3⟩)
      · gi_wp2
        go_roundw
        case rel => exact ⟨k + 1, by omega, by have := HQ.out; congr 1; omega, hJ3, hnx.t hk3⟩
        case measure => have := HQ.out; simp [intOf]
      · gi_wp2
        refine bodyPost_ret (results_none rfl _ _ _) rfl ?_
        exact ⟨⟨_, rfl⟩, .inr ⟨k + 1, by omega, hJx3⟩⟩
    · obtain rfl : k = n := by omega
      gi_wp2
      go_end0
      exact ⟨⟨_, rfl⟩, .inl hJs⟩

/-- word: a magnitude of at most two groups -/
theorem val_drop_all (xs : List Nat) : val (xs.drop xs.length) = 0 := by simp [val]

set_option maxRecDepth 100000 in
set_option maxHeartbeats 1000000 in
theorem word_in (A : Option Addr) (n c : Nat) (xs : List Nat) (w : World) (e : xs.length = n) (h : Row w A n (u32 xs)) (ha : AllB xs) (hn : n ≤ 2) :
    Calls Tryz.prog 102 #[.slice A n c] w fun e w' => e = .returned (.tuple #[.int .u64 (val xs : Nat), .bool true]) ∧ Keeps w w' := by
  refine (callsIn_wide (n := 4)).1 ?_
  have hlt : ∀ b o, A = some ⟨b, o, none⟩ → 0 < n → b < w.heap.size := fun b o e hp => h.lt e hp
  refine callsIn_of_wp_marks Tryz.func102 rfl trivial ?_ rfl
  simp only [Tryz.ntmps102, List.size_toArray, List.length_cons, List.length_nil, Nat.reduceAdd, Nat.reduceSub, Array.replicate_succ, Array.replicate_zero, List.push_toArray, List.append_toArray, List.nil_append, List.cons_append]
  gi_wp2_with (refine ⟨trivial, ?_⟩; refine (callsIn_wide.2 (back_any A n c _)).mono ?_; rintro e w' ⟨rfl, rfl⟩)
  have hN := (Own.new w 99 [.int .u64 0]).alloc (.cells #[.slice A n c] 25)
  have hS := own2 w (.cells #[.int .u64 0] 99) 25 [.slice A n c]
  have hK := keep2 w (.cells #[.int .u64 0] 99) (.cells #[.slice A n c] 25)
  apply wpIn_range_idx (N := n) rfl (by omega) (gf := 97) (lb := #[.pointer (some ⟨w.heap.size + 1, 0, none⟩)]) rfl trivial (enters_of Tryz.func97 (by kernel_rfl) rfl)
    (back_seq Fence.wide _ trivial rfl (by omega) (w.heap.size + 1) w.heap.size n c A xs (by omega) _ hS (h.below hK) hlt) BackKp.t (BackKp.b (by simp; omega) (by simp)) (Below.refl _ _) (fun _ => rfl)
    (fun k W => Own W w.heap.size 99 [.int .u64 (val (xs.drop (n - k)) : Nat)] ∧ Own W (w.heap.size + 1) 25 [.slice A n c] ∧ Keeps w W) (fun _ _ _ => False)
    (fun k A B row hs hg hr => ⟨hs.1.nc hg (fun r e => (hr r e).2), hs.2.1.nc hg (fun r e => (hr r e).2), ownFrom_below (β := Nat) (Nat.le_refl _) (by simp; omega) k A B row hs.2.2 hg hr⟩)
    (fun _ _ _ _ _ hs _ _ => hs)
    ⟨by subst e; simpa [val] using hN, hS, hK⟩
  case hassign =>
    intro l x W K hK
    unfold backEnc
    gi_wp2
    exact hK
  case hbody =>
    rintro l k W ⟨h1, h2, h3⟩ hk
    have hdv : val (xs.drop (n - (k + 1))) = ix xs (n - 1 - k) + 1000000000 * val (xs.drop (n - k)) := by
      rw [val_drop xs (n - (k + 1)) (by omega), show n - (k + 1) = n - 1 - k by omega, show n - 1 - k + 1 = n - k by omega]
    have hvb : ((val (xs.drop (n - k)) : Nat) : Int) < 1000000000 := by
      have h1 := val_lt (ha.drop (n - k))
      have h2 : (xs.drop (n - k)).length ≤ 1 := by rw [List.length_drop]; omega
      have h3 : 1000000000 ^ (xs.drop (n - k)).length ≤ 1000000000 ^ 1 := Nat.pow_le_pow_right (by omega) h2
      omega
    have hxb : ((ix xs (n - 1 - k) : Nat) : Int) < 1000000000 := by have := ha.ix (n - 1 - k); omega
    have HD := Lib.hid hdv
    clear hdv
    have c0 := h1.c0
    have f0 := h1.frozen 0
    gi_wp2
    refine ⟨(KeepsOthers.setCell _ _ _).from _, ⟨(Below.refl _ W).setCell (p := ⟨w.heap.size, 0, none⟩) (Nat.le_refl _) _, Below.heap_setCell _ _ _ _ (by simp)⟩, ?_, h2.far (by simp) _, h3.set (Nat.le_refl _) _⟩
    have := h1.set 0 (.int .u64 (val (xs.drop (n - (k + 1))) : Nat))
    rw [show ((val (List.drop (n - k) xs) : Nat) : Int) * 1000000000 + ((ix xs (n - 1 - k) : Nat) : Int) = ((val (xs.drop (n - (k + 1))) : Nat) : Int) by have := HD.out; omega]
    exact this
  case hdone =>
    rintro D W hD ⟨h1, h2, h3⟩ hDf
    have c0 := h1.c0
    gi_wp2
    refine ⟨by simp, .inl ⟨_, _, rfl, run_takeDeferred hDf, ?_⟩⟩
    refine ⟨_, results_tmp2 rfl _ _ _, ?_, h3.trans (belowK_b (w := w) (Nat.le_refl _) W D _ _ (by simp at hD; omega) hDf rfl rfl)⟩
    simp
  case hstop =>
    rintro D c k W _ _ h _
    exact h.elim

set_option maxRecDepth 100000 in
set_option maxHeartbeats 400000 in
theorem word_long (A : Option Addr) (n c : Nat) (w : World) (hn : 2 < n) (hm : n ≤ 1000000000) :
    Calls Tryz.prog 102 #[.slice A n c] w fun e w' => e = .returned (.tuple #[.int .u64 0, .bool false]) ∧ w = w' := by
  go_enter Tryz.func102, Tryz.ntmps102
  go_wp2
  go_ret2
  exact ⟨rfl, rfl⟩
/-- word, of a magnitude -/
def wordV (m : Nat) : Value := if m < 1000000000000000000 then .tuple #[.int .u64 (m : Nat), .bool true] else .tuple #[.int .u64 0, .bool false]
theorem word_any (v : Value) (m : Nat) (w : World) (h : U32 w v (dig m)) (hm : (dig m).length ≤ 1000000) :
    Calls Tryz.prog 102 #[v] w fun e w' => e = .returned (wordV m) ∧ Keeps w w' := by
  obtain ⟨A, n, c, rfl, e, hc, _, h0, hr⟩ := h.open_
  by_cases hs : m < 1000000000000000000
  · have : (dig m).length ≤ 2 := dig_length_le (by omega)
    have := word_in A n c (dig m) w e hr (AllB.dig m) (by omega)
    rw [val_dig] at this
    unfold wordV
    rw [if_pos hs]
    exact this
  · have hl : 2 < n := by
      rcases Nat.lt_or_ge 2 n with h | h
      · exact h
      · have := dig_lt m
        have h3 : 1000000000 ^ (dig m).length ≤ 1000000000 ^ 2 := Nat.pow_le_pow_right (by omega) (by omega)
        omega
    unfold wordV
    rw [if_neg hs]
    exact (word_long A n c w hl (by omega)).mono fun _ _ ⟨a, b⟩ => ⟨a, by subst b; exact Below.refl _ _⟩
end Go.Proofs.YtomjnjpehokjbaaGreatDoor

namespace Go.Proofs.YtomjnjpehokjbaaGreatDoor
open Go.RowKit Go.Shelf
attribute [local go_sem] Oper.semAt_some

theorem sub_sign (x y : Int) : (x < y ∧ (x - y).sign = -1) ∨ (x = y ∧ (x - y).sign = 0) ∨ (y < x ∧ (x - y).sign = 1) := by
  rcases Int.lt_trichotomy x y with h | h | h
  · exact .inl ⟨h, Int.sign_eq_neg_one_of_neg (by omega)⟩
  · exact .inr (.inl ⟨h, by subst h; simp⟩)
  · exact .inr (.inr ⟨h, Int.sign_eq_one_of_pos (by omega)⟩)

theorem nan_int (x : Int) (w : World) : Calls Tryz.prog 120 #[.int .i64 x] w fun e w' => e = .returned (.bool false) ∧ w = w' := by
  have h : (x != x) = false := by simp
  go_enter Tryz.func120, Tryz.ntmps120
  go_wp2
  go_ret
  exact ⟨rfl, rfl⟩
theorem nan_u32 (x : Int) (w : World) : Calls Tryz.prog 141 #[.int .u32 x] w fun e w' => e = .returned (.bool false) ∧ w = w' := by
  have h : (x != x) = false := by simp
  go_enter Tryz.func141, Tryz.ntmps141
  go_wp2
  go_ret
  exact ⟨rfl, rfl⟩
set_option maxHeartbeats 400000 in
theorem cmp_int (x y : Int) (w : World) : Calls Tryz.prog 100 #[.int .i64 x, .int .i64 y] w fun e w' => e = .returned (.int .i64 (x - y).sign) ∧ w = w' := by
  rcases sub_sign x y with ⟨h, hs⟩ | ⟨h, hs⟩ | ⟨h, hs⟩
  · have HS := Lib.hid hs
    clear hs
    have h1 : decide (x < y) = true := decide_eq_true h
    go_enter Tryz.func100, Tryz.ntmps100
    go_wp2_with fail
    refine (nan_int x _).mono ?_
    rintro e w1 ⟨rfl, rfl⟩
    go_wp2_with fail
    refine (nan_int y _).mono ?_
    rintro e w1 ⟨rfl, rfl⟩
    go_wp2
    go_ret
    exact ⟨ret_int HS.out, rfl⟩
  · have HS := Lib.hid hs
    clear hs
    subst h
    have h1 : decide (x < x) = false := by simp
    go_enter Tryz.func100, Tryz.ntmps100
    go_wp2_with fail
    refine (nan_int x _).mono ?_
    rintro e w1 ⟨rfl, rfl⟩
    go_wp2_with fail
    refine (nan_int x _).mono ?_
    rintro e w1 ⟨rfl, rfl⟩
    go_wp2
    go_ret
    exact ⟨ret_int HS.out, rfl⟩
  · have HS := Lib.hid hs
    clear hs
    have h1 : decide (x < y) = false := by simp; omega
    have h2 : decide (y < x) = true := decide_eq_true h
    go_enter Tryz.func100, Tryz.ntmps100
    go_wp2_with fail
    refine (nan_int x _).mono ?_
    rintro e w1 ⟨rfl, rfl⟩
    go_wp2_with fail
    refine (nan_int y _).mono ?_
    rintro e w1 ⟨rfl, rfl⟩
    go_wp2
    go_ret
    exact ⟨ret_int HS.out, rfl⟩
set_option maxHeartbeats 400000 in
theorem cmp_u32 (x y : Int) (w : World) : Calls Tryz.prog 121 #[.int .u32 x, .int .u32 y] w fun e w' => e = .returned (.int .i64 (x - y).sign) ∧ w = w' := by
  rcases sub_sign x y with ⟨h, hs⟩ | ⟨h, hs⟩ | ⟨h, hs⟩
  · have HS := Lib.hid hs
    clear hs
    have h1 : decide (x < y) = true := decide_eq_true h
    go_enter Tryz.func121, Tryz.ntmps121
    go_wp2_with fail
    refine (nan_u32 x _).mono ?_
    rintro e w1 ⟨rfl, rfl⟩
    go_wp2_with fail
    refine (nan_u32 y _).mono ?_
    rintro e w1 ⟨rfl, rfl⟩
    go_wp2
    go_ret
    exact ⟨ret_int HS.out, rfl⟩
  · have HS := Lib.hid hs
    clear hs
    subst h
    have h1 : decide (x < x) = false := by simp
    go_enter Tryz.func121, Tryz.ntmps121
    go_wp2_with fail
    refine (nan_u32 x _).mono ?_
    rintro e w1 ⟨rfl, rfl⟩
    go_wp2_with fail
    refine (nan_u32 x _).mono ?_
    rintro e w1 ⟨rfl, rfl⟩
    go_wp2
    go_ret
    exact ⟨ret_int HS.out, rfl⟩
  · have HS := Lib.hid hs
    clear hs
    have h1 : decide (x < y) = false := by simp; omega
    have h2 : decide (y < x) = true := decide_eq_true h
    go_enter Tryz.func121, Tryz.ntmps121
    go_wp2_with fail
    refine (nan_u32 x _).mono ?_
    rintro e w1 ⟨rfl, rfl⟩
    go_wp2_with fail
    refine (nan_u32 y _).mono ?_
    rintro e w1 ⟨rfl, rfl⟩
    go_wp2
    go_ret
    exact ⟨ret_int HS.out, rfl⟩

set_option maxRecDepth 100000 in
set_option maxHeartbeats 400000 in
theorem compare_len (A D : Option Addr) (n m c d : Nat) (w : World) (hne : n ≠ m) (_hn : n ≤ 1000000000) (_hm : m ≤ 1000000000) :
    Calls Tryz.prog 101 #[.slice A n c, .slice D m d] w fun e w' => e = .returned (.int .i64 ((n : Int) - m).sign) ∧ Keeps w w' := by
  have h1 : ((n : Int) != m) = true := by rw [bne_iff_ne]; omega
  have hR := own2 w (.cells #[.slice D m d] 25) 3 [.int .i64 0]
  have r0 := hR.c0
  have f0 := hR.frozen 0
  go_enter Tryz.func101, Tryz.ntmps101
  go_wp2_with fail
  refine (cmp_int n m _).mono ?_
  rintro e w1 ⟨rfl, rfl⟩
  go_wp2
  refine bodyPost_ret (v := .int .i64 ((n : Int) - m).sign) (by simp [results, Tryz.results101, go_sem]) rfl ?_
  exact ⟨rfl, keep2 _ _ _⟩

set_option maxRecDepth 100000 in
set_option maxHeartbeats 1000000 in
theorem compare_in (A D : Option Addr) (n c d : Nat) (a b : Nat) (w : World) (e : (dig a).length = n) (e' : (dig b).length = n) (h : Row w A n (u32 (dig a))) (h' : Row w D n (u32 (dig b))) (hn : n ≤ 1000000000) :
    Calls Tryz.prog 101 #[.slice A n c, .slice D n d] w fun e w' => e = .returned (.int .i64 ((a : Int) - b).sign) ∧ Keeps w w' := by
  have h1 : ((n : Int) != n) = false := by simp
  refine (callsIn_wide (n := 4)).1 ?_
  have hlt : ∀ b o, A = some ⟨b, o, none⟩ → 0 < n → b < w.heap.size := fun b o e hp => h.lt e hp
  refine callsIn_of_wp_marks Tryz.func101 rfl trivial ?_ rfl
  simp only [Tryz.ntmps101, List.size_toArray, List.length_cons, List.length_nil, Nat.reduceAdd, Nat.reduceSub, Array.replicate_succ, Array.replicate_zero, List.push_toArray, List.append_toArray, List.nil_append, List.cons_append]
  gi_wp2_with (refine ⟨trivial, ?_⟩; refine (callsIn_wide.2 (back_any A n c _)).mono ?_; rintro e w' ⟨rfl, rfl⟩)
  have hB := ((Own.new w 25 [.slice D n d]).alloc (.cells #[.int .i64 0] 3)).alloc (.cells #[.slice A n c] 25)
  have hR := (own2 w (.cells #[.slice D n d] 25) 3 [.int .i64 0]).alloc (.cells #[.slice A n c] 25)
  have hS := own2 (w.alloc (.cells #[.slice D n d] 25)) (.cells #[.int .i64 0] 3) 25 [.slice A n c]
  rw [World.size_alloc] at hS
  have hK := (keep2 w (.cells #[.slice D n d] 25) (.cells #[.int .i64 0] 3)).alloc (by simp; omega) (.cells #[.slice A n c] 25)
  have HE := Lib.hid e
  have HE' := Lib.hid e'
  clear e e'
  apply wpIn_range_idx (N := n) rfl (by omega) (gf := 97) (lb := #[.pointer (some ⟨w.heap.size + 1 + 1, 0, none⟩)]) rfl trivial (enters_of Tryz.func97 (by kernel_rfl) rfl)
    (back_seq Fence.wide _ trivial rfl (by omega) (w.heap.size + 1 + 1) w.heap.size n c A (dig a) (by omega) _ hS (h.below hK) hlt) BackKp.t (BackKp.b (by simp; omega) (by simp)) (Below.refl _ _) (fun _ => rfl)
    (fun k W => (dig a).drop (n - k) = (dig b).drop (n - k) ∧ Own W w.heap.size 25 [.slice D n d] ∧ Own W (w.heap.size + 1) 3 [.int .i64 0] ∧ Own W (w.heap.size + 1 + 1) 25 [.slice A n c] ∧ Keeps w W)
    (fun c k W => c = .ret ∧ Own W (w.heap.size + 1) 3 [.int .i64 ((a : Int) - b).sign] ∧ Keeps w W)
    (fun k A B row hs hg hr => ⟨hs.1, hs.2.1.nc hg (fun r e => (hr r e).2), hs.2.2.1.nc hg (fun r e => (hr r e).2), hs.2.2.2.1.nc hg (fun r e => (hr r e).2), ownFrom_below (β := Nat) (Nat.le_refl _) (by simp; omega) k A B row hs.2.2.2.2 hg hr⟩)
    (fun c k A B row hs hg hr => ⟨hs.1, hs.2.1.nc hg (fun r e => (hr r e).2), ownFrom_below (β := Nat) (Nat.le_refl _) (by simp; omega) k A B row hs.2.2 hg hr⟩)
    ⟨by rw [List.drop_of_length_le (by rw [HE.out]; omega), List.drop_of_length_le (by rw [HE'.out]; omega)], hB, hR, hS, hK⟩
  case hassign =>
    intro l x W K hK
    unfold backEnc
    gi_wp2
    exact hK
  case hbody =>
    rintro l k W ⟨hd, h2, h3, h4, h5⟩ hk
    obtain ⟨q, hq⟩ : ∃ q, n - 1 - k = q := ⟨_, rfl⟩
    rw [hq]
    rw [show n - k = q + 1 by omega] at hd
    have HD := Lib.hid hd
    have hqn : q < n := by omega
    have HQ := Lib.hid hq
    clear hd hq
    obtain ⟨bb, oo, rfl, hbb, hcell⟩ := (h'.below h5) (by omega)
    have hx : W.cell? ⟨bb, oo + q, none⟩ = some (.int .u32 (ix (dig b) q : Nat)) := hcell q hqn
    clear hcell
    have c2 := h2.c0
    have c3 := h3.c0
    have f3 := h3.frozen 0
    by_cases hne : ix (dig a) q = ix (dig b) q
    · have HN := Lib.hid hne
      have hbn : (((ix (dig a) q : Nat) : Int) != ((ix (dig b) q : Nat) : Int)) = false := by simp [hne]
      clear hne
      gi_wp2
      refine ⟨KeepsFrom.refl _ _, ⟨Below.refl _ _, rfl⟩, ?_, h2, h3, h4, h5⟩
      rw [show n - (k + 1) = q by have := HQ.out; omega, drop_cons (dig a) q (by rw [HE.out]; exact hqn), drop_cons (dig b) q (by rw [HE'.out]; exact hqn), HN.out, HD.out]
    · have hs := dig_cmp_at a b q (HE.out.trans HE'.out.symm) (by rw [HE.out]; exact hqn) HD.out hne
      have hbn : (((ix (dig a) q : Nat) : Int) != ((ix (dig b) q : Nat) : Int)) = true := by rw [bne_iff_ne]; omega
      have HS := Lib.hid hs
      clear hne hs
      gi_wp2_with (refine ⟨trivial, ?_⟩; refine (CallsIn.inRound l (callsIn_wide.2 (cmp_u32 _ _ _))).mono ?_; rintro e w' ⟨rfl, rfl⟩)
      refine ⟨(KeepsOthers.setCell _ _ _).from _, rfl, ?_, h5.set (by simp) _⟩
      rw [HS.out]
      exact h3.set 0 _
  case hdone =>
    rintro D W hD ⟨hd, h2, h3, h4, h5⟩ hDf
    have c3 := h3.c0
    have f3 := h3.frozen 0
    rw [Nat.sub_self, List.drop_zero, List.drop_zero] at hd
    have he := dig_inj hd
    clear hd
    gi_wp2
    have h3' := h3.set 0 (.int .i64 0)
    have hDf' : (W.setCell ⟨w.heap.size + 1, 0, none⟩ (.int .i64 0)).heap[D]? = some (.deferred (some [])) := (Below.heap_setCell _ _ _ _ (by simp at hD; simp; omega)).trans hDf
    refine ⟨by simp, .inl ⟨_, _, rfl, run_takeDeferred hDf', ?_⟩⟩
    have h3n := h3'.nc (grownBy_putObj' _ D (.deferred none)) (fun r e => by cases e; exact ⟨_, hDf', rfl⟩)
    refine ⟨.int .i64 0, by simp [results, Tryz.results101, go_sem, h3n.c0], ?_, (h5.set (by simp) _).trans (belowK_b (w := w) (Nat.le_refl _) _ D _ _ (by simp at hD; omega) hDf' rfl rfl)⟩
    subst he
    simp
  case hstop =>
    rintro D c k W hD _ ⟨rfl, h3, h5⟩ hDf
    gi_wp2
    refine ⟨by simp, .inl ⟨_, _, rfl, run_takeDeferred hDf, ?_⟩⟩
    have h3n := h3.nc (grownBy_putObj' _ D (.deferred none)) (fun r e => by cases e; exact ⟨_, hDf, rfl⟩)
    exact ⟨.int .i64 ((a : Int) - b).sign, by simp [results, Tryz.results101, go_sem, h3n.c0], rfl, h5.trans (belowK_b (w := w) (Nat.le_refl _) W D _ _ (by simp at hD; omega) hDf rfl rfl)⟩

theorem compare_any (v1 v2 : Value) (a b : Nat) (w : World) (h1 : U32 w v1 (dig a)) (h2 : U32 w v2 (dig b)) (hm1 : (dig a).length ≤ 1000000000) (hm2 : (dig b).length ≤ 1000000000) :
    Calls Tryz.prog 101 #[v1, v2] w fun e w' => e = .returned (.int .i64 ((a : Int) - b).sign) ∧ Keeps w w' := by
  obtain ⟨A, n, c, rfl, e1, -, -, -, r1⟩ := h1.open_
  obtain ⟨D, m, d, rfl, e2, -, -, -, r2⟩ := h2.open_
  by_cases hl : n = m
  · subst hl
    exact compare_in A D n c d a b w e1 e2 r1 r2 (by omega)
  · refine (compare_len A D n m c d w hl (by omega) (by omega)).mono ?_
    rintro e w' ⟨rfl, hk⟩
    refine ⟨ret_int ?_, hk⟩
    rcases Nat.lt_or_gt_of_ne hl with h | h
    · have := dig_lt_of_length (a := a) (b := b) (by omega)
      rw [Int.sign_eq_neg_one_of_neg (by omega), Int.sign_eq_neg_one_of_neg (by omega)]
    · have := dig_lt_of_length (a := b) (b := a) (by omega)
      rw [Int.sign_eq_one_of_pos (by omega), Int.sign_eq_one_of_pos (by omega)]
end Go.Proofs.YtomjnjpehokjbaaGreatDoor

namespace Go.Proofs.YtomjnjpehokjbaaGreatDoor
open Go.RowKit Go.Shelf

theorem cast_div (o p q c : Nat) : ((o : Int) + p * q + c) / 1000000000 = (((o + p * q + c) / 1000000000 : Nat) : Int) := by
  have : ((p * q : Nat) : Int) = (p : Int) * q := Int.natCast_mul _ _
  omega
theorem cast_mod (o p q c : Nat) : ((o : Int) + p * q + c) % 1000000000 = (((o + p * q + c) % 1000000000 : Nat) : Int) := by
  have : ((p * q : Nat) : Int) = (p : Int) * q := Int.natCast_mul _ _
  omega
set_option maxRecDepth 100000 in
set_option maxHeartbeats 1000000 in
theorem times_core (A D : Option Addr) (n1 n2 c1 c2 : Nat) (xs ys : List Nat) (w : World) (e1 : xs.length = n1) (e2 : ys.length = n2) (h1 : Row w A n1 (u32 xs)) (h2 : Row w D n2 (u32 ys))
    (ha : AllB xs) (hb : AllB ys) (hm1 : n1 ≤ 1000000) (hm2 : n2 ≤ 1000000) :
    Calls Tryz.prog 142 #[.slice A n1 c1, .slice D n2 c2] w fun e w' => ∃ v, e = .returned v ∧ w'.ownsRow w.heap.size 51 1 v (dig (val xs * val ys)).length (u32s (dig (val xs * val ys))) ∧ Keeps w w' := by
  obtain ⟨N, hN⟩ : ∃ N, N = n1 + n2 := ⟨_, rfl⟩
  have hN1 : N ≤ 4000000 := by omega
  have hmk := make_u32 ((n1 : Int) + n2) N (by omega) hN1
  have HE1 := Lib.hid e1
  have HE2 := Lib.hid e2
  have HN := Lib.hid hN
  clear e1 e2 hN
  go_enter Tryz.func142, Tryz.ntmps142
  go_wp2
  have hown := Own.new w 51 (u32s (List.replicate N 0))
  have hk : Keeps w (w.alloc (.cells (u32s (List.replicate N 0)).toArray 51)) := (Below.refl _ _).alloc (Nat.le_refl _) _
  go_loopw [20] (fun i wr => ∃ (k : Nat) (out : List Nat), k ≤ n1 ∧ i = .int .i64 (k : Nat) ∧ out.length = N ∧ AllB out ∧
      val out = val (xs.take k) * val ys ∧ (∀ j, k + n2 ≤ j → ix out j = 0) ∧ Own wr w.heap.size 51 (u32s out) ∧ Keeps w wr)
    (fun i _ => n1 - (intOf i).toNat)
  case atStart => exact ⟨0, List.replicate N 0, by omega, rfl, by simp, AllB.replicate N, by simp [val, val_replicate], fun j _ => by simp [ix, List.getElem?_replicate]; split <;> rfl, hown, hk⟩
  case round =>
    obtain ⟨k, out, hkN, rfl, hol, hob, hval, hz, hown1, hk1⟩ := hrel
    obtain ⟨wo, rfl⟩ : ∃ wo : World, wo = wr := ⟨_, rfl⟩
    have HV := Lib.hid hval
    have HL := Lib.hid hol
    have HZ := Lib.hid hz
    clear hval hol hz
    by_cases hlt : k < n1
    · obtain ⟨b, o, rfl, hbl, hcell⟩ := (h1.below hk1) (by omega)
      have hxc : wo.cell? ⟨b, o + k, none⟩ = some (.int .u32 (ix xs k : Nat)) := hcell k hlt
      clear hcell
      go_wp2
      go_loopw [8, 27] (fun c i wi => ∃ (j cc : Nat) (out' : List Nat), j ≤ n2 ∧ i = .int .i64 (j : Nat) ∧ c = .int .u64 (cc : Nat) ∧ cc < 1000000000 ∧ out'.length = N ∧ AllB out' ∧
          val out' + cc * 1000000000 ^ (k + j) = val (xs.take k) * val ys + ix xs k * val (ys.take j) * 1000000000 ^ k ∧ (∀ j, k + n2 ≤ j → ix out' j = 0) ∧ Own wi w.heap.size 51 (u32s out') ∧ Keeps w wi)
        (fun _ i _ => n2 - (intOf i).toNat)
      case atStart => exact ⟨0, 0, out, by omega, rfl, rfl, by omega, HL.out, hob, by rw [HV.out]; simp [val], HZ.out, hown1, hk1⟩
      case round =>
        obtain ⟨j, cc, out', hj, rfl, rfl, hcc, hol', hob', hval', hz', hown2, hk2⟩ := hrel
        have HV' := Lib.hid hval'
        have HL' := Lib.hid hol'
        have HZ' := Lib.hid hz'
        clear hval' hol' hz'
        have hccI : (cc : Int) < 1000000000 := by omega
        have HC := Lib.hid hcc
        clear hcc
        have hkN : k + n2 < N := by have := HN.out; omega
        by_cases hltj : j < n2
        · obtain ⟨b2, o2, rfl, hbl2, hcell2⟩ := (h2.below hk2) (by omega)
          have hyc : wr.cell? ⟨b2, o2 + j, none⟩ = some (.int .u32 (ix ys j : Nat)) := hcell2 j hltj
          clear hcell2
          have hc0 := hown2.u32cell (i := k + j) (by rw [HL'.out]; omega)
          have hf0 := hown2.frozen (k + j)
          have hob1 : (ix out' (k + j) : Int) < 1000000000 := by have := hob'.ix (k + j); omega
          have hx1 : (ix xs k : Int) < 1000000000 := by have := ha.ix k; omega
          have hy1 : (ix ys j : Int) < 1000000000 := by have := hb.ix j; omega
          have hpq : ((ix xs k : Nat) : Int) * ((ix ys j : Nat) : Int) ≤ 999999998000000001 := by
            have := mul_lt_base _ _ (ha.ix k) (hb.ix j)
            rw [← Int.natCast_mul]; omega
          have hpq0 : (0 : Int) ≤ ((ix xs k : Nat) : Int) * ((ix ys j : Nat) : Int) := by rw [← Int.natCast_mul]; omega
          go_wp2
          go_roundw
          case rel => exact ⟨j + 1, (ix out' (k + j) + ix xs k * ix ys j + cc) / 1000000000, out'.set (k + j) ((ix out' (k + j) + ix xs k * ix ys j + cc) % 1000000000), by omega, by go_num,
            by rw [cast_div], by have := mul_lt_base _ _ (ha.ix k) (hb.ix j); have := hob'.ix (k + j); omega, by rw [List.length_set]; exact HL'.out, hob'.set _ _ (by omega),
            times_in xs ys out' k j cc _ _ (by rw [HL'.out]; omega) HV'.out (by omega), fun i hi => by rw [ix_set _ _ _ _ (by rw [HL'.out]; omega), if_neg (by omega)]; exact HZ'.out i hi,
            hown2.put _ _ (cast_mod _ _ _ _), hk2.set (Nat.le_refl _) _⟩
          case measure => simp [intOf]; omega
        · obtain rfl : j = n2 := by omega
          have hc0 := hown2.u32cell (i := k + j) (by rw [HL'.out]; omega)
          have hf0 := hown2.frozen (k + j)
          go_wp2
          go_roundw
          case rel =>
            refine ⟨k + 1, out'.set (k + j) cc, by omega, by go_num, by rw [List.length_set]; exact HL'.out, hob'.set _ _ HC.out, ?_, fun i hi => ?_, hown2.put _ _ rfl, hk2.set (Nat.le_refl _) _⟩
            · have he := HE2.out
              subst he
              exact times_out xs ys out' k cc (by rw [HL'.out]; omega) (HZ'.out _ (Nat.le_refl _)) HV'.out
            · rw [ix_set _ _ _ _ (by rw [HL'.out]; omega), if_neg (by omega)]
              exact HZ'.out i (by omega)
          case measure => simp [intOf]; omega
    · obtain rfl : k = n1 := by omega
      go_wp2_with fail
      refine (trim_n _ _ _ out wo HL.out (by rw [← HL.out]; exact hown1.row) (Nat.le_refl _) (by simp only [maxLen]; omega)).mono ?_
      rintro e w1 ⟨rfl, rfl⟩
      go_wp2
      go_ret
      refine ⟨_, rfl, ?_, hk1⟩
      have hv := HV.out
      rw [List.take_of_length_le (by rw [HE1.out]; exact Nat.le_refl _)] at hv
      rw [← hv, ← trimL_eq hob]
      exact owns_trim hown1 HL.out (Nat.le_refl _) (by simp only [maxLen]; omega)
/-- times, of magnitudes: a row of the call's own -/
theorem times_any (v1 v2 : Value) (a b : Nat) (w : World) (h1 : U32 w v1 (dig a)) (h2 : U32 w v2 (dig b)) (hm1 : (dig a).length ≤ 1000000) (hm2 : (dig b).length ≤ 1000000) :
    Calls Tryz.prog 142 #[v1, v2] w fun e w' => ∃ v, e = .returned v ∧ w'.ownsRow w.heap.size 51 1 v (dig (a * b)).length (u32s (dig (a * b))) ∧ Keeps w w' := by
  obtain ⟨A, n, c, rfl, e1, -, -, -, r1⟩ := h1.open_
  obtain ⟨D, m, d, rfl, e2, -, -, -, r2⟩ := h2.open_
  have := times_core A D n m c d _ _ w e1 e2 r1 r2 (AllB.dig a) (AllB.dig b) (by omega) (by omega)
  rwa [val_dig, val_dig] at this
end Go.Proofs.YtomjnjpehokjbaaGreatDoor

namespace Go.Proofs.YtomjnjpehokjbaaGreatDoor
open Go.RowKit Go.Shelf

end Go.Proofs.YtomjnjpehokjbaaGreatDoor

namespace Go.Proofs.YtomjnjpehokjbaaGreatDoor
open Go.RowKit Go.Shelf

theorem validB_big {neg : Bool} {xs : List Nat} {k : Nat} (hk : k < xs.length) (h : 1000000000 ≤ ix xs k) : validB neg xs = false := by
  rw [validB_ne rfl (by omega), anyBig_of xs k hk h]; simp
theorem validB_small {neg : Bool} {xs : List Nat} {n : Nat} (e : xs.length = n) (h0 : n ≠ 0) (h : anyBig xs = false) : validB neg xs = (ix xs (n - 1) != 0) := by
  rw [validB_ne e h0, h]; simp

set_option maxRecDepth 100000 in
set_option maxHeartbeats 400000 in
theorem rvalid_any (neg : Bool) (A : Option Addr) (n c : Nat) (xs : List Nat) (w : World) (e : xs.length = n) (h : Row w A n (u32 xs)) (hm : n ≤ 1000000000) :
    Calls Tryz.prog 71 #[.agg #[.bool neg, .slice A n c]] w fun e w' => e = .returned (.bool (validB neg xs)) ∧ Keeps w w' := by
  have hkk := box2 w (.cells #[.bool neg, .slice A n c] 27)
  have h1 := h.below hkk
  have HE := Lib.hid e
  clear e
  go_enter Tryz.func71, Tryz.ntmps71
  go_wp2
  go_loop [4] (fun i => ∃ k : Nat, k ≤ n ∧ i = .int .i64 (k : Nat) ∧ anyBig (xs.take k) = false) (fun i => n - (intOf i).toNat)
  case atStart => exact ⟨0, by omega, rfl, rfl⟩
  case round =>
    obtain ⟨k, hk, rfl, hn⟩ := hrel
    have HN := Lib.hid hn
    clear hn
    by_cases hlt : k < n
    · obtain ⟨b, o, rfl, hb, hcell⟩ := h1 (by omega)
      have hx : (w.alloc (.cells #[.bool neg, .slice (some ⟨b, o, none⟩) n c] 27)).cell? ⟨b, o + k, none⟩ = some (.int .u32 (ix xs k : Nat)) := hcell k hlt
      clear hcell
      rcases Nat.lt_or_ge (ix xs k) 1000000000 with hs | hs
      · have hD : decide ((1000000000 : Int) ≤ (ix xs k : Int)) = false := decide_eq_false (by omega)
        have HS := Lib.hid hs
        clear hs
        go_wp2
        go_round
        case rel => exact ⟨k + 1, by omega, by go_num, by rw [anyBig_take xs k (by rw [HE.out]; exact hlt), HN.out, decide_eq_false (by have := HS.out; omega)]; rfl⟩
        case measure => simp [intOf]; omega
      · have hD : decide ((1000000000 : Int) ≤ (ix xs k : Int)) = true := decide_eq_true (by omega)
        have HS := Lib.hid hs
        clear hs
        go_wp2
        go_ret
        exact ⟨by rw [validB_big (neg := neg) (by rw [HE.out]; exact hlt) HS.out]; rfl, hkk⟩
    · obtain rfl : k = n := by omega
      rcases Nat.eq_zero_or_pos k with h0 | h0
      · subst h0
        go_wp2
        go_ret
        exact ⟨by unfold validB; rw [if_pos HE.out]; rfl, hkk⟩
      · have hk0 : ((k : Int) == 0) = false := by simp; omega
        obtain ⟨b, o, rfl, hb, hcell⟩ := h1 (by omega)
        have hx : (w.alloc (.cells #[.bool neg, .slice (some ⟨b, o, none⟩) k c] 27)).cell? ⟨b, o + (k - 1), none⟩ = some (.int .u32 (ix xs (k - 1) : Nat)) := hcell (k - 1) (by omega)
        clear hcell
        go_wp2
        go_ret
        have hb : anyBig xs = false := by have := HN.out; rwa [← HE.out, List.take_length] at this
        exact ⟨by rw [validB_small HE.out (by omega) hb]; exact congrArg (fun b => Ending.returned (.bool b)) (bne_cast _), hkk⟩

theorem U32.empty (w : World) (a : Addr) : U32 w (.slice (some a) 0 0) [] := ⟨some a, 0, rfl, Nat.le_refl _, by simp [maxLen], (by intro h; cases h), Row.zero⟩
theorem IntRep.of_nil {w : World} {v : Value} (h : U32 w v []) : IntRep w (.agg #[.bool false, v]) 0 := ⟨v, by simp, by simpa [dig_zero] using h⟩
set_option maxRecDepth 100000 in
set_option maxHeartbeats 400000 in
theorem rmade_any (neg : Bool) (A : Option Addr) (n c : Nat) (xs : List Nat) (w : World) (e : xs.length = n) (h : Row w A n (u32 xs)) (ha : AllB xs) (hc : n ≤ c) (hm : n ≤ 4000000) (h0 : A = none → c = 0) :
    Calls Tryz.prog 74 #[.bool neg, .slice A n c] w fun e w' => ∃ V, e = .returned V ∧ IntRep w' V (sgn neg (val xs)) ∧ Keeps w w' := by
  obtain ⟨i0, hi, hz0, hz1, hz2⟩ := info_parts info_u32
  have hkk := box2 w (.cells #[.bool false, .slice none 0 0] 27)
  have h1 := h.below hkk
  have hR := Own.new w 27 [.bool false, .slice none 0 0]
  have HE := Lib.hid e
  clear e
  cases A with
  | none =>
    obtain rfl := h0 rfl
    obtain rfl : n = 0 := by omega
    have hx0 : xs = [] := List.eq_nil_of_length_eq_zero HE.out
    subst hx0
    go_enter Tryz.func74, Tryz.ntmps74
    go_wp2
    refine wp_loop_rounds 1 ?_
    rw [rounds_succ]
    cases neg
    all_goals
      go_wp2_with (at_builtin; refine wpList_append_own_none rfl _ _ 25 rfl (w.heap.size + 1) 51 i0 1 Tryz.underlying25 hi _ 0 [] rfl (made2 w (.cells #[.bool false, .slice none 0 0] 27) 51) rfl ?_)
      refine bodyPost_ret (v := .agg #[.bool false, .slice (some ⟨w.heap.size + 1, 0, none⟩) 0 0]) (by simp [results, Tryz.results74, go_sem]) rfl ?_
      exact ⟨_, rfl, by simpa [val, sgn] using IntRep.of_nil (U32.empty _ _), keep2 _ _ _⟩
  | some ad =>
    go_enter Tryz.func74, Tryz.ntmps74
    go_wp2
    go_loop [5] (fun i => ∃ k : Nat, k ≤ n ∧ i = .int .i64 (k : Nat) ∧ trimL (xs.take k) = trimL xs) (fun i => (intOf i).toNat)
    case atStart => exact ⟨n, Nat.le_refl _, rfl, by rw [← HE.out]; simp⟩
    case round =>
      obtain ⟨k, hk, rfl, ht⟩ := hrel
      have HT := Lib.hid ht
      clear ht
      have step : ∀ (neg : Bool) (hz : k = 0 ∨ ix xs (k - 1) ≠ 0), xs.take k = dig (val xs) := by
        intro _ hz
        have ht := HT.out
        rw [trimL_of_last, trimL_eq ha] at ht
        · exact ht
        · intro hp
          rw [List.length_take, HE.out, Nat.min_eq_left hk, ix_take _ _ _ (by rw [List.length_take, HE.out] at hp; omega)]
          rcases hz with hz | hz
          · subst hz; simp at hp
          · exact hz
      have HF := Lib.hid step
      clear step
      rcases Nat.eq_zero_or_pos k with hk0 | hk0
      · have hv : val xs = 0 := by
          have := HF.out neg (.inl hk0)
          rw [hk0, List.take_zero] at this
          exact dig_eq_nil.1 this.symm
        subst hk0
        have HV := Lib.hid hv
        clear hv
        cases neg
        all_goals
          go_wp2_with (at_builtin; refine wpList_append_row rfl _ _ 25 rfl (w.heap.size + 1) 51 i0 (.int .u32 0) 4 Tryz.underlying25 hi hz0 hz1 hz2 rfl (.slice (some ⟨w.heap.size + 1, 0, none⟩) 0 0) 0 [] rfl (made2 w (.cells #[.bool false, .slice none 0 0] 27) 51) _ _ _ (u32 xs) rfl (by intro h; cases h) (by omega) (Row.zero) (fun j => rfl) (by simp only [maxLen]; omega) (by omega) (by simp) ?_; intro v' w1 hown' hgrow; rw [List.nil_append, Nat.zero_add, u32s_take xs 0 (by omega)] at hown'; have hu := U32.of_own hown'; obtain ⟨A5, n5, c5, rfl, -⟩ := hu.open_; have hR1 := ((hR.alloc (.cells #[] 51)).grown hgrow (by simp [Value.ownBlock])); have r0 := hR1.c0; have r1 := hR1.c1; have f0 := hR1.frozen 0; have f1 := hR1.frozen 1; have hk1 : Keeps w w1 := (hkk.alloc (by simp) _).grown hgrow (by simp; omega) (fun b e => by cases e; simp))
          have hR4 := hR1.two (.bool false) (.slice A5 n5 c5)
          refine bodyPost_ret (v := .agg #[.bool false, .slice A5 n5 c5]) (by simp [results, Tryz.results74, go_sem, hR4.c0, hR4.c1]) rfl ?_
          refine ⟨_, rfl, ?_, (hk1.set (Nat.le_refl _) _).set (Nat.le_refl _) _⟩
          rw [HV.out, sgn_zero]
          exact (IntRep.of_nil hu).two hR1 rfl rfl rfl
      · obtain ⟨b, o, he, hb, hcell⟩ := h1 (by omega)
        cases he
        have hx : (w.alloc (.cells #[.bool false, .slice none 0 0] 27)).cell? ⟨b, o + (k - 1), none⟩ = some (.int .u32 (ix xs (k - 1) : Nat)) := hcell (k - 1) (by omega)
        clear hcell
        by_cases hz : ix xs (k - 1) = 0
        · have hb0 : (((ix xs (k - 1) : Nat) : Int) == 0) = true := by simp [hz]
          have HZ := Lib.hid hz
          clear hz
          go_wp2
          go_round
          case rel => exact ⟨k - 1, by omega, by go_num, by rw [← HT.out, show xs.take k = xs.take (k - 1) ++ [0] by (have := take_snoc xs (k - 1) (by rw [HE.out]; omega)); rw [HZ.out, show k - 1 + 1 = k by omega] at this; exact this, trimL_snoc_zero]⟩
          case measure => simp [intOf]; omega
        · have hb0 : (((ix xs (k - 1) : Nat) : Int) == 0) = false := by simpa using hz
          have HD := Lib.hid (HF.out neg (.inr hz))
          have hv0 : val xs ≠ 0 := by
            intro h0
            have hd := HD.out
            rw [h0, dig_zero] at hd
            have := congrArg List.length hd
            rw [List.length_take, HE.out] at this
            simp at this
            omega
          have HV := Lib.hid hv0
          clear hv0
          clear hz
          cases neg
          · go_wp2_with (at_builtin; refine wpList_append_row rfl _ _ 25 rfl (w.heap.size + 1) 51 i0 (.int .u32 0) 4 Tryz.underlying25 hi hz0 hz1 hz2 rfl (.slice (some ⟨w.heap.size + 1, 0, none⟩) 0 0) 0 [] rfl (made2 w (.cells #[.bool false, .slice none 0 0] 27) 51) _ _ _ (u32 xs) rfl (by intro h; cases h) (by omega) ((h1.take hk).below (box2 _ _)) (fun j => rfl) (by simp only [maxLen]; omega) (by omega) (by simp) ?_; intro v' w1 hown' hgrow; rw [List.nil_append, Nat.zero_add, u32s_take xs k (by rw [HE.out]; exact hk)] at hown'; have hu := U32.of_own hown'; obtain ⟨A5, n5, c5, rfl, -⟩ := hu.open_; have hR1 := ((hR.alloc (.cells #[] 51)).grown hgrow (by simp [Value.ownBlock])); have r0 := hR1.c0; have r1 := hR1.c1; have f0 := hR1.frozen 0; have f1 := hR1.frozen 1; have hk1 : Keeps w w1 := (hkk.alloc (by simp) _).grown hgrow (by simp; omega) (fun b e => by cases e; simp))
            have hR4 := hR1.two (.bool false) (.slice A5 n5 c5)
            refine bodyPost_ret (v := .agg #[.bool false, .slice A5 n5 c5]) (by simp [results, Tryz.results74, go_sem, hR4.c0, hR4.c1]) rfl ?_
            refine ⟨_, rfl, ?_, (hk1.set (Nat.le_refl _) _).set (Nat.le_refl _) _⟩
            exact (IntRep.mk (by rw [← HD.out]; exact hu) HV.out).two hR1 rfl rfl rfl
          · go_wp2_with (at_builtin; refine wpList_append_row rfl _ _ 25 rfl (w.heap.size + 1) 51 i0 (.int .u32 0) 4 Tryz.underlying25 hi hz0 hz1 hz2 rfl (.slice (some ⟨w.heap.size + 1, 0, none⟩) 0 0) 0 [] rfl (made2 w (.cells #[.bool false, .slice none 0 0] 27) 51) _ _ _ (u32 xs) rfl (by intro h; cases h) (by omega) ((h1.take hk).below (box2 _ _)) (fun j => rfl) (by simp only [maxLen]; omega) (by omega) (by simp) ?_; intro v' w1 hown' hgrow; rw [List.nil_append, Nat.zero_add, u32s_take xs k (by rw [HE.out]; exact hk)] at hown'; have hu := U32.of_own hown'; obtain ⟨A5, n5, c5, rfl, -⟩ := hu.open_; have hR1 := ((hR.alloc (.cells #[] 51)).grown hgrow (by simp [Value.ownBlock])); have r0 := hR1.c0; have r1 := hR1.c1; have f0 := hR1.frozen 0; have f1 := hR1.frozen 1; have hk1 : Keeps w w1 := (hkk.alloc (by simp) _).grown hgrow (by simp; omega) (fun b e => by cases e; simp))
            have hR4 := hR1.two (.bool true) (.slice A5 n5 c5)
            refine bodyPost_ret (v := .agg #[.bool true, .slice A5 n5 c5]) (by simp [results, Tryz.results74, go_sem, hR4.c0, hR4.c1]) rfl ?_
            refine ⟨_, rfl, ?_, (hk1.set (Nat.le_refl _) _).set (Nat.le_refl _) _⟩
            exact (IntRep.mk (by rw [← HD.out]; exact hu) HV.out).two hR1 rfl rfl rfl
theorem rmade_u (neg : Bool) (v : Value) (xs : List Nat) (w : World) (h : U32 w v xs) (ha : AllB xs) (hm : xs.length ≤ 4000000) :
    Calls Tryz.prog 74 #[.bool neg, v] w fun e w' => ∃ V, e = .returned V ∧ IntRep w' V (sgn neg (val xs)) ∧ Keeps w w' := by
  obtain ⟨A, n, c, rfl, e, hc, -, h0, hr⟩ := h.open_
  exact rmade_any neg A n c xs w e hr ha hc (by omega) h0

theorem validB_nil {neg : Bool} (h : validB neg [] = true) : neg = false := by simpa [validB] using h
theorem cnt_neg {neg : Bool} {xs : List Nat} (h : validB neg xs = true) : decide (cnt neg xs < 0) = neg := by
  unfold cnt mag
  rw [if_pos h]
  cases neg with
  | false => simp [sgn]
  | true =>
    have : val xs ≠ 0 := by
      intro h0
      have := validB_dig h
      rw [h0, dig_zero] at this
      subst this
      cases validB_nil h
    simp [sgn]; omega
theorem cnt_abs (neg : Bool) (xs : List Nat) : (cnt neg xs).natAbs = mag neg xs := sgn_natAbs _ _

set_option maxRecDepth 100000 in
set_option maxHeartbeats 400000 in
theorem rvalue_any (neg : Bool) (xs : List Nat) (V : Value) (w : World) (h : IntArg w V neg xs) (hm : xs.length ≤ 1000000) :
    Calls Tryz.prog 72 #[V] w fun e w' => ∃ V, e = .returned V ∧ IntRep w' V (cnt neg xs) ∧ Keeps w w' := by
  obtain ⟨i0, hi, hz0, hz1, hz2⟩ := info_parts info_u32
  obtain ⟨v, rfl, hv⟩ := h
  obtain ⟨A, n, c, rfl, e, hc, hcm, h0, hr⟩ := hv.open_
  have hkk := keep2 w (.cells #[.bool neg, .slice A n c] 27) (.cells #[.bool false, .slice none 0 0] 27)
  have hR := own2 w (.cells #[.bool neg, .slice A n c] 27) 27 [.bool false, .slice none 0 0]
  have hB := (Own.new w 27 [.bool neg, .slice A n c]).alloc (.cells #[.bool false, .slice none 0 0] 27)
  have hV := Lib.hid (rvalid_any neg A n c xs _ e (hr.below hkk) (by omega))
  cases hb : validB neg xs with
  | false =>
    have HB := Lib.hid hb
    rw [hb] at hV
    clear hb e
    go_enter Tryz.func72, Tryz.ntmps72
    go_wp2_with fail
    refine hV.out.mono ?_
    rintro e w1 ⟨rfl, hk1⟩
    have hR1 := hR.below hk1
    have r0 := hR1.c0
    have r1 := hR1.c1
    have f0 := hR1.frozen 0
    have f1 := hR1.frozen 1
    go_wp2
    have hR4 := hR1.two (.bool false) (.slice none 0 0)
    refine bodyPost_ret (v := .agg #[.bool false, .slice none 0 0]) (by simp [results, Tryz.results72, go_sem, hR4.c0, hR4.c1]) rfl ?_
    refine ⟨_, rfl, ?_, ((hkk.trans' hk1).set (by simp) _).set (by simp) _⟩
    rw [show cnt neg xs = 0 by unfold cnt mag; rw [if_neg (by rw [HB.out]; simp), sgn_zero]]
    exact IntRep.zero _
  | true =>
    have HB := Lib.hid hb
    have HE := Lib.hid e
    have hnm : n ≤ 1000000 := by omega
    rw [hb] at hV
    clear hb e
    go_enter Tryz.func72, Tryz.ntmps72
    go_wp2_with fail
    refine hV.out.mono ?_
    rintro e w1 ⟨rfl, hk1⟩
    have hR1 := hR.below hk1
    have hB1 := hB.below hk1
    have b0 := hB1.c0
    have b1 := hB1.c1
    have hk2 := hkk.trans' hk1
    have hr1 := (hr.below hkk).below hk1
    have hz3 : w.heap.size + 1 < w1.heap.size := by have := hk1.size; simp at this; omega
    go_wp2
    go_region_held3 (fun w' => w'.cell? ⟨w.heap.size, 0, none⟩ = some (.bool neg) ∧ w'.cell? ⟨w.heap.size, 1, none⟩ = some (.slice A n c))
      (first | exact ⟨b0, b1⟩ | exact ⟨(hB1.alloc (.cells #[] 51)).c0, (hB1.alloc (.cells #[] 51)).c1⟩ | exact ⟨hB5.c0, hB5.c1⟩ | exact ⟨(hB5.far2 (by omega)).c0, (hB5.far2 (by omega)).c1⟩)
      (first
        | (refine step_append_row (by rfl) _ _ 25 (by rfl) w1.heap.size 51 i0 (.int .u32 0) 4 Tryz.underlying25 hi hz0 hz1 hz2 rfl (.slice (some ⟨w1.heap.size, 0, none⟩) 0 0) 0 [] (by rfl) ((made1 w1 51).drew) A n c (u32 xs) (by rfl) h0 hc (hr1.below (w' := (w1.alloc (.cells #[] 51)).drew) (Below.drew (box2 _ _))) (fun j => rfl) (by simp only [maxLen]; omega) (by omega) (by simp) ?_; intro v5 w5 hown5 hgrow5; rw [List.nil_append, Nat.zero_add, u32s_take xs n (by rw [HE.out]; exact Nat.le_refl _), List.take_of_length_le (by rw [HE.out]; exact Nat.le_refl _)] at hown5; have hu5 := U32.of_own hown5; obtain ⟨A5, n5, c5, rfl, -⟩ := hu5.open_; have hR5 := (hR1.alloc (.cells #[] 51)).drew.grown hgrow5 (by simp [Value.ownBlock]; omega); have r0 := hR5.c0; have r1 := hR5.c1; have f0 := hR5.frozen 0; have f1 := hR5.frozen 1; have hB5 := (hB1.alloc (.cells #[] 51)).drew.grown hgrow5 (by simp [Value.ownBlock]; omega)))
    go_wp2
    have hR6 := hR5.two (.bool neg) (.slice A5 n5 c5)
    refine bodyPost_ret (v := .agg #[.bool neg, .slice A5 n5 c5]) (by simp [results, Tryz.results72, go_sem, hR6.c0, hR6.c1]) rfl ?_
    have hk5 : Keeps w w5 := (Below.drew (Below.alloc hk2 (by omega) _)).grown hgrow5 (by simp; omega) (fun b e => by cases e; show w.heap.size ≤ w1.heap.size; omega)
    refine ⟨_, rfl, ?_, (hk5.set (by simp) _).set (by simp) _⟩
    have hrep : IntRep w5 (.agg #[.bool neg, .slice A5 n5 c5]) (cnt neg xs) := ⟨_, by rw [cnt_neg HB.out], by rw [cnt_abs, dig_mag HB.out]; exact hu5⟩
    exact hrep.two hR5 rfl rfl rfl
end Go.Proofs.YtomjnjpehokjbaaGreatDoor

namespace Go.Proofs.YtomjnjpehokjbaaGreatDoor
open Go.RowKit Go.Shelf

theorem group_any (v : Value) (xs : List Nat) (i : Nat) (w : World) (h : U32 w v xs) (ha : AllB xs) (hm : xs.length ≤ 1000000000) (hi : i ≤ 1000000000) :
    Calls Tryz.prog 128 #[v, .int .i64 (i : Nat)] w fun e w' => e = .returned (.int .u64 (ix xs i : Nat)) ∧ w = w' := by
  obtain ⟨A, n, c, rfl, e, -, -, -, hr⟩ := h.open_
  by_cases hlt : i < n
  · obtain ⟨b, o, rfl, hb, hcell⟩ := hr (by omega)
    have hx : w.cell? ⟨b, o + i, none⟩ = some (.int .u32 (ix xs i : Nat)) := hcell i hlt
    have hxb : (ix xs i : Int) < 1000000000 := by have := ha.ix i; omega
    clear hcell e
    go_enter Tryz.func128, Tryz.ntmps128
    go_wp2
    go_ret
    exact ⟨rfl, rfl⟩
  · have HZ := Lib.hid (ix_past xs i (by omega))
    clear e
    go_enter Tryz.func128, Tryz.ntmps128
    go_wp2
    go_ret
    exact ⟨by rw [HZ.out]; rfl, rfl⟩

/-- Same, of two equal integers -/
def sameB (n1 n2 : Bool) (xs ys : List Nat) : Bool := decide (n1 = n2 ∧ xs = ys)
end Go.Proofs.YtomjnjpehokjbaaGreatDoor

namespace Go.Proofs.YtomjnjpehokjbaaGreatDoor
open Go.RowKit Go.Shelf

set_option maxRecDepth 100000 in
set_option maxHeartbeats 400000 in
theorem size_any (v1 v2 : Value) (a b : Nat) (w : World) (h1 : U32 w v1 (dig a)) (h2 : U32 w v2 (dig b)) (hm1 : (dig a).length ≤ 1000000) (hm2 : (dig b).length ≤ 1000000) :
    Calls Tryz.prog 125 #[v1, v2] w fun e w' => e = .returned (.int .i64 ((a : Int) - b).sign) ∧ Keeps w w' := by
  obtain ⟨A, n, c, rfl, e1, -, -, -, r1⟩ := h1.open_
  obtain ⟨D, m, d, rfl, e2, -, -, -, r2⟩ := h2.open_
  have hn1 : n ≤ 1000000 := by omega
  have hn2 : m ≤ 1000000 := by omega
  have HE1 := Lib.hid e1
  have HE2 := Lib.hid e2
  clear e1 e2 hm1 hm2 h1 h2
  by_cases hl : n = m
  · subst hl
    have hnn : ((n : Int) != n) = false := by simp
    go_enter Tryz.func125, Tryz.ntmps125
    go_wp2
    go_loopw [5] (fun i wr => ∃ k : Nat, k ≤ n ∧ i = .int .i64 ((n : Int) - 1 - (k : Nat)) ∧ (dig a).drop (n - k) = (dig b).drop (n - k) ∧ Keeps w wr) (fun i _ => (intOf i + 1).toNat)
    case atStart => exact ⟨0, by omega, by go_num, by rw [List.drop_of_length_le (by rw [HE1.out]; omega), List.drop_of_length_le (by rw [HE2.out]; omega)], Below.refl _ _⟩
    case round =>
      obtain ⟨k, hk, rfl, hd, hkr⟩ := hrel
      by_cases hlt : k < n
      · have e : (n : Int) - 1 - (k : Int) = ((n - 1 - k : Nat) : Int) := by omega
        rw [e]
        clear e
        obtain ⟨q, hq⟩ : ∃ q, n - 1 - k = q := ⟨_, rfl⟩
        rw [show n - k = q + 1 by omega] at hd
        rw [hq]
        have hqn : q < n := by omega
        have h00 : (0 : Int) ≤ (q : Int) := by omega
        have h01 : (q : Int) < (n : Int) := by omega
        have HD := Lib.hid hd
        have HQ := Lib.hid hq
        clear hd hq
        obtain ⟨b1, o1, rfl, hb1, hcell⟩ := (r1.below hkr) (by omega)
        obtain ⟨b2, o2, rfl, hb2, hcell2⟩ := (r2.below hkr) (by omega)
        have hx : wr.cell? ⟨b1, o1 + q, none⟩ = some (.int .u32 (ix (dig a) q : Nat)) := hcell q hqn
        have hy : wr.cell? ⟨b2, o2 + q, none⟩ = some (.int .u32 (ix (dig b) q : Nat)) := hcell2 q hqn
        clear hcell hcell2
        have hcmp := dig_cmp_at a b q (HE1.out.trans HE2.out.symm) (by rw [HE1.out]; exact hqn) HD.out
        have HC := Lib.hid hcmp
        clear hcmp
        rcases Nat.lt_trichotomy (ix (dig a) q) (ix (dig b) q) with hs | hs | hs
        · have b1 : decide (ix (dig a) q < ix (dig b) q) = true := decide_eq_true (by omega)
          have HS := Lib.hid hs
          clear hs
          go_wp2
          go_quiet (fail)
          go_wp2
          go_ret
          exact ⟨ret_int (by have := HS.out; rw [HC.out (by omega), Int.sign_eq_neg_one_of_neg (by omega)]), below_drewN hkr _⟩
        · have b1 : decide (ix (dig a) q < ix (dig b) q) = false := decide_eq_false (by omega)
          have b2 : decide (ix (dig b) q < ix (dig a) q) = false := decide_eq_false (by omega)
          have HS := Lib.hid hs
          clear hs
          go_wp2
          go_quiet (fail)
          go_wp2
          go_quiet (fail)
          go_wp2
          go_roundw
          case rel => exact ⟨k + 1, by omega, by have := HQ.out; congr 1; omega, by rw [show n - (k + 1) = q by have := HQ.out; omega, drop_cons (dig a) q (by rw [HE1.out]; exact hqn), drop_cons (dig b) q (by rw [HE2.out]; exact hqn), HS.out, HD.out], below_drewN hkr _⟩
          case measure => have := HQ.out; simp [intOf]
        · have b1 : decide (ix (dig a) q < ix (dig b) q) = false := decide_eq_false (by omega)
          have b2 : decide (ix (dig b) q < ix (dig a) q) = true := decide_eq_true (by omega)
          have HS := Lib.hid hs
          clear hs
          go_wp2
          go_quiet (fail)
          go_wp2
          go_quiet (fail)
          go_wp2
          go_ret
          exact ⟨ret_int (by have := HS.out; rw [HC.out (by omega), Int.sign_eq_one_of_pos (by omega)]), below_drewN (below_drewN hkr _) _⟩
      · obtain rfl : k = n := by omega
        rw [Nat.sub_self, List.drop_zero, List.drop_zero] at hd
        have he := Lib.hid (dig_inj hd)
        clear hd
        go_wp2
        go_ret
        exact ⟨ret_int (by rw [he.out]; simp), hkr⟩
  · have hnn : ((n : Int) != m) = true := by rw [bne_iff_ne]; omega
    rcases Nat.lt_or_gt_of_ne hl with hs | hs
    · have := dig_lt_of_length (a := a) (b := b) (by rw [HE1.out, HE2.out]; exact hs)
      have HS := Lib.hid this
      clear this
      go_enter Tryz.func125, Tryz.ntmps125
      go_wp2
      go_ret
      exact ⟨ret_int (by have := HS.out; rw [Int.sign_eq_neg_one_of_neg (by omega)]), Below.refl _ _⟩
    · have := dig_lt_of_length (a := b) (b := a) (by rw [HE1.out, HE2.out]; exact hs)
      have HS := Lib.hid this
      clear this
      go_enter Tryz.func125, Tryz.ntmps125
      go_wp2
      go_ret
      exact ⟨ret_int (by have := HS.out; rw [Int.sign_eq_one_of_pos (by omega)]), Below.refl _ _⟩

theorem field_groups (x y : Value) : ∀ w : World, (Instr.field 27 (.agg #[x, y]) 1).run Tryz.prog w = .ok y w := fun _ => by kernel_rfl
/-- what the reference's loops leave: a row of the call's own -/
theorem rplus_step (xs ys out : List Nat) (k cc s c : Nat) (hk : out.length = k) (hv : val out + cc * 1000000000 ^ k = val (xs.take k) + val (ys.take k))
    (e : s + c * 1000000000 = ix xs k + ix ys k + cc) :
    val (out ++ [s]) + c * 1000000000 ^ (k + 1) = val (xs.take (k + 1)) + val (ys.take (k + 1)) := by
  rw [val_snoc, hk, val_take_succ xs, val_take_succ ys]
  have : (s + c * 1000000000) * 1000000000 ^ k = (ix xs k + ix ys k + cc) * 1000000000 ^ k := by rw [e]
  grind

set_option maxRecDepth 100000 in
set_option maxHeartbeats 1000000 in
theorem rplus_core (A D : Option Addr) (n1 n2 c1 c2 : Nat) (xs ys : List Nat) (w : World) (e1 : xs.length = n1) (e2 : ys.length = n2) (h1 : U32 w (.slice A n1 c1) xs) (h2 : U32 w (.slice D n2 c2) ys)
    (ha : AllB xs) (hb : AllB ys) (hm1 : n1 ≤ 1000000) (hm2 : n2 ≤ 1000000) :
    Calls Tryz.prog 140 #[.slice A n1 c1, .slice D n2 c2] w fun e w' => ∃ v, e = .returned v ∧ U32 w' v (dig (val xs + val ys)) ∧ Keeps w w' := by
  obtain ⟨i0, hi, hz0, hz1, hz2⟩ := info_parts info_u32
  have HE1 := Lib.hid e1
  have HE2 := Lib.hid e2
  clear e1 e2
  go_enter Tryz.func140, Tryz.ntmps140
  go_wp2
  go_loopw [5, 6, 7] (fun g c i wr => ∃ (k cc : Nat) (out : List Nat), k ≤ max n1 n2 ∧ i = .int .i64 (k : Nat) ∧ c = .int .u64 (cc : Nat) ∧ cc ≤ 1 ∧ out.length = k ∧ AllB out ∧
      val out + cc * 1000000000 ^ k = val (xs.take k) + val (ys.take k) ∧ wr.ownsRow w.heap.size 51 1 g k (u32s out) ∧ Keeps w wr)
    (fun _ _ i _ => max n1 n2 - (intOf i).toNat)
  case atStart => exact ⟨0, 0, [], by omega, rfl, rfl, by omega, rfl, AllB.nil, by simp [val], made1 w _, box2 _ _⟩
  case round =>
    obtain ⟨k, cc, out, hkN, rfl, rfl, hcc, hol, hob, hval, hown1, hk1⟩ := hrel
    have HV := Lib.hid hval
    have HL := Lib.hid hol
    clear hval hol
    have hN : max n1 n2 ≤ 1000000 := by omega
    by_cases hlt : k < max n1 n2
    · have hx : (ix xs k : Int) < 1000000000 := by have := ha.ix k; omega
      have hy : (ix ys k : Int) < 1000000000 := by have := hb.ix k; omega
      have hcases : (k < n1) ∨ (n1 ≤ k ∧ k < n2) := by omega
      rcases hcases with hq | ⟨hq, hq2⟩
      all_goals
        go_wp2_with fail
        refine (group_any _ xs k wr (h1.below hk1) ha (by rw [HE1.out]; omega) (by omega)).mono ?_
        rintro e w1 ⟨rfl, rfl⟩
        go_wp2_with fail
        refine (group_any _ ys k wr (h2.below hk1) hb (by rw [HE2.out]; omega) (by omega)).mono ?_
        rintro e w1 ⟨rfl, rfl⟩
        go_wp2_with (at_builtin; refine wpList_append_own _ rfl _ _ 25 rfl w.heap.size 51 i0 (.int .u32 0) 1 4 Tryz.underlying25 hi hz0 hz1 hz2 rfl (by decide) _ _ _ rfl (hown1.alloc _) ⟨wr.heap.size, 0, none⟩ 1 1 [.int .u32 (((ix xs k : Nat) + (ix ys k : Nat) + (cc : Nat) : Int) % 1000000000)] rfl rfl (newcell _ _ _) (by simp [Value.oneCell']) (by simp only [maxLen]; omega) (by omega) (by have := hk1.size; simp; omega) ?_; intro v' w1 hown' hgrow _)
        rw [u32s_snoc out ((ix xs k + ix ys k + cc) % 1000000000) (by omega)] at hown'
        have hk2 : Keeps w w1 := (hk1.alloc hk1.size _).grown hgrow (by have := hk1.size; simp; omega) (fun b e => (hown1.lt b e).1)
        go_roundw
        case rel => exact ⟨k + 1, (ix xs k + ix ys k + cc) / 1000000000, out ++ [(ix xs k + ix ys k + cc) % 1000000000], by omega, by go_num, by congr 1 <;> omega, by have := ha.ix k; have := hb.ix k; omega, by simp [HL.out],
          hob.append (AllB.single (by omega)), rplus_step xs ys out k cc _ _ HL.out HV.out (by omega), hown', hk2⟩
        case measure => simp [intOf]; omega
    · obtain ⟨K, hK⟩ : ∃ K, K = k := ⟨_, rfl⟩
      have hq1 : n1 ≤ k := by omega
      have hq2 : n2 ≤ k := by omega
      clear hK
      have hccI : (cc : Int) ≤ 1 := by omega
      have hfin : val (out ++ [cc]) = val xs + val ys := by
        have := HV.out
        rw [List.take_of_length_le (by rw [HE1.out]; exact hq1), List.take_of_length_le (by rw [HE2.out]; exact hq2)] at this
        rw [val_snoc, HL.out]; exact this
      have HF := Lib.hid hfin
      clear hfin
      go_wp2_with (at_builtin; refine wpList_append_own _ rfl _ _ 25 rfl w.heap.size 51 i0 (.int .u32 0) 1 4 Tryz.underlying25 hi hz0 hz1 hz2 rfl (by decide) _ _ _ rfl (hown1.alloc _) ⟨wr.heap.size, 0, none⟩ 1 1 [.int .u32 (cc : Nat)] rfl rfl (newcell _ _ _) (by simp [Value.oneCell']) (by simp only [maxLen]; omega) (by omega) (by have := hk1.size; simp; omega) ?_; intro v' w1 hown' hgrow _)
      rw [u32s_snoc out cc rfl] at hown'
      have hk2 : Keeps w w1 := (hk1.alloc hk1.size _).grown hgrow (by have := hk1.size; simp; omega) (fun b e => (hown1.lt b e).1)
      refine (rmade_u false v' _ _ (U32.of_own hown') (hob.append (AllB.single (by omega))) (by simp [HL.out]; omega)).mono ?_
      rintro e w3 ⟨V3, rfl, hr3, hk3⟩
      obtain ⟨A3, n3, c3, rfl, hv3⟩ := hr3.open_
      have hfd := field_groups (.bool (decide (sgn false (val (out ++ [cc])) < 0))) (.slice A3 n3 c3)
      go_wp2
      go_ret
      refine ⟨_, rfl, ?_, hk2.trans' hk3⟩
      rw [sgn_natAbs, HF.out] at hv3
      exact hv3
end Go.Proofs.YtomjnjpehokjbaaGreatDoor

namespace Go.Proofs.YtomjnjpehokjbaaGreatDoor
open Go.RowKit Go.Shelf

theorem rminus_step (xs ys out : List Nat) (k cc s c : Nat) (hk : out.length = k) (hv : val out + val (ys.take k) = val (xs.take k) + cc * 1000000000 ^ k)
    (e : s + ix ys k + cc = ix xs k + c * 1000000000) :
    val (out ++ [s]) + val (ys.take (k + 1)) = val (xs.take (k + 1)) + c * 1000000000 ^ (k + 1) := by
  rw [val_snoc, hk, val_take_succ xs, val_take_succ ys]
  have : (s + ix ys k + cc) * 1000000000 ^ k = (ix xs k + c * 1000000000) * 1000000000 ^ k := by rw [e]
  grind

set_option maxRecDepth 100000 in
set_option maxHeartbeats 1000000 in
theorem rminus_core (A D : Option Addr) (n1 n2 c1 c2 : Nat) (xs ys : List Nat) (w : World) (e1 : xs.length = n1) (e2 : ys.length = n2) (h1 : U32 w (.slice A n1 c1) xs) (h2 : U32 w (.slice D n2 c2) ys)
    (ha : AllB xs) (hb : AllB ys) (hm1 : n1 ≤ 1000000) (hl : n2 ≤ n1) (hle : val ys ≤ val xs) :
    Calls Tryz.prog 129 #[.slice A n1 c1, .slice D n2 c2] w fun e w' => ∃ v, e = .returned v ∧ U32 w' v (dig (val xs - val ys)) ∧ Keeps w w' := by
  obtain ⟨i0, hi, hz0, hz1, hz2⟩ := info_parts info_u32
  have HE1 := Lib.hid e1
  have HE2 := Lib.hid e2
  have HLE := Lib.hid hle
  clear e1 e2 hle
  go_enter Tryz.func129, Tryz.ntmps129
  go_wp2
  go_loopw [5, 6, 7] (fun g c i wr => ∃ (k cc : Nat) (out : List Nat), k ≤ n1 ∧ i = .int .i64 (k : Nat) ∧ c = .int .u64 (cc : Nat) ∧ cc ≤ 1 ∧ out.length = k ∧ AllB out ∧
      val out + val (ys.take k) = val (xs.take k) + cc * 1000000000 ^ k ∧ wr.ownsRow w.heap.size 51 1 g k (u32s out) ∧ Keeps w wr)
    (fun _ _ i _ => n1 - (intOf i).toNat)
  case atStart => exact ⟨0, 0, [], by omega, rfl, rfl, by omega, rfl, AllB.nil, by simp [val], made1 w _, box2 _ _⟩
  case round =>
    obtain ⟨k, cc, out, hkN, rfl, rfl, hcc, hol, hob, hval, hown1, hk1⟩ := hrel
    have HV := Lib.hid hval
    have HL := Lib.hid hol
    clear hval hol
    by_cases hlt : k < n1
    · have hx : (ix xs k : Int) < 1000000000 := by have := ha.ix k; omega
      have hy : (ix ys k : Int) < 1000000000 := by have := hb.ix k; omega
      go_wp2_with fail
      refine (group_any _ xs k wr (h1.below hk1) ha (by rw [HE1.out]; omega) (by omega)).mono ?_
      rintro e w1 ⟨rfl, rfl⟩
      go_wp2_with fail
      refine (group_any _ ys k wr (h2.below hk1) hb (by rw [HE2.out]; omega) (by omega)).mono ?_
      rintro e w1 ⟨rfl, rfl⟩
      go_wp2_with (at_builtin; refine wpList_append_own _ rfl _ _ 25 rfl w.heap.size 51 i0 (.int .u32 0) 1 4 Tryz.underlying25 hi hz0 hz1 hz2 rfl (by decide) _ _ _ rfl (hown1.alloc _) ⟨wr.heap.size, 0, none⟩ 1 1 [.int .u32 ((1000000000 + (ix xs k : Nat) - (ix ys k : Nat) - (cc : Nat) : Int) % 1000000000)] rfl rfl (newcell _ _ _) (by simp [Value.oneCell']) (by simp only [maxLen]; omega) (by omega) (by have := hk1.size; simp; omega) ?_; intro v' w1 hown' hgrow _)
      rw [u32s_snoc out ((1000000000 + ix xs k - ix ys k - cc) % 1000000000) (by omega)] at hown'
      have hk2 : Keeps w w1 := (hk1.alloc hk1.size _).grown hgrow (by have := hk1.size; simp; omega) (fun b e => (hown1.lt b e).1)
      go_roundw
      case rel => exact ⟨k + 1, 1 - (1000000000 + ix xs k - ix ys k - cc) / 1000000000, out ++ [(1000000000 + ix xs k - ix ys k - cc) % 1000000000], by omega, by go_num, by congr 1 <;> omega, by omega, by simp [HL.out],
        hob.append (AllB.single (by omega)), rminus_step xs ys out k cc _ _ HL.out HV.out (by have := ha.ix k; have := hb.ix k; omega), hown', hk2⟩
      case measure => simp [intOf]; omega
    · obtain rfl : k = n1 := by omega
      have hfin : val out = val xs - val ys := by
        have hv := HV.out
        rw [List.take_of_length_le (by rw [HE2.out]; exact hl), List.take_of_length_le (by rw [HE1.out]; exact Nat.le_refl _)] at hv
        have a := val_lt hob
        have b := val_lt ha
        rw [HL.out] at a
        rw [HE1.out] at b
        have := HLE.out
        have : cc = 0 ∨ cc = 1 := by omega
        rcases this with rfl | rfl <;> omega
      have HF := Lib.hid hfin
      clear hfin
      go_wp2_with fail
      refine (rmade_u false u5 out _ (U32.of_own hown1) hob (by rw [HL.out]; omega)).mono ?_
      rintro e w3 ⟨V3, rfl, hr3, hk3⟩
      obtain ⟨A3, n3, c3, rfl, hv3⟩ := hr3.open_
      have hfd := field_groups (.bool (decide (sgn false (val out) < 0))) (.slice A3 n3 c3)
      go_wp2
      go_ret
      refine ⟨_, rfl, ?_, hk1.trans' hk3⟩
      rw [sgn_natAbs, HF.out] at hv3
      exact hv3

theorem rplus_d (v1 v2 : Value) (a b : Nat) (w : World) (h1 : U32 w v1 (dig a)) (h2 : U32 w v2 (dig b)) (hm1 : (dig a).length ≤ 1000000) (hm2 : (dig b).length ≤ 1000000) :
    Calls Tryz.prog 140 #[v1, v2] w fun e w' => ∃ v, e = .returned v ∧ U32 w' v (dig (a + b)) ∧ Keeps w w' := by
  obtain ⟨A, n, c, rfl, e1, -⟩ := h1.open_
  obtain ⟨D, m, d, rfl, e2, -⟩ := h2.open_
  have := rplus_core A D n m c d _ _ w e1 e2 h1 h2 (AllB.dig a) (AllB.dig b) (by omega) (by omega)
  rwa [val_dig, val_dig] at this
theorem rminus_d (v1 v2 : Value) (a b : Nat) (w : World) (h1 : U32 w v1 (dig a)) (h2 : U32 w v2 (dig b)) (hm1 : (dig a).length ≤ 1000000) (hle : b ≤ a) :
    Calls Tryz.prog 129 #[v1, v2] w fun e w' => ∃ v, e = .returned v ∧ U32 w' v (dig (a - b)) ∧ Keeps w w' := by
  obtain ⟨A, n, c, rfl, e1, -⟩ := h1.open_
  obtain ⟨D, m, d, rfl, e2, -⟩ := h2.open_
  have := rminus_core A D n m c d _ _ w e1 e2 h1 h2 (AllB.dig a) (AllB.dig b) (by omega) (by have := dig_length_mono hle; omega) (by rw [val_dig, val_dig]; exact hle)
  rwa [val_dig, val_dig] at this
theorem rmade_d (neg : Bool) (v : Value) (m : Nat) (w : World) (h : U32 w v (dig m)) (hm : (dig m).length ≤ 4000000) :
    Calls Tryz.prog 74 #[.bool neg, v] w fun e w' => ∃ V, e = .returned V ∧ IntRep w' V (sgn neg m) ∧ Keeps w w' := by
  have := rmade_u neg v (dig m) w h (AllB.dig m) hm
  rwa [val_dig] at this

theorem sign_sgn (neg : Bool) (m : Nat) (h : m ≠ 0) : decide (sgn neg m < 0) = neg := by
  cases neg <;> simp [sgn] <;> omega
theorem sgn_of_rep (z : Int) : sgn (decide (z < 0)) z.natAbs = z := by
  by_cases h : z < 0
  · rw [decide_eq_true h]; simp [sgn]; omega
  · rw [decide_eq_false h]; simp [sgn]; omega

/-- a canonical integer as an argument -/
theorem IntRep.arg {w : World} {V : Value} {z : Int} (h : IntRep w V z) : IntArg w V (decide (z < 0)) (dig z.natAbs) := h
theorem validB_rep (z : Int) : validB (decide (z < 0)) (dig z.natAbs) = true := by
  unfold validB
  by_cases h0 : z.natAbs = 0
  · rw [if_pos (by rw [h0, dig_zero]; rfl)]
    simp; omega
  · rw [if_neg (by rw [dig_length_zero]; exact h0), Bool.and_eq_true]
    refine ⟨by simpa using dig_last h0, ?_⟩
    rw [List.all_eq_true]
    intro x hx
    have := AllB.dig z.natAbs x hx
    simpa using this
theorem cnt_rep (z : Int) : cnt (decide (z < 0)) (dig z.natAbs) = z := by
  unfold cnt mag
  rw [if_pos (validB_rep z), val_dig]
  exact sgn_of_rep z

set_option maxRecDepth 100000 in
set_option maxHeartbeats 400000 in
theorem rsign_any (neg : Bool) (xs : List Nat) (V : Value) (w : World) (h : IntArg w V neg xs) (hm : xs.length ≤ 1000000) :
    Calls Tryz.prog 80 #[V] w fun e w' => e = .returned (.int .i64 (cnt neg xs).sign) ∧ Keeps w w' := by
  obtain ⟨v, rfl, hv⟩ := h
  have hkk := box2 w (.cells #[.bool neg, v] 27)
  have hB := Own.new w 27 [.bool neg, v]
  have hG := Lib.hid (rvalue_any neg xs (.agg #[.bool neg, v]) _ ⟨v, rfl, hv.below hkk⟩ hm)
  generalize cnt neg xs = z at hG ⊢
  go_enter Tryz.func80, Tryz.ntmps80
  go_wp2_with fail
  refine hG.out.mono ?_
  rintro e w1 ⟨V3, rfl, hr3, hk1⟩
  obtain ⟨A3, n3, c3, rfl, hv3⟩ := hr3.open_
  obtain ⟨A', n', c', e', e1, -⟩ := hv3.open_
  cases e'
  have hB1 := hB.below hk1
  have r0 := hB1.c0
  have r1 := hB1.c1
  have f0 := hB1.frozen 0
  have f1 := hB1.frozen 1
  have hk := hkk.trans' hk1
  have hB2 := hB1.two (.bool (decide (z < 0))) (.slice A3 n3 c3)
  have s0 := hB2.c0
  have s1 := hB2.c1
  rcases Int.lt_trichotomy z 0 with hz | hz | hz
  · have hd : decide (z < 0) = true := decide_eq_true hz
    have hn : ((n3 : Int) == 0) = false := by have := dig_length_pos.2 (show z.natAbs ≠ 0 by omega); simp; omega
    have HZ := Lib.hid hz
    rw [hd] at *
    clear hz e1 hd
    go_wp2
    go_ret
    exact ⟨ret_int (by rw [Int.sign_eq_neg_one_of_neg HZ.out]), (hk.set (by simp) _).set (by simp) _⟩
  · have hd : decide (z < 0) = false := decide_eq_false (by omega)
    have hn : ((n3 : Int) == 0) = true := by rw [hz] at e1; simp [dig_zero] at e1; simp; omega
    have HZ := Lib.hid hz
    rw [hd] at *
    clear hz e1 hd
    go_wp2
    go_ret
    exact ⟨ret_int (by rw [HZ.out]; rfl), (hk.set (by simp) _).set (by simp) _⟩
  · have hd : decide (z < 0) = false := decide_eq_false (by omega)
    have hn : ((n3 : Int) == 0) = false := by have := dig_length_pos.2 (show z.natAbs ≠ 0 by omega); simp; omega
    have HZ := Lib.hid hz
    rw [hd] at *
    clear hz e1 hd
    go_wp2
    go_ret
    exact ⟨ret_int (by rw [Int.sign_eq_one_of_pos HZ.out]), (hk.set (by simp) _).set (by simp) _⟩
end Go.Proofs.YtomjnjpehokjbaaGreatDoor

namespace Go.Proofs.YtomjnjpehokjbaaGreatDoor
open Go.RowKit Go.Shelf

theorem field_neg (x y : Value) : ∀ w : World, (Instr.field 27 (.agg #[x, y]) 1).run Tryz.prog w = .ok y w := field_groups x y

set_option maxRecDepth 100000 in
set_option maxHeartbeats 400000 in
theorem rneg_any (neg : Bool) (xs : List Nat) (V : Value) (w : World) (h : IntArg w V neg xs) (hm : xs.length ≤ 1000000) :
    Calls Tryz.prog 119 #[V] w fun e w' => ∃ V, e = .returned V ∧ IntRep w' V (-cnt neg xs) ∧ Keeps w w' := by
  obtain ⟨v, rfl, hv⟩ := h
  have hml := mag_length neg xs
  rw [← cnt_abs] at hml
  have hkk := keep2 w (.cells #[.bool neg, v] 27) (.cells #[.bool false, .slice none 0 0] 27)
  have hB := (Own.new w 27 [.bool neg, v]).alloc (.cells #[.bool false, .slice none 0 0] 27)
  have hR := own2 w (.cells #[.bool neg, v] 27) 27 [.bool false, .slice none 0 0]
  have hG := Lib.hid (rvalue_any neg xs (.agg #[.bool neg, v]) _ ⟨v, rfl, hv.below hkk⟩ hm)
  generalize cnt neg xs = z at hG hml ⊢
  go_enter Tryz.func119, Tryz.ntmps119
  go_wp2_with fail
  refine hG.out.mono ?_
  rintro e w1 ⟨V3, rfl, hr3, hk1⟩
  obtain ⟨A3, n3, c3, rfl, hv3⟩ := hr3.open_
  have hB1 := hB.below hk1
  have hR1 := hR.below hk1
  have r0 := hB1.c0
  have r1 := hB1.c1
  have f0 := hB1.frozen 0
  have f1 := hB1.frozen 1
  have hk := hkk.trans' hk1
  have hB2 := hB1.two (.bool (decide (z < 0))) (.slice A3 n3 c3)
  have hR2 := hR1.far2 (R := w.heap.size) (by omega) (x := .bool (decide (z < 0))) (y := .slice A3 n3 c3)
  have s0 := hB2.c0
  have s1 := hB2.c1
  have hkm := ((hk.set (p := ⟨w.heap.size, 0, none⟩) (by simp) (.bool (decide (z < 0)))).set (p := ⟨w.heap.size, 1, none⟩) (by simp) (.slice A3 n3 c3))
  have hv4 : U32 ((w1.setCell ⟨w.heap.size, 0, none⟩ (.bool (decide (z < 0)))).setCell ⟨w.heap.size, 1, none⟩ (.slice A3 n3 c3)) (.slice A3 n3 c3) (dig z.natAbs) := by
    obtain ⟨v', e', h'⟩ := hr3.two (R := w.heap.size) (x' := .bool (decide (z < 0))) (y' := .slice A3 n3 c3) hB1 rfl (by obtain ⟨A', n', c', rfl, -⟩ := hv.open_; rfl) rfl
    cases e'
    exact h'
  go_wp2_with fail
  refine (rmade_d (!(decide (z < 0))) _ _ _ hv4 (by omega)).mono ?_
  rintro e w5 ⟨V5, rfl, hr5, hk5⟩
  obtain ⟨A5, n5, c5, rfl, hv5⟩ := hr5.open_
  have hR5 := hR2.below hk5
  have hk6 := Keeps.trans' hkm hk5
  have t0 := hR5.c0
  have t1 := hR5.c1
  have g0 := hR5.frozen 0
  have g1 := hR5.frozen 1
  obtain ⟨y, hy⟩ : ∃ y, sgn (!decide (z < 0)) z.natAbs = y := ⟨_, rfl⟩
  rw [hy] at hr5 hv5
  simp only [hy]
  have HY := Lib.hid hy
  clear hy
  go_wp2
  have hR6 := hR5.two (.bool (decide (y < 0))) (.slice A5 n5 c5)
  refine bodyPost_ret (v := .agg #[.bool (decide (y < 0)), .slice A5 n5 c5]) (by simp [results, Tryz.results119, go_sem, hR6.c0, hR6.c1]) rfl ?_
  refine ⟨_, rfl, ?_, (hk6.set (by simp) _).set (by simp) _⟩
  rw [show -z = y by rw [← HY.out, sgn_neg, sgn_of_rep]]
  exact hr5.two hR5 rfl rfl rfl

end Go.Proofs.YtomjnjpehokjbaaGreatDoor

namespace Go.Proofs.YtomjnjpehokjbaaGreatDoor
open Go.RowKit Go.Shelf

/-- behind 'x, y = Value(x), Value(y)': the three blocks of a function of two integers -/
def TwoRes (w wx : World) (t : TypeId) (z1 z2 : Int) : Prop := ∃ A1 m1 c1 A2 m2 c2, Own wx w.heap.size t [.bool (decide (z1 < 0)), .slice A1 m1 c1] ∧ Own wx (w.heap.size + 1) t [.bool (decide (z2 < 0)), .slice A2 m2 c2] ∧
  Own wx (w.heap.size + 1 + 1) t [.bool false, .slice none 0 0] ∧ U32 wx (.slice A1 m1 c1) (dig z1.natAbs) ∧ U32 wx (.slice A2 m2 c2) (dig z2.natAbs) ∧ Keeps w wx
theorem U32.two {w : World} {R : Nat} {t : TypeId} {v x y x' y' : Value} {xs : List Nat} (h : U32 w v xs) (hR : Own w R t [x, y]) (hx : noU32 x = true) (hy : noU32 y = true) (hx' : noU32 x' = true) :
    U32 ((w.setCell ⟨R, 0, none⟩ x').setCell ⟨R, 1, none⟩ y') v xs :=
  (h.put hR (by simp [hx, hy]) 0 x').put (hR.set 0 x') (by simp [hx', hy]) 1 y'
theorem U32.noU {w : World} {v : Value} {xs : List Nat} (h : U32 w v xs) : noU32 v = true := by obtain ⟨A, c, rfl, -⟩ := h; rfl
theorem TwoRes.of {w w2 : World} {t : TypeId} {z1 z2 : Int} {A1 A2 : Option Addr} {m1 c1 m2 c2 : Nat} {x y x' y' : Value}
    (hA : Own w2 w.heap.size t [x, y]) (hB : Own w2 (w.heap.size + 1) t [x', y']) (hR : Own w2 (w.heap.size + 1 + 1) t [.bool false, .slice none 0 0])
    (h1 : U32 w2 (.slice A1 m1 c1) (dig z1.natAbs)) (h2 : U32 w2 (.slice A2 m2 c2) (dig z2.natAbs)) (hk : Keeps w w2) (hx : noU32 x = true) (hy : noU32 y = true) (hx' : noU32 x' = true) (hy' : noU32 y' = true) :
    TwoRes w ((((w2.setCell ⟨w.heap.size, 0, none⟩ (.bool (decide (z1 < 0)))).setCell ⟨w.heap.size, 1, none⟩ (.slice A1 m1 c1)).setCell ⟨w.heap.size + 1, 0, none⟩ (.bool (decide (z2 < 0)))).setCell ⟨w.heap.size + 1, 1, none⟩ (.slice A2 m2 c2)) t z1 z2 := by
  have hA1 := hA.two (.bool (decide (z1 < 0))) (.slice A1 m1 c1)
  have hB1 := hB.far2 (R := w.heap.size) (by omega) (x := .bool (decide (z1 < 0))) (y := .slice A1 m1 c1)
  have hR1 := hR.far2 (R := w.heap.size) (by omega) (x := .bool (decide (z1 < 0))) (y := .slice A1 m1 c1)
  have g1 := h1.two (x' := .bool (decide (z1 < 0))) (y' := .slice A1 m1 c1) hA hx hy rfl
  have g2 := h2.two (x' := .bool (decide (z1 < 0))) (y' := .slice A1 m1 c1) hA hx hy rfl
  exact ⟨A1, m1, c1, A2, m2, c2, hA1.far2 (by omega), hB1.two _ _, hR1.far2 (by omega), g1.two hB1 hx' hy' rfl, g2.two hB1 hx' hy' rfl,
    (((hk.set (Nat.le_refl _) _).set (Nat.le_refl _) _).set (by simp) _).set (by simp) _⟩

set_option maxRecDepth 100000 in
set_option maxHeartbeats 1000000 in
theorem radd_any (n1 n2 : Bool) (xs ys : List Nat) (V1 V2 : Value) (w : World) (h1 : IntArg w V1 n1 xs) (h2 : IntArg w V2 n2 ys) (hm1 : xs.length ≤ 1000000) (hm2 : ys.length ≤ 1000000) :
    Calls Tryz.prog 118 #[V1, V2] w fun e w' => ∃ V, e = .returned V ∧ IntRep w' V (cnt n1 xs + cnt n2 ys) ∧ Keeps w w' := by
  obtain ⟨v1, rfl, hv1⟩ := h1
  obtain ⟨v2, rfl, hv2⟩ := h2
  have hml1 := mag_length n1 xs
  have hml2 := mag_length n2 ys
  have hkk := keep3 w (.cells #[.bool n1, v1] 27) (.cells #[.bool n2, v2] 27) (.cells #[.bool false, .slice none 0 0] 27)
  have hG1 := Lib.hid (fun W (hW : IntArg W (.agg #[.bool n1, v1]) n1 xs) => rvalue_any n1 xs (.agg #[.bool n1, v1]) W hW hm1)
  have hG2 := Lib.hid (fun W (hW : IntArg W (.agg #[.bool n2, v2]) n2 ys) => rvalue_any n2 ys (.agg #[.bool n2, v2]) W hW hm2)
  have hR := own3 w (.cells #[.bool n1, v1] 27) (.cells #[.bool n2, v2] 27) 27 [.bool false, .slice none 0 0]
  have hB := (own2 w (.cells #[.bool n1, v1] 27) 27 [.bool n2, v2]).alloc (.cells #[.bool false, .slice none 0 0] 27)
  have hA := ((Own.new w 27 [.bool n1, v1]).alloc (.cells #[.bool n2, v2] 27)).alloc (.cells #[.bool false, .slice none 0 0] 27)
  go_enter Tryz.func118, Tryz.ntmps118
  go_upto_region 1 with fail
  have g1 := hv1.below hkk
  have g2 := hv2.below hkk
  generalize ((w.alloc (.cells #[.bool n1, v1] 27)).alloc (.cells #[.bool n2, v2] 27)).alloc (.cells #[.bool false, .slice none 0 0] 27) = W at *
  have a0 := hA.c0
  have a1 := hA.c1
  have b0 := hB.c0
  have b1 := hB.c1
  go_cut [] (fun wx => TwoRes w wx 27 (cnt n1 xs) (cnt n2 ys))
  case first =>
    go_region_with (first
      | (go_at_call_of 72 (Value.agg #[Value.bool n1, v1]); refine (hG1.out W.drew ⟨v1, rfl, g1⟩).mono ?_; rintro e w1 ⟨U1, rfl, hr1, hk1⟩; obtain ⟨A1, m1, c1, rfl, hu1⟩ := hr1.open_; have hA1 := hA.drew.below hk1; have hB1 := hB.drew.below hk1; have a10 := hA1.c0; have a11 := hA1.c1; have b10 := hB1.c0; have b11 := hB1.c1)
      | (go_at_call_of 72 (Value.agg #[Value.bool n2, v2]); refine (hG2.out w1 ⟨v2, rfl, U32.below (w := W.drew) g2 hk1⟩).mono ?_; rintro e w2 ⟨U2, rfl, hr2, hk2⟩; obtain ⟨A2, m2, c2, rfl, hu2⟩ := hr2.open_; have hA2 := hA1.below hk2; have hB2 := hB1.below hk2; have hR2 := (hR.drew.below hk1).below hk2; have hk3 := (Keeps.trans' (Below.drew hkk) hk1).trans' hk2; have a20 := hA2.c0; have a21 := hA2.c1; have b20 := hB2.c0; have b21 := hB2.c1; have af0 := hA2.frozen 0; have af1 := hA2.frozen 1; have bf0 := hB2.frozen 0; have bf1 := hB2.frozen 1))
    all_goals (go_wp2_with fail; go_meet; exact TwoRes.of hA2 hB2 hR2 (hu1.below hk2) hu2 hk3 rfl hv1.noU rfl hv2.noU)
  case rest =>
    clear hG1 hG2 a0 a1 b0 b1 hA hB hR hkk
    obtain ⟨A1, m1, c1, A2, m2, c2, hA, hB, hR, hu1, hu2, hk⟩ := hcut
    have hl1 : (dig (cnt n1 xs).natAbs).length ≤ 1000000 := by rw [cnt_abs]; omega
    have hl2 : (dig (cnt n2 ys).natAbs).length ≤ 1000000 := by rw [cnt_abs]; omega
    obtain ⟨z1, hz1⟩ : ∃ z, cnt n1 xs = z := ⟨_, rfl⟩
    obtain ⟨z2, hz2⟩ : ∃ z, cnt n2 ys = z := ⟨_, rfl⟩
    rw [hz1] at hA hu1 hl1
    rw [hz2] at hB hu2 hl2
    have HZ1 := Lib.hid hz1
    have HZ2 := Lib.hid hz2
    clear hz1 hz2
    -- RADD-REST
    have hs1 := sgn_of_rep z1
    have hs2 := sgn_of_rep z2
    generalize decide (z1 < 0) = b1 at *
    generalize decide (z2 < 0) = b2 at *
    generalize z1.natAbs = a at *
    generalize z2.natAbs = b at *
    have HS1 := Lib.hid hs1
    have HS2 := Lib.hid hs2
    clear hs1 hs2 hml1 hml2 g1 g2 hv1 hv2 hm1 hm2
    have p0 := hA.c0
    have p1 := hA.c1
    have q0 := hB.c0
    have q1 := hB.c1
    have hla := dig_length_add a b
    have hls1 := dig_length_mono (show a - b ≤ a by omega)
    have hls2 := dig_length_mono (show b - a ≤ b by omega)
    by_cases hn : b1 = b2
    · have hb : (b1 == b2) = true := by simpa using hn
      have HN := Lib.hid hn
      clear hn
      go_wp2_with fail
      go_region_held3 (fun w' => w'.cell? ⟨w.heap.size, 0, none⟩ = some (.bool b1) ∧ w'.cell? ⟨w.heap.size, 1, none⟩ = some (.slice A1 m1 c1) ∧ w'.cell? ⟨w.heap.size + 1, 0, none⟩ = some (.bool b2) ∧ w'.cell? ⟨w.heap.size + 1, 1, none⟩ = some (.slice A2 m2 c2))
        (first | exact ⟨p0, p1, q0, q1⟩ | exact ⟨hA1.c0, hA1.c1, hB1.c0, hB1.c1⟩ | exact ⟨hA2.c0, hA2.c1, hB2.c0, hB2.c1⟩ | exact ⟨(hA2.far2 (by omega)).c0, (hA2.far2 (by omega)).c1, (hB2.far2 (by omega)).c0, (hB2.far2 (by omega)).c1⟩)
        (first
          | (go_at_call 140; refine (rplus_d _ _ a b wc.drew hu1 hu2 hl1 hl2).mono ?_; rintro e w1 ⟨v1, rfl, hv1, hk1⟩; have hA1 := hA.drew.below hk1; have hB1 := hB.drew.below hk1)
          | (go_at_call 74; refine (rmade_d b1 v1 _ _ hv1 (by omega)).mono ?_; rintro e w2 ⟨V3, rfl, hr3, hk2⟩; obtain ⟨A3, n3, c3, rfl, hv3⟩ := hr3.open_; have hA2 := hA1.below hk2; have hB2 := hB1.below hk2; have hR3 := (hR.drew.below hk1).below hk2; have hkR := (Keeps.trans' (Below.drew hk) hk1).trans' hk2; have r0 := hR3.c0; have r1 := hR3.c1; have f0 := hR3.frozen 0; have f1 := hR3.frozen 1))
      obtain ⟨z, hz⟩ : ∃ z, sgn b1 (a + b) = z := ⟨_, rfl⟩
      rw [hz] at hr3 hv3
      simp only [hz]
      have HZ := Lib.hid hz
      clear hz
      go_wp2
      have hR4 := hR3.two (.bool (decide (z < 0))) (.slice A3 n3 c3)
      refine bodyPost_ret (v := .agg #[.bool (decide (z < 0)), .slice A3 n3 c3]) (by simp [results, Tryz.results118, go_sem, hR4.c0, hR4.c1]) rfl ?_
      refine ⟨_, rfl, ?_, (hkR.set (by simp; omega) _).set (by simp; omega) _⟩
      rw [show cnt n1 xs + cnt n2 ys = z by rw [HZ1.out, HZ2.out]; rw [← HZ.out, ← HS1.out, ← HS2.out, ← HN.out]; cases b1 <;> simp [sgn]; omega]
      exact hr3.two hR3 rfl rfl rfl
    · have hb : (b1 == b2) = false := by simpa using hn
      have HN := Lib.hid hn
      clear hn
      by_cases hab : b ≤ a
      · have hs : decide (0 ≤ ((a : Int) - b).sign) = true := decide_eq_true (by
          rcases Nat.eq_or_lt_of_le hab with h | h
          · subst h; simp
          · rw [Int.sign_eq_one_of_pos (by omega)]; omega)
        have HAB := Lib.hid hab
        clear hab
        go_wp2_with fail
        refine (size_any _ _ a b _ hu1 hu2 hl1 hl2).mono ?_
        rintro e w0 ⟨rfl, hk0⟩
        have hA0 := hA.below hk0
        have hB0 := hB.below hk0
        have hR0 := hR.below hk0
        have hkk0 := hk.trans' hk0
        have hu1' := hu1.below hk0
        have hu2' := hu2.below hk0
        clear p0 p1 q0 q1
        have p0 := hA0.c0
        have p1 := hA0.c1
        have q0 := hB0.c0
        have q1 := hB0.c1
        go_wp2_with fail
        go_region_held3 (fun w' => w'.cell? ⟨w.heap.size, 0, none⟩ = some (.bool b1) ∧ w'.cell? ⟨w.heap.size, 1, none⟩ = some (.slice A1 m1 c1) ∧ w'.cell? ⟨w.heap.size + 1, 0, none⟩ = some (.bool b2) ∧ w'.cell? ⟨w.heap.size + 1, 1, none⟩ = some (.slice A2 m2 c2))
          (first | exact ⟨p0, p1, q0, q1⟩ | exact ⟨hA1.c0, hA1.c1, hB1.c0, hB1.c1⟩ | exact ⟨hA2.c0, hA2.c1, hB2.c0, hB2.c1⟩ | exact ⟨(hA2.far2 (by omega)).c0, (hA2.far2 (by omega)).c1, (hB2.far2 (by omega)).c0, (hB2.far2 (by omega)).c1⟩)
          (first
            | (go_at_call 129; refine (rminus_d _ _ a b w0.drew hu1' hu2' hl1 HAB.out).mono ?_; rintro e w1 ⟨v1, rfl, hv1, hk1⟩; have hA1 := hA0.drew.below hk1; have hB1 := hB0.drew.below hk1)
            | (go_at_call 74; refine (rmade_d b1 v1 _ _ hv1 (by omega)).mono ?_; rintro e w2 ⟨V3, rfl, hr3, hk2⟩; obtain ⟨A3, n3, c3, rfl, hv3⟩ := hr3.open_; have hA2 := hA1.below hk2; have hB2 := hB1.below hk2; have hR3 := (hR0.drew.below hk1).below hk2; have hkR := (Keeps.trans' (Below.drew hkk0) hk1).trans' hk2; have r0 := hR3.c0; have r1 := hR3.c1; have f0 := hR3.frozen 0; have f1 := hR3.frozen 1))
        obtain ⟨z, hz⟩ : ∃ z, sgn b1 (a - b) = z := ⟨_, rfl⟩
        rw [hz] at hr3 hv3
        simp only [hz]
        have HZ := Lib.hid hz
        clear hz
        go_wp2
        have hR4 := hR3.two (.bool (decide (z < 0))) (.slice A3 n3 c3)
        refine bodyPost_ret (v := .agg #[.bool (decide (z < 0)), .slice A3 n3 c3]) (by simp [results, Tryz.results118, go_sem, hR4.c0, hR4.c1]) rfl ?_
        refine ⟨_, rfl, ?_, (hkR.set (by simp; omega) _).set (by simp; omega) _⟩
        rw [show cnt n1 xs + cnt n2 ys = z by rw [HZ1.out, HZ2.out]; rw [← HZ.out, ← HS1.out, ← HS2.out]; have h1 := HN.out; have h2 := HAB.out; cases b1 <;> cases b2 <;> simp [sgn] at h1 ⊢ <;> omega]
        exact hr3.two hR3 rfl rfl rfl
      · have hs : decide (0 ≤ ((a : Int) - b).sign) = false := decide_eq_false (by
          rw [Int.sign_eq_neg_one_of_neg (by omega)]; omega)
        have HAB := Lib.hid hab
        clear hab
        go_wp2_with fail
        refine (size_any _ _ a b _ hu1 hu2 hl1 hl2).mono ?_
        rintro e w0 ⟨rfl, hk0⟩
        have hA0 := hA.below hk0
        have hB0 := hB.below hk0
        have hR0 := hR.below hk0
        have hkk0 := hk.trans' hk0
        have hu1' := hu1.below hk0
        have hu2' := hu2.below hk0
        clear p0 p1 q0 q1
        have p0 := hA0.c0
        have p1 := hA0.c1
        have q0 := hB0.c0
        have q1 := hB0.c1
        go_wp2_with fail
        go_region_held3 (fun w' => w'.cell? ⟨w.heap.size, 0, none⟩ = some (.bool b1) ∧ w'.cell? ⟨w.heap.size, 1, none⟩ = some (.slice A1 m1 c1) ∧ w'.cell? ⟨w.heap.size + 1, 0, none⟩ = some (.bool b2) ∧ w'.cell? ⟨w.heap.size + 1, 1, none⟩ = some (.slice A2 m2 c2))
          (first | exact ⟨p0, p1, q0, q1⟩ | exact ⟨hA1.c0, hA1.c1, hB1.c0, hB1.c1⟩ | exact ⟨hA2.c0, hA2.c1, hB2.c0, hB2.c1⟩ | exact ⟨(hA2.far2 (by omega)).c0, (hA2.far2 (by omega)).c1, (hB2.far2 (by omega)).c0, (hB2.far2 (by omega)).c1⟩)
          (first
            | (go_at_call 129; refine (rminus_d _ _ b a w0.drew hu2' hu1' hl2 (by have := HAB.out; omega)).mono ?_; rintro e w1 ⟨v1, rfl, hv1, hk1⟩; have hA1 := hA0.drew.below hk1; have hB1 := hB0.drew.below hk1)
            | (go_at_call 74; refine (rmade_d b2 v1 _ _ hv1 (by omega)).mono ?_; rintro e w2 ⟨V3, rfl, hr3, hk2⟩; obtain ⟨A3, n3, c3, rfl, hv3⟩ := hr3.open_; have hA2 := hA1.below hk2; have hB2 := hB1.below hk2; have hR3 := (hR0.drew.below hk1).below hk2; have hkR := (Keeps.trans' (Below.drew hkk0) hk1).trans' hk2; have r0 := hR3.c0; have r1 := hR3.c1; have f0 := hR3.frozen 0; have f1 := hR3.frozen 1))
        obtain ⟨z, hz⟩ : ∃ z, sgn b2 (b - a) = z := ⟨_, rfl⟩
        rw [hz] at hr3 hv3
        simp only [hz]
        have HZ := Lib.hid hz
        clear hz
        go_wp2
        have hR4 := hR3.two (.bool (decide (z < 0))) (.slice A3 n3 c3)
        refine bodyPost_ret (v := .agg #[.bool (decide (z < 0)), .slice A3 n3 c3]) (by simp [results, Tryz.results118, go_sem, hR4.c0, hR4.c1]) rfl ?_
        refine ⟨_, rfl, ?_, (hkR.set (by simp; omega) _).set (by simp; omega) _⟩
        rw [show cnt n1 xs + cnt n2 ys = z by rw [HZ1.out, HZ2.out]; rw [← HZ.out, ← HS1.out, ← HS2.out]; have h1 := HN.out; have h2 := HAB.out; cases b1 <;> cases b2 <;> simp [sgn] at h1 ⊢ <;> omega]
        exact hr3.two hR3 rfl rfl rfl
end Go.Proofs.YtomjnjpehokjbaaGreatDoor

namespace Go.Proofs.YtomjnjpehokjbaaGreatDoor
open Go.RowKit Go.Shelf

set_option maxRecDepth 100000 in
set_option maxHeartbeats 1000000 in
theorem rsub_any (n1 n2 : Bool) (xs ys : List Nat) (V1 V2 : Value) (w : World) (h1 : IntArg w V1 n1 xs) (h2 : IntArg w V2 n2 ys) (hm1 : xs.length ≤ 1000000) (hm2 : ys.length ≤ 1000000) :
    Calls Tryz.prog 98 #[V1, V2] w fun e w' => ∃ V, e = .returned V ∧ IntRep w' V (cnt n1 xs - cnt n2 ys) ∧ Keeps w w' := by
  obtain ⟨v1, rfl, hv1⟩ := h1
  obtain ⟨v2, rfl, hv2⟩ := h2
  have hml2 := mag_length n2 ys
  have hkk := keep3 w (.cells #[.bool n1, v1] 27) (.cells #[.bool n2, v2] 27) (.cells #[.bool false, .slice none 0 0] 27)
  have hG2 := Lib.hid (fun W (hW : IntArg W (.agg #[.bool n2, v2]) n2 ys) => rneg_any n2 ys (.agg #[.bool n2, v2]) W hW hm2)
  have hR := own3 w (.cells #[.bool n1, v1] 27) (.cells #[.bool n2, v2] 27) 27 [.bool false, .slice none 0 0]
  have hB := (own2 w (.cells #[.bool n1, v1] 27) 27 [.bool n2, v2]).alloc (.cells #[.bool false, .slice none 0 0] 27)
  have hA := ((Own.new w 27 [.bool n1, v1]).alloc (.cells #[.bool n2, v2] 27)).alloc (.cells #[.bool false, .slice none 0 0] 27)
  go_enter Tryz.func98, Tryz.ntmps98
  go_wp2_with fail
  have g1 := hv1.below hkk
  have g2 := hv2.below hkk
  generalize ((w.alloc (.cells #[.bool n1, v1] 27)).alloc (.cells #[.bool n2, v2] 27)).alloc (.cells #[.bool false, .slice none 0 0] 27) = W at *
  have a0 := hA.c0
  have a1 := hA.c1
  have b0 := hB.c0
  have b1 := hB.c1
  go_region_held3 (fun w' => w'.cell? ⟨w.heap.size, 0, none⟩ = some (.bool n1) ∧ w'.cell? ⟨w.heap.size, 1, none⟩ = some v1 ∧ w'.cell? ⟨w.heap.size + 1, 0, none⟩ = some (.bool n2) ∧ w'.cell? ⟨w.heap.size + 1, 1, none⟩ = some v2)
    (first | exact ⟨a0, a1, b0, b1⟩ | exact ⟨hA1.c0, hA1.c1, hB1.c0, hB1.c1⟩ | exact ⟨hA3.c0, hA3.c1, hB3.c0, hB3.c1⟩ | exact ⟨(hA3.far2 (by omega)).c0, (hA3.far2 (by omega)).c1, (hB3.far2 (by omega)).c0, (hB3.far2 (by omega)).c1⟩)
    (first
      | (go_at_call 119; refine (hG2.out W.drew ⟨v2, rfl, g2⟩).mono ?_; rintro e w1 ⟨U1, rfl, hr1, hk1⟩; have hA1 := hA.drew.below hk1; have hB1 := hB.drew.below hk1)
      | (go_at_call 118; refine (radd_any n1 _ xs _ _ U1 w1 ⟨v1, rfl, U32.below (w := W.drew) g1 hk1⟩ hr1.arg hm1 (by rw [Int.natAbs_neg, cnt_abs]; omega)).mono ?_; rintro e w3 ⟨V3, rfl, hr3, hk3⟩; rw [cnt_rep] at hr3; obtain ⟨A3, n3, c3, rfl, hv3⟩ := hr3.open_; have hA3 := hA1.below hk3; have hB3 := hB1.below hk3; have hR3 := (hR.drew.below hk1).below hk3; have hkR := (Keeps.trans' (Below.drew hkk) hk1).trans' hk3; have r0 := hR3.c0; have r1 := hR3.c1; have f0 := hR3.frozen 0; have f1 := hR3.frozen 1))
  obtain ⟨z, hz⟩ : ∃ z, cnt n1 xs + -cnt n2 ys = z := ⟨_, rfl⟩
  rw [hz] at hr3 hv3
  simp only [hz]
  have HZ := Lib.hid hz
  clear hz
  go_wp2
  have hR4 := hR3.two (.bool (decide (z < 0))) (.slice A3 n3 c3)
  refine bodyPost_ret (v := .agg #[.bool (decide (z < 0)), .slice A3 n3 c3]) (by simp [results, Tryz.results98, go_sem, hR4.c0, hR4.c1]) rfl ?_
  refine ⟨_, rfl, ?_, (hkR.set (by simp; omega) _).set (by simp; omega) _⟩
  rw [show cnt n1 xs - cnt n2 ys = z by rw [← HZ.out]; omega]
  exact hr3.two hR3 rfl rfl rfl

theorem rep_sub_length (a b : Int) : (dig (a - b).natAbs).length ≤ max (dig a.natAbs).length (dig b.natAbs).length + 1 := by
  have h1 := dig_length_add a.natAbs b.natAbs
  have h2 := dig_length_mono (show (a - b).natAbs ≤ a.natAbs + b.natAbs by omega)
  omega
theorem rep_add_length (a b : Int) : (dig (a + b).natAbs).length ≤ max (dig a.natAbs).length (dig b.natAbs).length + 1 := by
  have h1 := dig_length_add a.natAbs b.natAbs
  have h2 := dig_length_mono (show (a + b).natAbs ≤ a.natAbs + b.natAbs by omega)
  omega
theorem cnt_length (neg : Bool) (xs : List Nat) : (dig (cnt neg xs).natAbs).length ≤ xs.length := by rw [cnt_abs]; exact mag_length neg xs

set_option maxRecDepth 100000 in
set_option maxHeartbeats 400000 in
theorem rcompare_any (n1 n2 : Bool) (xs ys : List Nat) (V1 V2 : Value) (w : World) (h1 : IntArg w V1 n1 xs) (h2 : IntArg w V2 n2 ys) (hm1 : xs.length ≤ 900000) (hm2 : ys.length ≤ 900000) :
    Calls Tryz.prog 73 #[V1, V2] w fun e w' => e = .returned (.int .i64 (cnt n1 xs - cnt n2 ys).sign) ∧ Keeps w w' := by
  obtain ⟨v1, rfl, hv1⟩ := h1
  obtain ⟨v2, rfl, hv2⟩ := h2
  have hl := rep_sub_length (cnt n1 xs) (cnt n2 ys)
  have hl1 := cnt_length n1 xs
  have hl2 := cnt_length n2 ys
  have hkk := keep2 w (.cells #[.bool n1, v1] 27) (.cells #[.bool n2, v2] 27)
  have hG := Lib.hid (rsub_any n1 n2 xs ys (.agg #[.bool n1, v1]) (.agg #[.bool n2, v2]) _ ⟨v1, rfl, hv1.below hkk⟩ ⟨v2, rfl, hv2.below hkk⟩ (by omega) (by omega))
  go_enter Tryz.func73, Tryz.ntmps73
  go_wp2_with fail
  refine hG.out.mono ?_
  rintro e w1 ⟨V3, rfl, hr3, hk1⟩
  go_wp2_with fail
  refine (rsign_any _ _ _ _ hr3.arg (by omega)).mono ?_
  rintro e w2 ⟨rfl, hk2⟩
  rw [cnt_rep]
  go_wp2
  go_ret
  exact ⟨rfl, (hkk.trans' hk1).trans' hk2⟩

theorem sign_cases (x : Int) : (x < 0 ∧ x.sign = -1) ∨ (x = 0 ∧ x.sign = 0) ∨ (0 < x ∧ x.sign = 1) := by
  rcases Int.lt_trichotomy x 0 with h | h | h
  · exact .inl ⟨h, Int.sign_eq_neg_one_of_neg h⟩
  · exact .inr (.inl ⟨h, by rw [h]; rfl⟩)
  · exact .inr (.inr ⟨h, Int.sign_eq_one_of_pos h⟩)
theorem cmp_diff (x y : Int) (h : x.sign ≠ y.sign) : (x.sign - y.sign).sign = (x - y).sign := by
  rcases sign_cases x with ⟨h1, e1⟩ | ⟨h1, e1⟩ | ⟨h1, e1⟩ <;> rcases sign_cases y with ⟨h2, e2⟩ | ⟨h2, e2⟩ | ⟨h2, e2⟩ <;> rcases sign_cases (x - y) with ⟨h3, e3⟩ | ⟨h3, e3⟩ | ⟨h3, e3⟩ <;>
    rw [e1, e2] at h <;> rw [e1, e2, e3] <;> first | rfl | (exfalso; omega)
theorem cmp_same (n1 n2 : Bool) (a b : Nat) (h : (sgn n1 a).sign = (sgn n2 b).sign) : (sgn n1 a - sgn n2 b).sign = if n1 then -((a : Int) - b).sign else ((a : Int) - b).sign := by
  rcases sign_cases (sgn n1 a) with ⟨h1, e1⟩ | ⟨h1, e1⟩ | ⟨h1, e1⟩ <;> rcases sign_cases (sgn n2 b) with ⟨h2, e2⟩ | ⟨h2, e2⟩ | ⟨h2, e2⟩ <;>
    rw [e1, e2] at h <;> (try (exfalso; omega)) <;> cases n1 <;> cases n2 <;> simp [sgn] at h1 h2 ⊢ <;>
    first
    | omega
    | (rw [show (-(a : Int) + (b : Int)) = -((a : Int) - b) by omega, Int.sign_neg])
    | (subst h1; subst h2; rfl)
    | skip
theorem sign_bd (x : Int) : -1 ≤ x.sign ∧ x.sign ≤ 1 := by
  rcases sign_cases x with ⟨-, e⟩ | ⟨-, e⟩ | ⟨-, e⟩ <;> rw [e] <;> omega

set_option maxRecDepth 100000 in
set_option maxHeartbeats 400000 in
theorem compareI_any (n1 n2 : Bool) (xs ys : List Nat) (V1 V2 : Value) (w : World) (h1 : IntArg w V1 n1 xs) (h2 : IntArg w V2 n2 ys) (hm1 : xs.length ≤ 1000000) (hm2 : ys.length ≤ 1000000) :
    Calls Tryz.prog 78 #[V1, V2] w fun e w' => e = .returned (.int .i64 (cnt n1 xs - cnt n2 ys).sign) ∧ Keeps w w' := by
  obtain ⟨v1, rfl, hv1⟩ := h1
  obtain ⟨v2, rfl, hv2⟩ := h2
  have hkk := keep2 w (.cells #[.bool n1, v1] 27) (.cells #[.bool n2, v2] 27)
  have hA := (Own.new w 27 [.bool n1, v1]).alloc (.cells #[.bool n2, v2] 27)
  have hB := own2 w (.cells #[.bool n1, v1] 27) 27 [.bool n2, v2]
  have hS1 := Lib.hid (fun W (hW : IntArg W (.agg #[.bool n1, v1]) n1 xs) => sign_any n1 xs (.agg #[.bool n1, v1]) W hW hm1)
  have hS2 := Lib.hid (fun W (hW : IntArg W (.agg #[.bool n2, v2]) n2 ys) => sign_any n2 ys (.agg #[.bool n2, v2]) W hW hm2)
  have hG1 := Lib.hid (fun W (hW : IntArg W (.agg #[.bool n1, v1]) n1 xs) => groups_any n1 xs (.agg #[.bool n1, v1]) W hW hm1)
  have hG2 := Lib.hid (fun W (hW : IntArg W (.agg #[.bool n2, v2]) n2 ys) => groups_any n2 ys (.agg #[.bool n2, v2]) W hW hm2)
  go_enter Tryz.func78, Tryz.ntmps78
  go_wp2_with fail
  have g1 := hv1.below hkk
  have g2 := hv2.below hkk
  generalize (w.alloc (.cells #[.bool n1, v1] 27)).alloc (.cells #[.bool n2, v2] 27) = W at *
  have a0 := hA.c0
  have a1 := hA.c1
  have b0 := hB.c0
  have b1 := hB.c1
  go_region_held3 (fun w' => w'.cell? ⟨w.heap.size, 0, none⟩ = some (.bool n1) ∧ w'.cell? ⟨w.heap.size, 1, none⟩ = some v1 ∧ w'.cell? ⟨w.heap.size + 1, 0, none⟩ = some (.bool n2) ∧ w'.cell? ⟨w.heap.size + 1, 1, none⟩ = some v2)
    (first | exact ⟨a0, a1, b0, b1⟩ | exact ⟨hA1.c0, hA1.c1, hB1.c0, hB1.c1⟩ | exact ⟨hA2.c0, hA2.c1, hB2.c0, hB2.c1⟩)
    (first
      | (go_at_call_of 77 (Value.agg #[Value.bool n1, v1]); refine (hS1.out W.drew ⟨v1, rfl, g1⟩).mono ?_; rintro e w1 ⟨rfl, hk1⟩; have hA1 := hA.drew.below hk1; have hB1 := hB.drew.below hk1)
      | (go_at_call_of 77 (Value.agg #[Value.bool n2, v2]); refine (hS2.out w1 ⟨v2, rfl, U32.below (w := W.drew) g2 hk1⟩).mono ?_; rintro e w2 ⟨rfl, hk2⟩; have hA2 := hA1.below hk2; have hB2 := hB1.below hk2))
  have hk12 := (Keeps.trans' (Below.drew hkk) hk1).trans' hk2
  have g1' : U32 w2 v1 xs := (U32.below (w := W.drew) g1 hk1).below hk2
  have g2' : U32 w2 v2 ys := (U32.below (w := W.drew) g2 hk1).below hk2
  have hm1' := mag_length n1 xs
  have hm2' := mag_length n2 ys
  by_cases hne : (cnt n1 xs).sign = (cnt n2 ys).sign
  · have hb : ((cnt n1 xs).sign != (cnt n2 ys).sign) = false := by simp [hne]
    have HN := Lib.hid hne
    clear hne
    go_wp2_with fail
    have a20 := hA2.c0
    have a21 := hA2.c1
    have b20 := hB2.c0
    have b21 := hB2.c1
    go_region_held3 (fun w' => w'.cell? ⟨w.heap.size, 0, none⟩ = some (.bool n1) ∧ w'.cell? ⟨w.heap.size, 1, none⟩ = some v1 ∧ w'.cell? ⟨w.heap.size + 1, 0, none⟩ = some (.bool n2) ∧ w'.cell? ⟨w.heap.size + 1, 1, none⟩ = some v2)
      (first | exact ⟨a20, a21, b20, b21⟩ | exact ⟨hA3.c0, hA3.c1, hB3.c0, hB3.c1⟩ | exact ⟨hA4.c0, hA4.c1, hB4.c0, hB4.c1⟩ | exact ⟨hA5.c0, hA5.c1, hB5.c0, hB5.c1⟩)
      (first
        | (go_at_call_of 68 (Value.agg #[Value.bool n1, v1]); refine (hG1.out w2.drew ⟨v1, rfl, g1'⟩).mono ?_; rintro e w3 ⟨u1, rfl, hu1, hk3⟩; have hA3 := hA2.drew.below hk3; have hB3 := hB2.drew.below hk3)
        | (go_at_call_of 68 (Value.agg #[Value.bool n2, v2]); refine (hG2.out w3 ⟨v2, rfl, U32.below (w := w2.drew) g2' hk3⟩).mono ?_; rintro e w4 ⟨u2, rfl, hu2, hk4⟩; have hA4 := hA3.below hk4; have hB4 := hB3.below hk4)
        | (go_at_call 101; refine (compare_any u1 u2 _ _ _ (hu1.below hk4) hu2 (by omega) (by omega)).mono ?_; rintro e w5 ⟨rfl, hk5⟩; have hA5 := hA4.below hk5; have hB5 := hB4.below hk5))
    have hkf := ((Keeps.trans' (Below.drew hk12) hk3).trans' hk4).trans' hk5
    have a50 := hA5.c0
    have hfin : (cnt n1 xs - cnt n2 ys).sign = if n1 then -((mag n1 xs : Int) - mag n2 ys).sign else ((mag n1 xs : Int) - mag n2 ys).sign := cmp_same n1 n2 (mag n1 xs) (mag n2 ys) HN.out
    have HF := Lib.hid hfin
    obtain ⟨hs1, hs2⟩ := sign_bd ((mag n1 xs : Int) - mag n2 ys)
    clear hfin
    cases n1
    · go_wp2
      go_ret
      exact ⟨ret_int HF.out, hkf⟩
    · go_wp2
      go_ret
      exact ⟨ret_int HF.out, hkf⟩
  · have hb : ((cnt n1 xs).sign != (cnt n2 ys).sign) = true := by rw [bne_iff_ne]; exact hne
    have HN := Lib.hid hne
    clear hne
    go_wp2_with fail
    refine (cmp_int _ _ _).mono ?_
    rintro e w3 ⟨rfl, rfl⟩
    go_wp2
    go_ret
    refine ⟨ret_int ?_, hk12⟩
    exact (cmp_diff _ _ HN.out).symm
end Go.Proofs.YtomjnjpehokjbaaGreatDoor

namespace Go.Proofs.YtomjnjpehokjbaaGreatDoor
open Go.RowKit Go.Shelf

set_option maxRecDepth 100000 in
set_option maxHeartbeats 1000000 in
theorem rmul_any (n1 n2 : Bool) (xs ys : List Nat) (V1 V2 : Value) (w : World) (h1 : IntArg w V1 n1 xs) (h2 : IntArg w V2 n2 ys) (hm1 : xs.length ≤ 1000000) (hm2 : ys.length ≤ 1000000) :
    Calls Tryz.prog 145 #[V1, V2] w fun e w' => ∃ V, e = .returned V ∧ IntRep w' V (cnt n1 xs * cnt n2 ys) ∧ Keeps w w' := by
  obtain ⟨v1, rfl, hv1⟩ := h1
  obtain ⟨v2, rfl, hv2⟩ := h2
  have hml1 := mag_length n1 xs
  have hml2 := mag_length n2 ys
  have hkk := keep3 w (.cells #[.bool n1, v1] 27) (.cells #[.bool n2, v2] 27) (.cells #[.bool false, .slice none 0 0] 27)
  have hG1 := Lib.hid (fun W (hW : IntArg W (.agg #[.bool n1, v1]) n1 xs) => rvalue_any n1 xs (.agg #[.bool n1, v1]) W hW hm1)
  have hG2 := Lib.hid (fun W (hW : IntArg W (.agg #[.bool n2, v2]) n2 ys) => rvalue_any n2 ys (.agg #[.bool n2, v2]) W hW hm2)
  have hR := own3 w (.cells #[.bool n1, v1] 27) (.cells #[.bool n2, v2] 27) 27 [.bool false, .slice none 0 0]
  have hB := (own2 w (.cells #[.bool n1, v1] 27) 27 [.bool n2, v2]).alloc (.cells #[.bool false, .slice none 0 0] 27)
  have hA := ((Own.new w 27 [.bool n1, v1]).alloc (.cells #[.bool n2, v2] 27)).alloc (.cells #[.bool false, .slice none 0 0] 27)
  go_enter Tryz.func145, Tryz.ntmps145
  go_upto_region 1 with fail
  have g1 := hv1.below hkk
  have g2 := hv2.below hkk
  generalize ((w.alloc (.cells #[.bool n1, v1] 27)).alloc (.cells #[.bool n2, v2] 27)).alloc (.cells #[.bool false, .slice none 0 0] 27) = W at *
  have a0 := hA.c0
  have a1 := hA.c1
  have b0 := hB.c0
  have b1 := hB.c1
  go_cut [] (fun wx => TwoRes w wx 27 (cnt n1 xs) (cnt n2 ys))
  case first =>
    go_region_with (first
      | (go_at_call_of 72 (Value.agg #[Value.bool n1, v1]); refine (hG1.out W.drew ⟨v1, rfl, g1⟩).mono ?_; rintro e w1 ⟨U1, rfl, hr1, hk1⟩; obtain ⟨A1, m1, c1, rfl, hu1⟩ := hr1.open_; have hA1 := hA.drew.below hk1; have hB1 := hB.drew.below hk1; have a10 := hA1.c0; have a11 := hA1.c1; have b10 := hB1.c0; have b11 := hB1.c1)
      | (go_at_call_of 72 (Value.agg #[Value.bool n2, v2]); refine (hG2.out w1 ⟨v2, rfl, U32.below (w := W.drew) g2 hk1⟩).mono ?_; rintro e w2 ⟨U2, rfl, hr2, hk2⟩; obtain ⟨A2, m2, c2, rfl, hu2⟩ := hr2.open_; have hA2 := hA1.below hk2; have hB2 := hB1.below hk2; have hR2 := (hR.drew.below hk1).below hk2; have hk3 := (Keeps.trans' (Below.drew hkk) hk1).trans' hk2; have a20 := hA2.c0; have a21 := hA2.c1; have b20 := hB2.c0; have b21 := hB2.c1; have af0 := hA2.frozen 0; have af1 := hA2.frozen 1; have bf0 := hB2.frozen 0; have bf1 := hB2.frozen 1))
    all_goals (go_wp2_with fail; go_meet; exact TwoRes.of hA2 hB2 hR2 (hu1.below hk2) hu2 hk3 rfl hv1.noU rfl hv2.noU)
  case rest =>
    clear hG1 hG2 a0 a1 b0 b1 hA hB hR hkk
    obtain ⟨A1, m1, c1, A2, m2, c2, hA, hB, hR, hu1, hu2, hk⟩ := hcut
    have hl1 : (dig (cnt n1 xs).natAbs).length ≤ 1000000 := by rw [cnt_abs]; omega
    have hl2 : (dig (cnt n2 ys).natAbs).length ≤ 1000000 := by rw [cnt_abs]; omega
    obtain ⟨z1, hz1⟩ : ∃ z, cnt n1 xs = z := ⟨_, rfl⟩
    obtain ⟨z2, hz2⟩ : ∃ z, cnt n2 ys = z := ⟨_, rfl⟩
    rw [hz1] at hA hu1 hl1
    rw [hz2] at hB hu2 hl2
    have HZ1 := Lib.hid hz1
    have HZ2 := Lib.hid hz2
    clear hz1 hz2
    have hs1 := sgn_of_rep z1
    have hs2 := sgn_of_rep z2
    generalize decide (z1 < 0) = b1 at *
    generalize decide (z2 < 0) = b2 at *
    obtain ⟨A1', m1', c1', e', e1, -, -, -, r1⟩ := hu1.open_
    cases e'
    obtain ⟨A2', m2', c2', e', e2, -, -, -, r2⟩ := hu2.open_
    cases e'
    have ha := AllB.dig z1.natAbs
    have hb := AllB.dig z2.natAbs
    have hv1' := val_dig z1.natAbs
    have hv2' := val_dig z2.natAbs
    generalize dig z1.natAbs = us at *
    generalize dig z2.natAbs = vs at *
    have hn1 : m1 ≤ 1000000 := by omega
    have hn2 : m2 ≤ 1000000 := by omega
    have HS1 := Lib.hid hs1
    have HS2 := Lib.hid hs2
    have HV1 := Lib.hid hv1'
    have HV2 := Lib.hid hv2'
    have HE1 := Lib.hid e1
    have HE2 := Lib.hid e2
    obtain ⟨N, hN⟩ : ∃ N, N = m1 + m2 := ⟨_, rfl⟩
    have hN1 : N ≤ 4000000 := by omega
    have hmk := make_u32 ((m1 : Int) + m2) N (by omega) hN1
    have HN := Lib.hid hN
    clear hs1 hs2 hml1 hml2 g1 g2 hv1 hv2 hm1 hm2 hv1' hv2' hl1 hl2 hu1 hu2 e1 e2 hN
    have p0 := hA.c0
    have p1 := hA.c1
    have q0 := hB.c0
    have q1 := hB.c1
    go_wp2
    have hown := Own.new wc 51 (u32s (List.replicate N 0))
    have hkc : Keeps wc (wc.alloc (.cells (u32s (List.replicate N 0)).toArray 51)) := box2 _ _
    clear hmk
    go_loopw [6] (fun i wr => ∃ (k : Nat) (out : List Nat), k ≤ m1 ∧ i = .int .i64 (k : Nat) ∧ out.length = N ∧ AllB out ∧
        val out = val (us.take k) * val vs ∧ (∀ j, k + m2 ≤ j → ix out j = 0) ∧ Own wr wc.heap.size 51 (u32s out) ∧ Keeps wc wr)
      (fun i _ => m1 - (intOf i).toNat)
    case atStart => exact ⟨0, List.replicate N 0, by omega, rfl, by simp, AllB.replicate N, by simp [val, val_replicate], fun j _ => by simp [ix, List.getElem?_replicate]; split <;> rfl, hown, hkc⟩
    case round =>
      obtain ⟨k, out, hkN, rfl, hol, hob, hval, hz, hown1, hk1⟩ := hrel
      obtain ⟨wo, rfl⟩ : ∃ wo : World, wo = wr := ⟨_, rfl⟩
      have HV := Lib.hid hval
      have HL := Lib.hid hol
      have HZ := Lib.hid hz
      have hA1 := hA.below hk1
      have hB1 := hB.below hk1
      have s0 := hA1.c0
      have s1 := hA1.c1
      have t0 := hB1.c0
      have t1 := hB1.c1
      clear hval hol hz
      by_cases hlt : k < m1
      · go_wp2
        go_loopw [7, 8] (fun c i wi => ∃ (j cc : Nat) (out' : List Nat), j ≤ m2 ∧ i = .int .i64 (j : Nat) ∧ c = .int .u64 (cc : Nat) ∧ cc < 1000000000 ∧ out'.length = N ∧ AllB out' ∧
            val out' + cc * 1000000000 ^ (k + j) = val (us.take k) * val vs + ix us k * val (vs.take j) * 1000000000 ^ k ∧ (∀ j, k + m2 ≤ j → ix out' j = 0) ∧ Own wi wc.heap.size 51 (u32s out') ∧ Keeps wc wi)
          (fun _ i _ => m2 - (intOf i).toNat)
        case atStart => exact ⟨0, 0, out, by omega, rfl, rfl, by omega, HL.out, hob, by rw [HV.out]; simp [val], HZ.out, hown1, hk1⟩
        case round =>
          obtain ⟨j, cc, out', hj, rfl, rfl, hcc, hol', hob', hval', hz', hown2, hk2⟩ := hrel
          have HV' := Lib.hid hval'
          have HL' := Lib.hid hol'
          have HZ' := Lib.hid hz'
          clear hval' hol' hz' s0 s1 t0 t1
          have hA2 := hA.below hk2
          have hB2 := hB.below hk2
          have s0 := hA2.c0
          have s1 := hA2.c1
          have t0 := hB2.c0
          have t1 := hB2.c1
          have hccI : (cc : Int) < 1000000000 := by omega
          have HC := Lib.hid hcc
          clear hcc
          have hkN : k + m2 < N := by have := HN.out; omega
          by_cases hltj : j < m2
          · obtain ⟨bb1, o1, rfl, hbl1, hcell1⟩ := (r1.below hk2) (by omega)
            obtain ⟨bb2, o2, rfl, hbl2, hcell2⟩ := (r2.below hk2) (by omega)
            have hxc : wr.cell? ⟨bb1, o1 + k, none⟩ = some (.int .u32 (ix us k : Nat)) := hcell1 k hlt
            have hyc : wr.cell? ⟨bb2, o2 + j, none⟩ = some (.int .u32 (ix vs j : Nat)) := hcell2 j hltj
            clear hcell1 hcell2
            have hc0 := hown2.u32cell (i := k + j) (by rw [HL'.out]; omega)
            have hf0 := hown2.frozen (k + j)
            have hob1 : (ix out' (k + j) : Int) < 1000000000 := by have := hob'.ix (k + j); omega
            have hx1 : (ix us k : Int) < 1000000000 := by have := ha.ix k; omega
            have hy1 : (ix vs j : Int) < 1000000000 := by have := hb.ix j; omega
            have hpq : ((ix us k : Nat) : Int) * ((ix vs j : Nat) : Int) ≤ 999999998000000001 := by
              have := mul_lt_base _ _ (ha.ix k) (hb.ix j)
              rw [← Int.natCast_mul]; omega
            have hpq0 : (0 : Int) ≤ ((ix us k : Nat) : Int) * ((ix vs j : Nat) : Int) := by rw [← Int.natCast_mul]; omega
            have i1 : (k : Int) < m1 := by omega
            have i2 : (j : Int) < m2 := by omega
            have i3 : (k : Int) + j < N := by omega
            have i4 : (0 : Int) ≤ (k : Int) := by omega
            have i5 : (0 : Int) ≤ (j : Int) := by omega
            have i6 : (0 : Int) ≤ (k : Int) + j := by omega
            have wr1 : IntKind.i64.wrap ((k : Int) + j) = (k : Int) + j := IntWalk.i64_in _ (by omega)
            have tn1 : ((k : Int) + j).toNat = k + j := by omega
            go_wp2
            go_quiet (fail)
            go_wp2
            go_roundw
            case rel => exact ⟨j + 1, (ix out' (k + j) + ix us k * ix vs j + cc) / 1000000000, out'.set (k + j) ((ix out' (k + j) + ix us k * ix vs j + cc) % 1000000000), by omega, by go_num,
              by rw [cast_div], by have := mul_lt_base _ _ (ha.ix k) (hb.ix j); have := hob'.ix (k + j); omega, by rw [List.length_set]; exact HL'.out, hob'.set _ _ (by omega),
              times_in us vs out' k j cc _ _ (by rw [HL'.out]; omega) HV'.out (by omega), fun i hi => by rw [ix_set _ _ _ _ (by rw [HL'.out]; omega), if_neg (by omega)]; exact HZ'.out i hi,
              (hown2.drewN _).put _ _ (cast_mod _ _ _ _), (hk2.drewN _).set (Nat.le_refl _) _⟩
            case measure => simp [intOf]; omega
          · obtain rfl : j = m2 := by omega
            have hc0 := hown2.u32cell (i := k + j) (by rw [HL'.out]; omega)
            have hf0 := hown2.frozen (k + j)
            go_wp2
            go_roundw
            case rel =>
              refine ⟨k + 1, out'.set (k + j) cc, by omega, by go_num, by rw [List.length_set]; exact HL'.out, hob'.set _ _ HC.out, ?_, fun i hi => ?_, hown2.put _ _ rfl, hk2.set (Nat.le_refl _) _⟩
              · have he := HE2.out
                subst he
                exact times_out us vs out' k cc (by rw [HL'.out]; omega) (HZ'.out _ (Nat.le_refl _)) HV'.out
              · rw [ix_set _ _ _ _ (by rw [HL'.out]; omega), if_neg (by omega)]
                exact HZ'.out i (by omega)
            case measure => simp [intOf]; omega
      · obtain rfl : k = m1 := by omega
        have hv := HV.out
        rw [List.take_of_length_le (by rw [HE1.out]; exact Nat.le_refl _), HV1.out, HV2.out] at hv
        have HVV := Lib.hid hv
        clear hv
        have hun : U32 wo (.slice (some ⟨wc.heap.size, 0, none⟩) N N) out := by
          have := U32.mk hown1.row (Nat.le_refl _) (by simp only [maxLen]; rw [HL.out]; omega) (by intro h; cases h)
          rwa [HL.out] at this
        have hR1 := hR.below hk1
        have hkw := hk.trans' hk1
        go_wp2_with fail
        refine (rmade_u (b1 != b2) _ out _ hun hob (by rw [HL.out]; omega)).mono ?_
        rintro e w5 ⟨V5, rfl, hr5, hk5⟩
        obtain ⟨A5, n5, c5, rfl, hv5⟩ := hr5.open_
        have hR5 := hR1.below hk5
        have hk6 := hkw.trans' hk5
        have y0 := hR5.c0
        have y1 := hR5.c1
        have f0 := hR5.frozen 0
        have f1 := hR5.frozen 1
        obtain ⟨z, hz⟩ : ∃ z, sgn (b1 != b2) (val out) = z := ⟨_, rfl⟩
        rw [hz] at hr5 hv5
        simp only [hz]
        have HZZ := Lib.hid hz
        clear hz
        go_wp2
        have hR6 := hR5.two (.bool (decide (z < 0))) (.slice A5 n5 c5)
        refine bodyPost_ret (v := .agg #[.bool (decide (z < 0)), .slice A5 n5 c5]) (by simp [results, Tryz.results145, go_sem, hR6.c0, hR6.c1]) rfl ?_
        refine ⟨_, rfl, ?_, (hk6.set (by simp; omega) _).set (by simp; omega) _⟩
        rw [show cnt n1 xs * cnt n2 ys = z by
          rw [HZ1.out, HZ2.out, ← HZZ.out, HVV.out, ← HS1.out, ← HS2.out]
          cases b1 <;> cases b2 <;> simp [sgn, Int.neg_mul, Int.mul_neg]]
        exact hr5.two hR5 rfl rfl rfl
end Go.Proofs.YtomjnjpehokjbaaGreatDoor

namespace Go.Proofs.YtomjnjpehokjbaaGreatDoor
open Go.RowKit Go.Shelf

/-- an api.Int of a bearable length that counts z -/
def IntNum (w : World) (V : Value) (z : Int) : Prop := ∃ neg xs, IntArg w V neg xs ∧ cnt neg xs = z ∧ xs.length ≤ 900000
def lenI (z : Int) : Nat := (dig z.natAbs).length
theorem IntNum.below {w w' : World} {V : Value} {z : Int} (h : IntNum w V z) (hk : Keeps w w') : IntNum w' V z := by
  obtain ⟨neg, xs, h, e, hl⟩ := h
  exact ⟨neg, xs, h.below hk, e, hl⟩
theorem IntRep.num {w : World} {V : Value} {z : Int} (h : IntRep w V z) (hl : lenI z ≤ 900000) : IntNum w V z := ⟨_, _, h.arg, cnt_rep z, hl⟩
theorem IntRep.drew {w : World} {V : Value} {z : Int} (h : IntRep w V z) : IntRep w.drew V z := h
theorem IntNum.drew {w : World} {V : Value} {z : Int} (h : IntNum w V z) : IntNum w.drew V z := h
theorem lenI_add (a b : Int) : lenI (a + b) ≤ max (lenI a) (lenI b) + 1 := rep_add_length a b
theorem lenI_sub (a b : Int) : lenI (a - b) ≤ max (lenI a) (lenI b) + 1 := rep_sub_length a b
theorem lenI_mul (a b : Int) : lenI (a * b) ≤ lenI a + lenI b := by
  unfold lenI
  rw [Int.natAbs_mul]
  exact dig_length_mul _ _
theorem lenI_neg (a : Int) : lenI (-a) = lenI a := by unfold lenI; rw [Int.natAbs_neg]
theorem lenI_cnt (neg : Bool) (xs : List Nat) : lenI (cnt neg xs) ≤ xs.length := cnt_length neg xs

section
variable {V1 V2 : Value} {x y : Int} {w : World}
def Gives (z : Int) (w : World) (e : Ending) (w' : World) : Prop := ∃ V, e = .returned V ∧ IntRep w' V z ∧ Keeps w w'
theorem radd_num (h1 : IntNum w V1 x) (h2 : IntNum w V2 y) : Calls Tryz.prog 118 #[V1, V2] w (Gives (x + y) w) := by
  obtain ⟨n1, xs, h1, rfl, l1⟩ := h1
  obtain ⟨n2, ys, h2, rfl, l2⟩ := h2
  exact radd_any n1 n2 xs ys V1 V2 w h1 h2 (by omega) (by omega)
theorem rsub_num (h1 : IntNum w V1 x) (h2 : IntNum w V2 y) : Calls Tryz.prog 98 #[V1, V2] w (Gives (x - y) w) := by
  obtain ⟨n1, xs, h1, rfl, l1⟩ := h1
  obtain ⟨n2, ys, h2, rfl, l2⟩ := h2
  exact rsub_any n1 n2 xs ys V1 V2 w h1 h2 (by omega) (by omega)
theorem rmul_num (h1 : IntNum w V1 x) (h2 : IntNum w V2 y) : Calls Tryz.prog 145 #[V1, V2] w (Gives (x * y) w) := by
  obtain ⟨n1, xs, h1, rfl, l1⟩ := h1
  obtain ⟨n2, ys, h2, rfl, l2⟩ := h2
  exact rmul_any n1 n2 xs ys V1 V2 w h1 h2 (by omega) (by omega)
theorem rvalue_num (h1 : IntNum w V1 x) : Calls Tryz.prog 72 #[V1] w (Gives x w) := by
  obtain ⟨n1, xs, h1, rfl, l1⟩ := h1
  exact rvalue_any n1 xs V1 w h1 (by omega)
theorem neg_num (h1 : IntNum w V1 x) : Calls Tryz.prog 99 #[V1] w (Gives (-x) w) := by
  obtain ⟨n1, xs, h1, rfl, l1⟩ := h1
  exact neg_any n1 xs V1 w h1 (by omega)
theorem rneg_num (h1 : IntNum w V1 x) : Calls Tryz.prog 119 #[V1] w (Gives (-x) w) := by
  obtain ⟨n1, xs, h1, rfl, l1⟩ := h1
  exact rneg_any n1 xs V1 w h1 (by omega)
theorem sign_num (h1 : IntNum w V1 x) : Calls Tryz.prog 77 #[V1] w fun e w' => e = .returned (.int .i64 x.sign) ∧ Keeps w w' := by
  obtain ⟨n1, xs, h1, rfl, l1⟩ := h1
  exact sign_any n1 xs V1 w h1 (by omega)
theorem rsign_num (h1 : IntNum w V1 x) : Calls Tryz.prog 80 #[V1] w fun e w' => e = .returned (.int .i64 x.sign) ∧ Keeps w w' := by
  obtain ⟨n1, xs, h1, rfl, l1⟩ := h1
  exact rsign_any n1 xs V1 w h1 (by omega)
theorem rcompare_num (h1 : IntNum w V1 x) (h2 : IntNum w V2 y) : Calls Tryz.prog 73 #[V1, V2] w fun e w' => e = .returned (.int .i64 (x - y).sign) ∧ Keeps w w' := by
  obtain ⟨n1, xs, h1, rfl, l1⟩ := h1
  obtain ⟨n2, ys, h2, rfl, l2⟩ := h2
  exact rcompare_any n1 n2 xs ys V1 V2 w h1 h2 (by omega) (by omega)
theorem compare_num (h1 : IntNum w V1 x) (h2 : IntNum w V2 y) : Calls Tryz.prog 78 #[V1, V2] w fun e w' => e = .returned (.int .i64 (x - y).sign) ∧ Keeps w w' := by
  obtain ⟨n1, xs, h1, rfl, l1⟩ := h1
  obtain ⟨n2, ys, h2, rfl, l2⟩ := h2
  exact compareI_any n1 n2 xs ys V1 V2 w h1 h2 (by omega) (by omega)
end
end Go.Proofs.YtomjnjpehokjbaaGreatDoor

namespace Go.Proofs.YtomjnjpehokjbaaGreatDoor
open Go.RowKit

/-- a store that touches no row of uint32 -/
def Same32 (w w' : World) : Prop := ∀ v xs, U32 w v xs → U32 w' v xs
theorem IntRep.map {w w' : World} {V : Value} {z : Int} (h : IntRep w V z) (hs : Same32 w w') : IntRep w' V z := by
  obtain ⟨v, rfl, hv⟩ := h
  exact ⟨v, rfl, hs _ _ hv⟩
theorem IntNum.map {w w' : World} {V : Value} {z : Int} (h : IntNum w V z) (hs : Same32 w w') : IntNum w' V z := by
  obtain ⟨neg, xs, ⟨v, rfl, hv⟩, e, l⟩ := h
  exact ⟨neg, xs, ⟨v, rfl, hs _ _ hv⟩, e, l⟩
theorem one_box {w w' : World} {t : TypeId} {d1 : Nat} {x1 y1 x4 y4 : Value} (hO1 : Own w d1 t [x1, y1]) (a1 : noU32 x1 = true) (b1 : noU32 y1 = true) (a4 : noU32 x4 = true)
    (hw : w' = (w.setCell ⟨d1, 0, none⟩ x4).setCell ⟨d1, 1, none⟩ y4) :
    Own w' d1 t [x4, y4] ∧ (∀ b vs, b ≠ d1 → Own w b t vs → Own w' b t vs) ∧ Same32 w w' ∧ (∀ w0 : World, w0.heap.size ≤ d1 → Keeps w0 w → Keeps w0 w') := by
  subst hw
  exact ⟨hO1.two x4 y4, fun b vs e1 h => h.far2 e1, fun v xs h => h.two hO1 a1 b1 a4, fun w0 e1 h => (h.set e1 _).set e1 _⟩
end Go.Proofs.YtomjnjpehokjbaaGreatDoor
