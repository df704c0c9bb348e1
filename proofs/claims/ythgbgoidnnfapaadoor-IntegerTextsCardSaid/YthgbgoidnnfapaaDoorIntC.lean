/- The walks of made, split, Of, Valid, groups. -/
import Derived.Test.YthgbgoidnnfapaaDoorIntB
import Derived.WalkSpells
namespace Go.Proofs.YthgbgoidnnfapaaDoor
open Go.RowKit

/-- a magnitude with a sign -/
def sgn (neg : Bool) (m : Nat) : Int := if neg then -(m : Int) else m
/-- the value V is the canonical integer z -/
def IntRep (w : World) (V : Value) (z : Int) : Prop := ∃ v, V = .agg #[.bool (decide (z < 0)), v] ∧ U32 w v (dig z.natAbs)
theorem IntRep.below {w w' : World} {V : Value} {z : Int} (h : IntRep w V z) (hb : Below w.heap.size w w') : IntRep w' V z := by
  obtain ⟨v, rfl, hv⟩ := h
  exact ⟨v, rfl, hv.below hb⟩

theorem IntRep.zero (w : World) : IntRep w (.agg #[.bool false, .slice none 0 0]) 0 := ⟨.slice none 0 0, by simp, by simpa [dig_zero] using U32.nil⟩
theorem IntRep.mk {w : World} {v : Value} {neg : Bool} {m : Nat} (h : U32 w v (dig m)) (hm : m ≠ 0) : IntRep w (.agg #[.bool neg, v]) (sgn neg m) := by
  cases neg
  · exact ⟨v, by simp [sgn], by simpa [sgn] using h⟩
  · exact ⟨v, by simp [sgn]; omega, by simpa [sgn] using h⟩

set_option maxRecDepth 100000 in
set_option maxHeartbeats 400000 in
theorem made_any (neg : Bool) (A : Option Addr) (n c : Nat) (xs : List Nat) (w : World) (e : xs.length = n) (h : Row w A n (u32 xs)) (ha : AllB xs) (hc : n ≤ c) (hm : c ≤ maxLen) (h0 : A = none → c = 0) :
    Calls Tryd.prog 50 #[.bool neg, .slice A n c] w fun e w' => ∃ V, e = .returned V ∧ IntRep w' V (sgn neg (val xs)) ∧ Keeps w w' := by
  have HT := Lib.hid (trim_n A n c xs (w.alloc (.cells #[.bool false, .slice none 0 0] 24)) e (h.below ((Below.refl _ _).alloc (Nat.le_refl _) _)) hc hm)
  have HL := Lib.hid (trimL_eq ha)
  go_enter Tryd.func50, Tryd.ntmps50
  go_wp2_with fail
  refine HT.out.mono ?_
  rintro e w1 ⟨rfl, rfl⟩
  go_wp2
  · refine bodyPost_ret (v := .agg #[.bool false, .slice none 0 0]) (by simp [results, Tryd.results50, go_sem]) rfl ?_
    have h0 : val xs = 0 := by
      rw [← dig_length_zero, ← HL.out]
      have : (((trimL xs).length : Int) == 0) = true := by assumption
      simpa using this
    rw [h0]
    exact ⟨_, rfl, by simpa [sgn] using IntRep.zero _, (Below.refl _ _).alloc (Nat.le_refl _) _⟩
  · refine bodyPost_ret (v := .agg #[.bool neg, .slice A (trimL xs).length c]) (by simp [results, Tryd.results50, go_sem]) rfl ?_
    have h1 : val xs ≠ 0 := by
      have : (((trimL xs).length : Int) == 0) = false := by assumption
      rw [← Nat.pos_iff_ne_zero, Nat.pos_iff_ne_zero, ← dig_length_pos, ← HL.out]
      simp at this
      exact List.length_pos_iff.2 this
    exact ⟨_, rfl, IntRep.mk (by rw [← HL.out]; exact (U32.trim (by rw [e]; exact h) (by omega) hm h0).below ((Below.refl _ _).alloc (Nat.le_refl _) _)) h1, (Below.refl _ _).alloc (Nat.le_refl _) _⟩

theorem info32 : (Tryd.prog.info? 48).map (fun i => (i.zero, i.size, i.bytes)) = some (some (.int .u32 0), 1, 4) := info_u32

set_option maxRecDepth 100000 in
set_option maxHeartbeats 400000 in
theorem split_any (m : Nat) (w : World) (hm : (m : Int) ≤ 18446744073709551615) :
    Calls Tryd.prog 51 #[.int .u64 (m : Nat)] w fun e w' => ∃ v, e = .returned v ∧ U32 w' v (dig m) ∧ Keeps w w' := by
  obtain ⟨i0, hi, hz0, hz1, hz2⟩ := info_parts info_u32
  have hd3 : (dig m).length ≤ 3 := dig_length_le (by omega)
  go_enter Tryd.func51, Tryd.ntmps51
  go_wp2
  go_loopw [0, 3] (fun x g wr => ∃ (k : Nat) (out : List Nat), k ≤ m ∧ x = .int .u64 (k : Nat) ∧ out ++ dig k = dig m ∧ wr.ownsRow w.heap.size 48 1 g out.length (u32s out) ∧ Keeps w wr)
    (fun x _ _ => (intOf x).toNat)
  case atStart => exact ⟨m, [], Nat.le_refl _, rfl, rfl, World.ownsRow_nil _ _ _ _, Below.refl _ _⟩
  case round =>
    obtain ⟨k, out, hk, rfl, hd, hown, hk1⟩ := hrel
    by_cases hpos : 0 < k
    · have hol : out.length ≤ 2 := by
        have := congrArg List.length hd
        rw [List.length_append] at this
        have := dig_length_pos.2 (show k ≠ 0 by omega)
        omega
      rw [dig_pos (by omega)] at hd
      have HD := Lib.hid hd
      clear hd
      go_wp2_with (at_builtin; refine wpList_append_own _ rfl _ _ 22 rfl w.heap.size 48 i0 (.int .u32 0) 1 4 Tryd.underlying22 hi hz0 hz1 hz2 rfl (by decide) _ _ _ rfl (hown.alloc _) ⟨wr.heap.size, 0, none⟩ 1 1 [.int .u32 ((k : Int) % 1000000000)] rfl rfl (newcell _ _ _) (by simp [Value.oneCell']) (by simp only [maxLen]; omega) (by omega) (by have := hk1.size; simp; omega) ?_; intro v' w1 hown' hgrow _)
      rw [u32s_snoc out (k % 1000000000) (by omega)] at hown'
      have hk2 : Keeps w w1 := (hk1.alloc hk1.size _).grown hgrow (by have := hk1.size; simp; omega) (fun b e => (hown.lt b e).1)
      go_roundw
      case rel => exact ⟨k / 1000000000, out ++ [k % 1000000000], by omega, by go_num, by rw [List.append_assoc]; exact HD.out, by simpa using hown', hk2⟩
      case measure => simp [intOf]; omega
    · obtain rfl : k = 0 := by omega
      rw [dig_zero, List.append_nil] at hd
      have HD := Lib.hid hd
      clear hd
      go_wp2
      go_ret
      exact ⟨_, rfl, by rw [← HD.out]; exact U32.of_own hown, hk1⟩

set_option maxRecDepth 100000 in
set_option maxHeartbeats 400000 in
/-- slices.Clone of a magnitude: the same groups (in whatever memory) -/
theorem clone_any (A : Option Addr) (n c : Nat) (xs : List Nat) (w : World) (e : xs.length = n) (h : Row w A n (u32 xs)) (hc : n ≤ c) (hm : n ≤ 1000000) (h0 : A = none → c = 0) :
    Calls Tryd.prog 65 #[.slice A n c] w fun e w' => ∃ v, e = .returned v ∧ U32 w' v xs ∧ Keeps w w' := by
  obtain ⟨i0, hi, hz0, hz1, hz2⟩ := info_parts info_u32
  have HE := Lib.hid e
  clear e
  cases A with
  | none =>
    obtain rfl := h0 rfl
    obtain rfl : n = 0 := by omega
    have hx := Lib.run_eql_slice_nil (P := Tryd.prog) w 22 48 none 0 0 0 0 Tryd.underlying22
    go_enter Tryd.func65, Tryd.ntmps65
    go_wp2
    go_ret
    exact ⟨_, rfl, by rw [List.eq_nil_of_length_eq_zero HE.out]; exact U32.nil, Below.refl _ _⟩
  | some ad =>
    have hx := Lib.run_eql_slice_nil (P := Tryd.prog) w 22 48 (some ad) n c 0 0 Tryd.underlying22
    go_enter Tryd.func65, Tryd.ntmps65
    go_wp2_with (at_builtin; refine wpList_append_row rfl _ _ 22 rfl w.heap.size 48 i0 (.int .u32 0) 4 Tryd.underlying22 hi hz0 hz1 hz2 rfl _ 0 [] rfl (World.ownsRow_made w #[] 0 (Nat.le_refl _) (by simp [maxLen]) rfl) _ _ _ (u32 xs) rfl h0 hc (h.below ((Below.refl _ _).alloc (Nat.le_refl _) _)) (fun j => rfl) (by simp only [maxLen]; omega) (by omega) (by simp) ?_; intro v' w1 hown' hgrow)
    go_ret
    refine ⟨_, rfl, ?_, ((Below.refl _ _).alloc (Nat.le_refl _) _).grown hgrow (by simp) (fun b e => by cases e; exact Nat.le_refl _)⟩
    have he := HE.out
    subst he
    rw [List.nil_append, u32s_range] at hown'
    exact U32.of_own hown'

end Go.Proofs.YthgbgoidnnfapaaDoor
