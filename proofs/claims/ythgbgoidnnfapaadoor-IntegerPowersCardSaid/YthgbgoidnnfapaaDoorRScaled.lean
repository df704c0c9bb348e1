/- The walk of the reference's scaled: a magnitude times a number below the base. -/
import Derived.Test.YthgbgoidnnfapaaDoorRShort
namespace Go.Proofs.YthgbgoidnnfapaaDoor
open Go.RowKit Go.Shelf

theorem rscaled_step (xs out : List Nat) (k d cc s c : Nat) (hk : out.length = k) (hv : val out + cc * 1000000000 ^ k = val (xs.take k) * d)
    (e : s + c * 1000000000 = ix xs k * d + cc) :
    val (out ++ [s]) + c * 1000000000 ^ (k + 1) = val (xs.take (k + 1)) * d := by
  rw [val_snoc, hk, val_take_succ xs]
  have : (s + c * 1000000000) * 1000000000 ^ k = (ix xs k * d + cc) * 1000000000 ^ k := by rw [e]
  grind
theorem cast_sm (x d c : Nat) : ((x : Int) * (d : Int) + (c : Int)) % 1000000000 = (((x * d + c) % 1000000000 : Nat) : Int) := by
  rw [Int.natCast_emod, Int.natCast_add, Int.natCast_mul]; rfl
theorem cast_sd (x d c : Nat) : ((x : Int) * (d : Int) + (c : Int)) / 1000000000 = (((x * d + c) / 1000000000 : Nat) : Int) := by
  rw [Int.natCast_ediv, Int.natCast_add, Int.natCast_mul]; rfl

set_option maxRecDepth 100000 in
set_option maxHeartbeats 1000000 in
theorem rscaled_core (A : Option Addr) (n1 c1 : Nat) (xs : List Nat) (d : Nat) (w : World) (e1 : xs.length = n1) (h1 : U32 w (.slice A n1 c1) xs)
    (ha : AllB xs) (hm1 : n1 ≤ 1000000) (hd : d < 1000000000) :
    Calls Tryd.prog 93 #[.slice A n1 c1, .int .u64 (d : Nat)] w fun e w' => ∃ v, e = .returned v ∧ U32 w' v (dig (val xs * d)) ∧ Keeps w w' := by
  obtain ⟨i0, hi, hz0, hz1, hz2⟩ := info_parts info_u32
  obtain ⟨A', n', c', ee, -, -, -, -, r1⟩ := h1.open_
  cases ee
  have HE1 := Lib.hid e1
  have HD := Lib.hid hd
  have hdI : (d : Int) < 1000000000 := by omega
  clear e1 hd
  go_enter Tryd.func93, Tryd.ntmps93
  go_wp2
  go_loopw [5, 6, 7] (fun g c i wr => ∃ (k cc : Nat) (out : List Nat), k ≤ n1 ∧ i = .int .i64 (k : Nat) ∧ c = .int .u64 (cc : Nat) ∧ cc < 1000000000 ∧ out.length = k ∧ AllB out ∧
      val out + cc * 1000000000 ^ k = val (xs.take k) * d ∧ wr.ownsRow w.heap.size 48 1 g k (u32s out) ∧ Keeps w wr)
    (fun _ _ i _ => n1 - (intOf i).toNat)
  case atStart => exact ⟨0, 0, [], by omega, rfl, rfl, by omega, rfl, AllB.nil, by simp [val], made1 w _, box2 _ _⟩
  case round =>
    obtain ⟨k, cc, out, hkN, rfl, rfl, hcc, hol, hob, hval, hown1, hk1⟩ := hrel
    have HV := Lib.hid hval
    have HL := Lib.hid hol
    clear hval hol
    have hccI : (cc : Int) < 1000000000 := by omega
    by_cases hlt : k < n1
    · obtain ⟨b1, o1, rfl, hb1, hcell⟩ := (r1.below hk1) (by omega)
      have hxc : wr.cell? ⟨b1, o1 + k, none⟩ = some (.int .u32 (ix xs k : Nat)) := hcell k hlt
      have hx : (ix xs k : Int) < 1000000000 := by have := ha.ix k; omega
      have hp := mul_lt_base _ _ (ha.ix k) HD.out
      have hpq : ((ix xs k : Nat) : Int) * ((d : Nat) : Int) ≤ 999999998000000001 := by rw [← Int.natCast_mul]; omega
      have hpq0 : (0 : Int) ≤ ((ix xs k : Nat) : Int) * ((d : Nat) : Int) := by rw [← Int.natCast_mul]; omega
      have i1 : (k : Int) < n1 := by omega
      have i4 : (0 : Int) ≤ (k : Int) := by omega
      have HP := Lib.hid hp
      clear hcell hp
      go_wp2_with (at_builtin; refine wpList_append_own _ rfl _ _ 22 rfl w.heap.size 48 i0 (.int .u32 0) 1 4 Tryd.underlying22 hi hz0 hz1 hz2 rfl (by decide) _ _ _ rfl (hown1.alloc _) ⟨wr.heap.size, 0, none⟩ 1 1 [.int .u32 ((((ix xs k : Nat) : Int) * ((d : Nat) : Int) + (cc : Nat)) % 1000000000)] rfl rfl (newcell _ _ _) (by simp [Value.oneCell']) (by simp only [maxLen]; omega) (by omega) (by have := hk1.size; simp; omega) ?_; intro v' w1 hown' hgrow _)
      rw [u32s_snoc out ((ix xs k * d + cc) % 1000000000) (cast_sm _ _ _)] at hown'
      have hk2 : Keeps w w1 := (hk1.alloc hk1.size _).grown hgrow (by have := hk1.size; simp; omega) (fun b e => (hown1.lt b e).1)
      go_roundw
      case rel => exact ⟨k + 1, (ix xs k * d + cc) / 1000000000, out ++ [(ix xs k * d + cc) % 1000000000], by omega, by go_num, congrArg (Value.int .u64) (cast_sd _ _ _), by have := HP.out; omega, by simp [HL.out],
        hob.append (AllB.single (by omega)), rscaled_step xs out k d cc _ _ HL.out HV.out (by omega), hown', hk2⟩
      case measure => simp [intOf]; omega
    · obtain rfl : k = n1 := by omega
      have hfin : val (out ++ [cc]) = val xs * d := by
        have := HV.out
        rw [List.take_of_length_le (by rw [HE1.out]; exact Nat.le_refl _)] at this
        rw [val_snoc, HL.out]; exact this
      have HF := Lib.hid hfin
      clear hfin
      go_wp2_with (at_builtin; refine wpList_append_own _ rfl _ _ 22 rfl w.heap.size 48 i0 (.int .u32 0) 1 4 Tryd.underlying22 hi hz0 hz1 hz2 rfl (by decide) _ _ _ rfl (hown1.alloc _) ⟨wr.heap.size, 0, none⟩ 1 1 [.int .u32 (cc : Nat)] rfl rfl (newcell _ _ _) (by simp [Value.oneCell']) (by simp only [maxLen]; omega) (by omega) (by have := hk1.size; simp; omega) ?_; intro v' w1 hown' hgrow _)
      rw [u32s_snoc out cc rfl] at hown'
      have hk2 : Keeps w w1 := (hk1.alloc hk1.size _).grown hgrow (by have := hk1.size; simp; omega) (fun b e => (hown1.lt b e).1)
      refine (rmade_u false v' _ _ (U32.of_own hown') (hob.append (AllB.single hcc)) (by simp [HL.out]; omega)).mono ?_
      rintro e w3 ⟨V3, rfl, hr3, hk3⟩
      obtain ⟨A3, n3, c3, rfl, hv3⟩ := hr3.open_
      have hfd := field_groups (.bool (decide (sgn false (val (out ++ [cc])) < 0))) (.slice A3 n3 c3)
      go_wp2
      go_ret
      refine ⟨_, rfl, ?_, hk2.trans' hk3⟩
      rw [sgn_natAbs, HF.out] at hv3
      exact hv3
theorem rscaled_d (v : Value) (a d : Nat) (w : World) (h : U32 w v (dig a)) (hm : (dig a).length ≤ 1000000) (hd : d < 1000000000) :
    Calls Tryd.prog 93 #[v, .int .u64 (d : Nat)] w fun e w' => ∃ v', e = .returned v' ∧ U32 w' v' (dig (a * d)) ∧ Keeps w w' := by
  obtain ⟨A, n, c, rfl, e, -, -, -, -⟩ := h.open_
  refine (rscaled_core A n c (dig a) d w e h (AllB.dig a) (by omega) hd).mono ?_
  rintro e w' ⟨v', rfl, hv, hk⟩
  exact ⟨v', rfl, by rwa [val_dig] at hv, hk⟩
end Go.Proofs.YthgbgoidnnfapaaDoor
