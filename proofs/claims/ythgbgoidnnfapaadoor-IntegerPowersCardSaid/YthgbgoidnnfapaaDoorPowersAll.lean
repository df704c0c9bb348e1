/- The walk of the law IntegerPowers. -/
import Derived.Test.YthgbgoidnnfapaaDoorTxt
import Derived.Test.YthgbgoidnnfapaaDoorText
import Derived.Test.YthgbgoidnnfapaaDoorRefE
import Derived.Test.YthgbgoidnnfapaaDoorLawB
import Derived.Test.YthgbgoidnnfapaaDoorMul
import Derived.Test.YthgbgoidnnfapaaDoorRefH
import Derived.Test.YthgbgoidnnfapaaDoorOf
import Derived.Test.YthgbgoidnnfapaaDoorOver
import Derived.Deep.LoopGhost
import Derived.Test.YthgbgoidnnfapaaDoorRDivide
import Derived.Test.YthgbgoidnnfapaaDoorRLog
import Derived.Test.YthgbgoidnnfapaaDoorPhi
import Derived.Test.YthgbgoidnnfapaaDoorLawC
import Derived.Test.YthgbgoidnnfapaaDoorLog
namespace Go.Proofs.YthgbgoidnnfapaaDoor
open Go

/-- the number of decimal digits of a magnitude, 0 for 0 -/
def dgs (m : Nat) : Nat := if m = 0 then 0 else Lib.nDigits m
theorem dgs_zero : dgs 0 = 0 := rfl
theorem dgs_ten {m : Nat} (h : m ≠ 0) : dgs m = dgs (m / 10) + 1 := by
  unfold dgs
  rw [if_neg h]
  by_cases h10 : m < 10
  · rw [if_pos (by omega), Lib.nDigits_small h10]
  · rw [if_neg (by omega), Lib.nDigits_big h10]
theorem dgs_low : ∀ (k : Nat) (m : Nat), 10 ^ k ≤ m → dgs m = dgs (m / 10 ^ k) + k
  | 0, m, _ => by simp
  | k + 1, m, h => by
    have h1 : m ≠ 0 := by have : 0 < 10 ^ (k + 1) := Nat.pow_pos (by omega); omega
    rw [dgs_ten h1, dgs_low k (m / 10) (by rw [Nat.le_div_iff_mul_le (by omega)]; rw [Nat.pow_succ] at h; omega), Nat.div_div_eq_div_mul, show 10 * 10 ^ k = 10 ^ (k + 1) by rw [Nat.pow_succ, Nat.mul_comm]]
    omega
theorem dgs_lt : ∀ (k m : Nat), dgs m ≤ k → m < 10 ^ k
  | 0, m, h => by
    by_cases h0 : m = 0
    · subst h0; simp
    · rw [dgs_ten h0] at h; omega
  | k + 1, m, h => by
    by_cases h0 : m = 0
    · subst h0; exact Nat.pow_pos (by omega)
    · rw [dgs_ten h0] at h
      have := dgs_lt k (m / 10) (by omega)
      rw [Nat.pow_succ]
      omega
/-- by groups: nine for each but the last, and the digits of the last -/
theorem dgs_groups (m : Nat) (h : m ≠ 0) : dgs m = 9 * ((dig m).length - 1) + dgs (ix (dig m) ((dig m).length - 1)) := by
  induction m using Nat.strongRecOn with
  | _ m ih =>
    by_cases hs : m < 1000000000
    · rw [dig_small h hs]; simp [ix]
    · have h2 : m / 1000000000 ≠ 0 := by omega
      have hi := ih (m / 1000000000) (by omega) h2
      have hl := dgs_low 9 m (by omega)
      rw [show (10 : Nat) ^ 9 = 1000000000 from rfl] at hl
      have hp := dig_length_pos.2 h2
      rw [dig_pos h, hl, hi]
      rw [List.length_cons, show (dig (m / 1000000000)).length + 1 - 1 = ((dig (m / 1000000000)).length - 1) + 1 by omega, ix_succ]
      omega
theorem dgs_dec (m : Nat) (h : m ≠ 0) : dgs m = (Lib.decDigits m).length := by rw [Lib.decDigits_length]; exact if_neg h
theorem dgs_len (m : Nat) : dgs m ≤ 9 * (dig m).length := by
  by_cases h : m = 0
  · subst h; simp [dgs]
  · have hp := dig_length_pos.2 h
    have hx := (AllB.dig m).ix ((dig m).length - 1)
    have hd : dgs (ix (dig m) ((dig m).length - 1)) ≤ 9 := by
      by_cases h0 : ix (dig m) ((dig m).length - 1) = 0
      · rw [h0]; simp [dgs]
      · rw [dgs_dec _ h0]; exact (decDigits_len _ hx).1
    rw [dgs_groups m h]
    omega
theorem pow_lt_of (m k D : Nat) (h : m < 10 ^ D) : m ^ k < 10 ^ (D * k) ∨ k = 0 := by
  rcases Nat.eq_zero_or_pos k with h0 | h0
  · exact .inr h0
  · left
    rw [Nat.pow_mul]
    exact Nat.pow_lt_pow_left h (by omega)
/-- the length of a power -/
theorem pow_len' (m k n K : Nat) (hK : 2300 ≤ K) (hk : k ≤ n) (h : n * dgs m ≤ 20000) : (dig (m ^ k)).length ≤ K := by
  rcases pow_lt_of m k (dgs m) (dgs_lt _ _ (Nat.le_refl _)) with h1 | h1
  · refine dig_length_le (Nat.lt_of_lt_of_le h1 ?_)
    have h2 : dgs m * k ≤ 20000 := Nat.le_trans (Nat.mul_le_mul_left _ hk) (by rw [Nat.mul_comm]; exact h)
    have h3 : dgs m * k ≤ 9 * K := by omega
    clear h1
    rw [show (1000000000 : Nat) = 10 ^ 9 from rfl, ← Nat.pow_mul]
    exact Nat.pow_le_pow_right (by decide) h3
  · subst h1
    exact Nat.le_trans (dig_length_le (k := 1) (by simp)) (by omega)
theorem pow_len (m k n : Nat) (hk : k ≤ n) (h : n * dgs m ≤ 20000) : (dig (m ^ k)).length ≤ 2300 := by
  obtain ⟨K, hK⟩ : ∃ K, 2300 = K := ⟨_, rfl⟩
  rw [hK]
  exact pow_len' m k n K (by omega) hk h
theorem pow_len2 (m a n : Nat) (hk : 2 * a ≤ n) (h : n * dgs m ≤ 20000) : (dig (m ^ a * m ^ a)).length ≤ 2300 := by
  rw [← Nat.pow_add]; exact pow_len m (a + a) n (by omega) h
/-- one step of squaring -/
theorem bit_step (n j : Nat) : n / 2 ^ j = 2 * (n / 2 ^ (j + 1)) + n / 2 ^ j % 2 := by
  rw [Nat.pow_succ, ← Nat.div_div_eq_div_mul]
  have := Nat.div_add_mod (n / 2 ^ j) 2
  omega
theorem and_bit (n j : Nat) : n &&& 2 ^ j = if n / 2 ^ j % 2 = 1 then 2 ^ j else 0 := by
  have h : (n &&& 2 ^ j) = if n.testBit j then 2 ^ j else 0 := by
    apply Nat.eq_of_testBit_eq
    intro i
    rw [Nat.testBit_and, Nat.testBit_two_pow]
    by_cases h : n.testBit j <;> by_cases hj : j = i <;> simp_all
  rw [h, Nat.testBit_eq_decide_div_mod_eq]
  by_cases h : n / 2 ^ j % 2 = 1 <;> simp [h]
end Go.Proofs.YthgbgoidnnfapaaDoor

namespace Go.Proofs.YthgbgoidnnfapaaDoor
open Go.RowKit Go.Shelf

set_option maxRecDepth 100000 in
set_option maxHeartbeats 400000 in
theorem digits_any (v : Value) (m : Nat) (w : World) (h : U32 w v (dig m)) (hm : (dig m).length ≤ 900000) (ht : PowTab w) :
    Calls Tryd.prog 80 #[v] w fun e w' => e = .returned (.int .i64 (dgs m : Nat)) ∧ Keeps w w' := by
  obtain ⟨A, n, c, rfl, e1, -, -, -, r1⟩ := h.open_
  by_cases h0 : m = 0
  · subst h0
    obtain rfl : n = 0 := by rw [dig_zero] at e1; simpa using e1.symm
    clear e1
    go_enter Tryd.func80, Tryd.ntmps80
    go_wp2
    go_ret
    exact ⟨rfl, Below.refl _ _⟩
  · have hn : 0 < n := by have := dig_length_pos.2 h0; omega
    have hD := dgs_groups m h0
    have hl := dig_last h0
    rw [e1] at hD hl
    obtain ⟨b, o, rfl, hb, hcell⟩ := r1 hn
    have hc := hcell (n - 1) (by omega)
    unfold u32 at hc
    have hx := (AllB.dig m).ix (n - 1)
    generalize ix (dig m) (n - 1) = x at *
    have hL := dgs_dec x hl
    have h9 := (decDigits_len x hx).1
    obtain ⟨L, hLL⟩ : ∃ L, (Lib.decDigits x).length = L := ⟨_, rfl⟩
    rw [hLL] at hL h9
    have hI := Lib.hid (itoa_any x hx w ht)
    have hsz : (⟨(Lib.decDigits x).toArray⟩ : ByteArray).size = L := by rw [← hLL]; rfl
    generalize (⟨(Lib.decDigits x).toArray⟩ : ByteArray) = s at *
    have hxI : (x : Int) < 1000000000 := by omega
    have HD := Lib.hid hD
    have HL := Lib.hid hL
    have hqI : (n : Int) ≤ 900000 := by omega
    have hnI : (1 : Int) ≤ n := by omega
    have hsL : (s.size : Int) = L := by omega
    have HS := Lib.hid hsz
    clear hD hL e1 h0 hl hLL hcell hsz hx hm
    go_enter Tryd.func80, Tryd.ntmps80
    have hn0 : ((n : Int) == 0) = false := by simp; omega
    clear h r1
    go_wp2_with fail
    refine hI.out.mono ?_
    rintro e w1 ⟨rfl, hk1⟩
    go_wp2
    go_ret
    exact ⟨ret_int (by have := HD.out; have := HL.out; omega), hk1⟩
end Go.Proofs.YthgbgoidnnfapaaDoor

namespace Go.Proofs.YthgbgoidnnfapaaDoor
open Go.RowKit Go.Shelf

set_option maxRecDepth 100000 in
set_option maxHeartbeats 400000 in
theorem rdigits_any (neg : Bool) (xs : List Nat) (V : Value) (w : World) (h : IntArg w V neg xs) (hm : xs.length ≤ 900000) :
    Calls Tryd.prog 44 #[V] w fun e w' => e = .returned (.int .i64 (dgs (mag neg xs) : Nat)) ∧ Keeps w w' := by
  obtain ⟨v, rfl, hv⟩ := h
  have hkk := box2 w (.cells #[.bool neg, v] 24)
  have hB := Own.new w 24 [.bool neg, v]
  have hG := Lib.hid (rvalue_any neg xs (.agg #[.bool neg, v]) _ ⟨v, rfl, hv.below hkk⟩ (by omega))
  have hml := mag_length neg xs
  have ea := cnt_abs neg xs
  generalize cnt neg xs = z at *
  generalize mag neg xs = m at *
  have HE := Lib.hid ea
  clear ea
  go_enter Tryd.func44, Tryd.ntmps44
  go_wp2_with fail
  refine hG.out.mono ?_
  rintro e w1 ⟨V3, rfl, hr3, hk1⟩
  obtain ⟨A3, n3, c3, rfl, hv3⟩ := hr3.open_
  rw [HE.out] at hv3
  obtain ⟨A', n', c', e', e1, -⟩ := hv3.open_
  cases e'
  generalize decide (z < 0) = bz at *
  have hB1 := hB.below hk1
  have f0 := hB1.frozen 0
  have f1 := hB1.frozen 1
  have hk := (hkk.trans' hk1).set (p := ⟨w.heap.size, 0, none⟩) (Nat.le_refl _) (.bool bz)
  have hk2 := hk.set (p := ⟨w.heap.size, 1, none⟩) (Nat.le_refl _) (.slice A3 n3 c3)
  have hB2 := hB1.two (.bool bz) (.slice A3 n3 c3)
  have s0 := hB2.c0
  have s1 := hB2.c1
  have hu := hv3.two (x' := .bool bz) (y' := .slice A3 n3 c3) hB1 rfl hv.noU rfl
  have r0 := hB1.c0
  have r1 := hB1.c1
  clear hr3 hG hv hB hkk hk1
  by_cases h0 : m = 0
  · subst h0
    obtain rfl : n3 = 0 := by rw [dig_zero] at e1; simpa using e1.symm
    clear e1 hml hm
    go_wp2
    go_ret
    exact ⟨rfl, hk2⟩
  · have hn : 0 < n3 := by have := dig_length_pos.2 h0; omega
    have hD := dgs_groups m h0
    have hl := dig_last h0
    rw [e1] at hD hl
    obtain ⟨A', n', c', e', e2, -, -, -, ru⟩ := hu.open_
    cases e'
    obtain ⟨b, o, rfl, hb, hcell⟩ := ru hn
    have hc := hcell (n3 - 1) (by omega)
    unfold u32 at hc
    have hx := (AllB.dig m).ix (n3 - 1)
    generalize ix (dig m) (n3 - 1) = x at *
    have hn0 : ((n3 : Int) == 0) = false := by simp; omega
    have h1 : (1 : Int) ≤ n3 := by omega
    have hnI : (n3 : Int) ≤ 900000 := by omega
    have HD := Lib.hid hD
    have HX := Lib.hid hx
    have hd9 : dgs x ≤ 9 := by rw [dgs_dec _ hl]; exact (decDigits_len x hx).1
    have H9 := Lib.hid hd9
    clear hD e1 e2 hl hx hcell ru hml hm h0 hd9 hu hv3
    go_wp2
    clear s0 s1 hB2 hc hb r0 r1 f0 f1 hB1 hk
    generalize (w1.setCell ⟨w.heap.size, 0, none⟩ (.bool bz)).setCell ⟨w.heap.size, 1, none⟩ (.slice (some ⟨b, o, none⟩) n3 c3) = W at *
    go_loop [4, 5] (fun k t => ∃ t' i : Nat, t = .int .u32 (t' : Nat) ∧ k = .int .i64 (i : Nat) ∧ dgs x + 9 * (n3 - 1) = dgs t' + i ∧ t' ≤ x) (fun _ t => (intOf t).toNat)
    case atStart => exact ⟨x, 9 * (n3 - 1), rfl, by congr 1; omega, rfl, Nat.le_refl _⟩
    case round =>
      obtain ⟨t', i, rfl, rfl, hd, hle⟩ := hrel
      have hi : (i : Int) ≤ 9000000 := by have := H9.out; omega
      have htI : (t' : Int) ≤ 4294967295 := by have := HX.out; omega
      have HL := Lib.hid hle
      have HDD := Lib.hid hd
      clear hd hle
      by_cases ht : t' = 0
      · clear htI
        subst ht
        go_wp2
        go_ret
        exact ⟨ret_int (by have := HD.out; have h3 := HDD.out; rw [dgs_zero] at h3; omega), hk2⟩
      · have hp : (0 : Int) < t' := by omega
        go_wp2
        go_round
        case rel => exact ⟨t' / 10, i + 1, by go_num, by go_num, by have h3 := HDD.out; rw [dgs_ten ht] at h3; omega, by have := HL.out; omega⟩
        case measure => simp [intOf]; omega
end Go.Proofs.YthgbgoidnnfapaaDoor

namespace Go.Proofs.YthgbgoidnnfapaaDoor
open Go.RowKit Go.Shelf

/-- the code and the value of a power -/
def powC (z n : Int) : Int := if n < 0 ∨ 4096 < n then 2 else if 20000 < n * (dgs z.natAbs : Nat) then 9 else 0
def powZ (z n : Int) : Int := if powC z n = 0 then z ^ n.toNat else 0
/-- the bits of the exponent, from the thirteenth one down -/
def bitOf : Nat → Nat
  | 0 => 0
  | k + 1 => 2 ^ k
theorem bitOf_half (k : Nat) : bitOf (k + 1) / 2 = bitOf k := by
  cases k with
  | zero => rfl
  | succ k => simp only [bitOf]; rw [Nat.pow_succ]; omega
theorem bitOf_le {k : Nat} (h : k ≤ 13) : bitOf k ≤ 4096 := by
  cases k with
  | zero => simp [bitOf]
  | succ k => exact Nat.pow_le_pow_right (n := 2) (by omega) (show k ≤ 12 by omega)
theorem bitOf_pos (k : Nat) : 0 < bitOf (k + 1) := Nat.pow_pos (by omega)
/-- one round: the power behind it -/
theorem pow_round (m n k : Nat) : m ^ (n / 2 ^ k) = if n &&& bitOf (k + 1) = 0 then m ^ (n / 2 ^ (k + 1)) * m ^ (n / 2 ^ (k + 1)) else m ^ (n / 2 ^ (k + 1)) * m ^ (n / 2 ^ (k + 1)) * m := by
  rw [show bitOf (k + 1) = 2 ^ k from rfl, and_bit]
  have h := bit_step n k
  have h2 : (2 : Nat) ^ k ≠ 0 := Nat.pos_iff_ne_zero.1 (Nat.pow_pos (by omega))
  rw [← Nat.pow_add]
  by_cases hb : n / 2 ^ k % 2 = 1
  · rw [if_pos hb, if_neg h2, ← Nat.pow_succ]; congr 1; omega
  · rw [if_neg hb, if_pos rfl]; congr 1; omega
theorem bits_and_i64_nat (a b : Nat) (ha : a < 4294967296) (hb : b < 4294967296) : bits .and .i64 (a : Int) (b : Int) = ((a &&& b : Nat) : Int) := by
  have hx : a &&& b < 2 ^ 32 := Nat.and_lt_two_pow _ (by omega)
  have h1 : (BitVec.ofInt 64 (a : Int)).toNat = a := by
    rw [BitVec.ofInt_natCast, BitVec.toNat_ofNat]; exact Nat.mod_eq_of_lt (by omega)
  have h2 : (BitVec.ofInt 64 (b : Int)).toNat = b := by
    rw [BitVec.ofInt_natCast, BitVec.toNat_ofNat]; exact Nat.mod_eq_of_lt (by omega)
  show IntKind.i64.wrap ((BitVec.ofInt 64 (a : Int) &&& BitVec.ofInt 64 (b : Int)).toNat : Int) = _
  rw [BitVec.toNat_and, h1, h2]
  exact IntWalk.i64_in _ (by omega)
theorem sgn_pow (neg : Bool) (m : Nat) : ∀ n : Nat, (sgn neg m) ^ n = sgn (neg && decide (n % 2 = 1)) (m ^ n)
  | 0 => by simp [sgn]
  | n + 1 => by
    rw [Int.pow_succ, sgn_pow neg m n, Nat.pow_succ]
    cases neg
    · simp [sgn]
    · rcases Nat.mod_two_eq_zero_or_one n with h | h
      · have h2 : (n + 1) % 2 = 1 := by omega
        simp [sgn, h, h2, Int.mul_neg]
      · have h2 : (n + 1) % 2 = 0 := by omega
        simp [sgn, h, h2, Int.mul_neg, Int.neg_mul]
theorem U32.of_row {w : World} {base : Nat} {t : TypeId} {v : Value} {xs : List Nat} (h : w.ownsRow base t 1 v xs.length (u32s xs)) : U32 w v xs := U32.of_own h
set_option maxRecDepth 100000 in
set_option maxHeartbeats 1000000 in
theorem power_any (neg : Bool) (xs : List Nat) (V : Value) (n : Int) (w : World) (h : IntArg w V neg xs) (hm : xs.length ≤ 900000) (ht : PowTab w) (hn1 : -9223372036854775808 ≤ n) (hn2 : n ≤ 9223372036854775807) :
    Calls Tryd.prog 45 #[V, .int .i64 n] w fun e w' => ∃ Q, e = .returned (.tuple #[Q, .int .i64 (powC (cnt neg xs) n)]) ∧ IntRep w' Q (powZ (cnt neg xs) n) ∧ Keeps w w' := by
  obtain ⟨v, rfl, hv⟩ := h
  have hml := mag_length neg xs
  have hkk := keep2 w (.cells #[.bool neg, v] 24) (.cells #[.bool false, .slice none 0 0] 24)
  have hG := Lib.hid (fun W (hW : IntArg W (.agg #[.bool neg, v]) neg xs) => groups_any neg xs (.agg #[.bool neg, v]) W hW (by omega))
  have hR := own2 w (.cells #[.bool neg, v] 24) 24 [.bool false, .slice none 0 0]
  have hA := (Own.new w 24 [.bool neg, v]).alloc (.cells #[.bool false, .slice none 0 0] 24)
  have HC := Lib.hid (show cnt neg xs = sgn neg (mag neg xs) from rfl)
  generalize cnt neg xs = z at *
  generalize mag neg xs = m at *
  go_enter Tryd.func45, Tryd.ntmps45
  go_wp2_with fail
  have g1 := hv.below hkk
  generalize (w.alloc (.cells #[.bool neg, v] 24)).alloc (.cells #[.bool false, .slice none 0 0] 24) = W at *
  refine (hG.out _ ⟨v, rfl, g1⟩).mono ?_
  rintro e w1 ⟨u1, rfl, hu1, hk1⟩
  have hA1 := hA.below hk1
  have hR1 := hR.below hk1
  have k1 := hkk.trans' hk1
  have f0 := hR1.frozen 0
  have f1 := hR1.frozen 1
  have r0 := hR1.c0
  have r1 := hR1.c1
  have a0 := hA1.c0
  have a1 := hA1.c1
  clear hG g1 hk1 hkk hA hR hv
  have kE := (k1.set (p := ⟨w.heap.size + 1, 0, none⟩) (by simp only; omega) (.bool false)).set (p := ⟨w.heap.size + 1, 1, none⟩) (by simp only; omega) (.slice none 0 0)
  by_cases hneg : n < 0
  · have hd : decide (n < 0) = true := decide_eq_true hneg
    have hc : powC z n = 2 := if_pos (.inl hneg)
    have hz : powZ z n = 0 := if_neg (by rw [hc]; decide)
    have HCC := Lib.hid hc
    have HZZ := Lib.hid hz
    clear hc hz
    go_wp2
    have hR4 := hR1.two (.bool false) (.slice none 0 0)
    refine bodyPost_ret (v := .tuple #[.agg #[.bool false, .slice none 0 0], .int .i64 2]) (by simp [results, Tryd.results45, go_sem, hR4.cell 0, hR4.cell 1]) rfl ?_
    exact ⟨_, by rw [HCC.out], by rw [HZZ.out]; exact IntRep.zero _, kE⟩
  · have hd : decide (n < 0) = false := decide_eq_false hneg
    by_cases hbig : 4096 < n
    · have hd2 : decide (4096 < n) = true := decide_eq_true hbig
      have hc : powC z n = 2 := if_pos (.inr hbig)
      have hz : powZ z n = 0 := if_neg (by rw [hc]; decide)
      have HCC := Lib.hid hc
      have HZZ := Lib.hid hz
      clear hc hz
      go_wp2
      have hR4 := hR1.two (.bool false) (.slice none 0 0)
      refine bodyPost_ret (v := .tuple #[.agg #[.bool false, .slice none 0 0], .int .i64 2]) (by simp [results, Tryd.results45, go_sem, hR4.cell 0, hR4.cell 1]) rfl ?_
      exact ⟨_, by rw [HCC.out], by rw [HZZ.out]; exact IntRep.zero _, kE⟩
    · have hd2 : decide (4096 < n) = false := decide_eq_false hbig
      have ez : z.natAbs = m := by rw [HC.out, sgn_natAbs]
      have hdl := dgs_len m
      have hdI : ((dgs m : Nat) : Int) ≤ 9000000 := by omega
      obtain ⟨D, hD⟩ : ∃ D, dgs m = D := ⟨_, rfl⟩
      rw [hD] at hdI
      have hprod : n * (D : Int) ≤ 4096 * 9000000 := Int.mul_le_mul (by omega) hdI (by omega) (by omega)
      have hprod0 : 0 ≤ n * (D : Int) := Int.mul_nonneg (by omega) (by omega)
      have wr1 : IntKind.i64.wrap (n * (D : Int)) = n * (D : Int) := IntWalk.i64_in _ (by omega)
      have hdg := Lib.hid (fun W (k : Keeps w1 W) => digits_any u1 m W (hu1.below k) (by omega) ((ht.keep k1).keep k))
      rw [hD] at hdg
      have HD := Lib.hid hD
      have EZ := Lib.hid ez
      clear hD ez hdl
      by_cases hlong : 20000 < n * (D : Int)
      · have hd3 : decide (20000 < n * (D : Int)) = true := decide_eq_true hlong
        go_wp2_with fail
        refine (hdg.out _ (Below.refl _ _)).mono ?_
        rintro e w2 ⟨rfl, hk2⟩
        have hc : powC z n = 9 := by unfold powC; rw [if_neg (by omega), if_pos (by rw [EZ.out, HD.out]; exact hlong)]
        have hz : powZ z n = 0 := if_neg (by rw [hc]; decide)
        have HCC := Lib.hid hc
        have HZZ := Lib.hid hz
        clear hc hz r0 r1 f0 f1
        have hR2 := hR1.below hk2
        have r0 := hR2.c0
        have r1 := hR2.c1
        have f0 := hR2.frozen 0
        have f1 := hR2.frozen 1
        have kE := ((k1.trans' hk2).set (p := ⟨w.heap.size + 1, 0, none⟩) (by simp only; omega) (.bool false)).set (p := ⟨w.heap.size + 1, 1, none⟩) (by simp only; omega) (.slice none 0 0)
        go_wp2
        have hR4 := hR2.two (.bool false) (.slice none 0 0)
        refine bodyPost_ret (v := .tuple #[.agg #[.bool false, .slice none 0 0], .int .i64 9]) (by simp [results, Tryd.results45, go_sem, hR4.cell 0, hR4.cell 1]) rfl ?_
        exact ⟨_, by rw [HCC.out], by rw [HZZ.out]; exact IntRep.zero _, kE⟩
      · have hd3 : decide (20000 < n * (D : Int)) = false := decide_eq_false hlong
        obtain ⟨N, rfl⟩ := Int.eq_ofNat_of_zero_le (show 0 ≤ n by omega)
        have hND : N * dgs m ≤ 20000 := by rw [HD.out]; have : ((N * D : Nat) : Int) ≤ 20000 := by push_cast; omega
                                           omega
        have hc : powC z N = 0 := by unfold powC; rw [if_neg (by omega), if_neg (by rw [EZ.out, HD.out]; exact hlong)]
        have hz : powZ z N = z ^ N := if_pos hc
        have HCC := Lib.hid hc
        have HZZ := Lib.hid hz
        have HND := Lib.hid hND
        have hN : N ≤ 4096 := by omega
        go_wp2_with fail
        refine (hdg.out _ (Below.refl _ _)).mono ?_
        rintro e w2 ⟨rfl, hk2⟩
        have hA2 := (hA1.below hk2).alloc (.cells #[.int .u32 1] 48)
        have hR2 := (hR1.below hk2).alloc (.cells #[.int .u32 1] 48)
        have hu2 := (hu1.below hk2).below (box2 w2 (.cells #[.int .u32 1] 48))
        have hone : U32 (w2.alloc (.cells #[.int .u32 1] 48)) (.slice (some ⟨w2.heap.size, 0, none⟩) 1 1) (dig 1) := by
          rw [dig_small (by decide) (by decide)]
          exact U32.mk (xs := [1]) (Own.row (xs := [1]) (Own.new w2 48 (u32s [1]))) (Nat.le_refl _) (by simp [maxLen]) (by intro e; cases e)
        have k3 := (k1.trans' hk2).trans' (box2 w2 (.cells #[.int .u32 1] 48))
        clear hND hc hz
        go_wp2
        clear hprod hprod0 wr1 hd hd2 hd3 hlong hneg hbig hdI kE hA1 hR1 hk2 r0 r1 f0 f1 a0 a1 hu1 k1 hdg
        go_loopw [7, 8] (fun o b wr => ∃ k : Nat, k ≤ 13 ∧ b = .int .i64 (bitOf k : Nat) ∧ U32 wr o (dig (m ^ (N / 2 ^ k))) ∧ Own wr w.heap.size 24 [.bool neg, v] ∧ Own wr (w.heap.size + 1) 24 [.bool false, .slice none 0 0] ∧ U32 wr u1 (dig m) ∧ Keeps w wr) (fun _ b _ => (intOf b).toNat)
        case atStart => exact ⟨13, Nat.le_refl _, rfl, by rw [Nat.div_eq_of_lt (by omega)]; exact hone, hA2, hR2, hu2, k3⟩
        case round =>
          clear hone hA2 hR2 hu2 k3
          obtain ⟨k, hk, rfl, hu, hA2, hR2, hu2, k3⟩ := hrel
          match k, hk with
          | 0, _ =>
            rw [show bitOf 0 = 0 from rfl]
            have r0 := hA2.c0
            have r1 := hA2.c1
            have r2 := hR2.c0
            have r3 := hR2.c1
            have f0 := hR2.frozen 0
            have f1 := hR2.frozen 1
            rw [show N / 2 ^ 0 = N by simp] at hu
            have hem : z ^ N = sgn (neg && decide (N % 2 = 1)) (m ^ N) := by rw [HC.out]; exact sgn_pow neg m N
            have HEM := Lib.hid hem
            clear hem
            have hmod : ((N : Int).tmod 2) = ((N % 2 : Nat) : Int) := by rw [Int.natCast_emod]; exact IntWalk.rem_in _ _ (by omega)
            obtain ⟨R, hRR⟩ : ∃ R, N % 2 = R := ⟨_, rfl⟩
            rw [hRR] at hmod
            have hmod2 : (N : Int) % 2 = (R : Int) := by omega
            have HRR := Lib.hid hRR
            clear hRR
            cases neg
            · go_wp2_with fail
              refine (made_d false _ (m ^ N) _ hu).mono ?_
              rintro e w5 ⟨V5, rfl, hr5, hk5⟩
              rw [show sgn false (m ^ N) = z ^ N by rw [HEM.out]; rfl] at hr5
              have hR5 := hR2.below hk5
              have k5 := k3.trans' hk5
              obtain ⟨A5, n5, c5, rfl, -⟩ := hr5.open_
              clear r2 r3 f0 f1
              have r2 := hR5.c0
              have r3 := hR5.c1
              have f0 := hR5.frozen 0
              have f1 := hR5.frozen 1
              have hx5 := hr5.two (x' := .bool (decide (z ^ N < 0))) (y' := .slice A5 n5 c5) hR5 rfl rfl rfl
              generalize decide (z ^ N < 0) = d5 at *
              have kE := (k5.set (p := ⟨w.heap.size + 1, 0, none⟩) (by simp only; omega) (.bool d5)).set (p := ⟨w.heap.size + 1, 1, none⟩) (by simp only; omega) (.slice A5 n5 c5)
              go_wp2
              have hR4 := hR5.two (.bool d5) (.slice A5 n5 c5)
              refine bodyPost_ret (v := .tuple #[.agg #[.bool d5, .slice A5 n5 c5], .int .i64 0]) (by simp [results, Tryd.results45, go_sem, hR4.cell 0, hR4.cell 1]) rfl ?_
              exact ⟨_, by rw [HCC.out], by rw [HZZ.out]; exact hx5, kE⟩
            · obtain ⟨sg, hs1⟩ : ∃ sg, ((R : Int) == 1) = sg := ⟨_, rfl⟩
              have hs2 : decide (N % 2 = 1) = sg := by
                rw [← hs1, HRR.out, Bool.eq_iff_iff]
                simp
                omega
              rw [hs2] at HEM
              clear hs2
              go_wp2_with fail
              refine (made_d sg _ (m ^ N) _ hu).mono ?_
              rintro e w5 ⟨V5, rfl, hr5, hk5⟩
              rw [show sgn sg (m ^ N) = z ^ N by rw [HEM.out]; rfl] at hr5
              have hR5 := hR2.below hk5
              have k5 := k3.trans' hk5
              obtain ⟨A5, n5, c5, rfl, -⟩ := hr5.open_
              clear r2 r3 f0 f1
              have r2 := hR5.c0
              have r3 := hR5.c1
              have f0 := hR5.frozen 0
              have f1 := hR5.frozen 1
              have hx5 := hr5.two (x' := .bool (decide (z ^ N < 0))) (y' := .slice A5 n5 c5) hR5 rfl rfl rfl
              generalize decide (z ^ N < 0) = d5 at *
              have kE := (k5.set (p := ⟨w.heap.size + 1, 0, none⟩) (by simp only; omega) (.bool d5)).set (p := ⟨w.heap.size + 1, 1, none⟩) (by simp only; omega) (.slice A5 n5 c5)
              go_wp2
              have hR4 := hR5.two (.bool d5) (.slice A5 n5 c5)
              refine bodyPost_ret (v := .tuple #[.agg #[.bool d5, .slice A5 n5 c5], .int .i64 0]) (by simp [results, Tryd.results45, go_sem, hR4.cell 0, hR4.cell 1]) rfl ?_
              exact ⟨_, by rw [HCC.out], by rw [HZZ.out]; exact hx5, kE⟩
          | k + 1, hk =>
            have hb1 := bitOf_pos k
            have hb2 := bitOf_le hk
            have hb3 := bitOf_half k
            have hpr := pow_round m N k
            have hpos : (0 : Int) < ((bitOf (k + 1) : Nat) : Int) := by omega
            have hand := bits_and_i64_nat N (bitOf (k + 1)) (by omega) (by omega)
            have hdiv2 := Nat.div_le_self N (2 ^ k)
            have hl0 : (dig (m ^ (N / 2 ^ (k + 1)))).length ≤ 2300 := pow_len m _ N (Nat.div_le_self _ _) HND.out
            have hst := bit_step N k
            have hl1 : (dig (m ^ (N / 2 ^ (k + 1)) * m ^ (N / 2 ^ (k + 1)))).length ≤ 2300 := pow_len2 m _ N (by omega) HND.out
            clear hst hdiv2
            obtain ⟨B, hB⟩ : ∃ B, bitOf (k + 1) = B := ⟨_, rfl⟩
            rw [hB] at hb1 hb2 hb3 hpr hpos hand ⊢
            have hbI : (B : Int) ≤ 4096 := by omega
            have HB3 := Lib.hid hb3
            have HPR := Lib.hid hpr
            have HL0 := Lib.hid hl0
            have HL1 := Lib.hid hl1
            clear hb3 hpr hB hb1 hl0 hl1 hb2
            by_cases hz : N &&& B = 0
            · have hbit : ((bits BinOp.and IntKind.i64 (N : Int) (B : Int)) != 0) = false := by rw [hand, hz]; rfl
              have HZ := Lib.hid hz
              clear hz hand
              go_wp2_with fail
              refine (times_any _ _ _ _ _ hu hu (by have := HL0.out; omega) (by have := HL0.out; omega)).mono ?_
              rintro e w4 ⟨o4, rfl, ho4, hk4⟩
              go_wp2
              go_roundw
              case rel => exact ⟨k, by omega, by rw [← HB3.out]; go_num, by rw [HPR.out, if_pos HZ.out]; exact U32.of_own ho4, hA2.below hk4, hR2.below hk4, hu2.below hk4, k3.trans' hk4⟩
              case measure => simp [intOf]; omega
            · have hbit : ((bits BinOp.and IntKind.i64 (N : Int) (B : Int)) != 0) = true := by rw [hand]; simp; omega
              have HZ := Lib.hid hz
              clear hz hand
              go_wp2_with fail
              refine (times_any _ _ _ _ _ hu hu (by have := HL0.out; omega) (by have := HL0.out; omega)).mono ?_
              rintro e w4 ⟨o4, rfl, ho4, hk4⟩
              go_wp2_with fail
              refine (times_any _ _ _ _ _ (U32.of_own ho4) (hu2.below hk4) (by have := HL1.out; omega) (by omega)).mono ?_
              rintro e w5 ⟨o5, rfl, ho5, hk5⟩
              have hk45 := hk4.trans' hk5
              go_wp2
              go_roundw
              case rel => exact ⟨k, by omega, by rw [← HB3.out]; go_num, by rw [HPR.out, if_neg HZ.out]; exact U32.of_own ho5, hA2.below hk45, hR2.below hk45, hu2.below hk45, k3.trans' hk45⟩
              case measure => simp [intOf]; omega
end Go.Proofs.YthgbgoidnnfapaaDoor

namespace Go.Proofs.YthgbgoidnnfapaaDoor
open Go.RowKit Go.Shelf

theorem lenI_pow (z : Int) (i n : Nat) (hi : i ≤ n) (h : n * dgs z.natAbs ≤ 20000) : lenI (z ^ i) ≤ 2300 := by
  unfold lenI
  rw [Int.natAbs_pow]
  exact pow_len _ i n hi h
/-- a box that is written over -/
theorem IntRep.rebox {w : World} {B : Nat} {t : TypeId} {x y : Value} {b : Bool} {A : Option Addr} {n c : Nat} {z : Int} (h : IntRep w (.agg #[.bool b, .slice A n c]) z) (hB : Own w B t [x, y]) (hx : noU32 x = true) (hy : noU32 y = true) :
    IntRep ((w.setCell ⟨B, 0, none⟩ (.bool b)).setCell ⟨B, 1, none⟩ (.slice A n c)) (.agg #[.bool b, .slice A n c]) z := h.two hB hx hy rfl

theorem IntNum.two {w : World} {V : Value} {z : Int} {R : Nat} {t : TypeId} {x y x' y' : Value} (h : IntNum w V z) (hR : Own w R t [x, y]) (hx : noU32 x = true) (hy : noU32 y = true) (hx' : noU32 x' = true) :
    IntNum ((w.setCell ⟨R, 0, none⟩ x').setCell ⟨R, 1, none⟩ y') V z := by
  obtain ⟨neg, xs, ⟨v, rfl, hv⟩, e, l⟩ := h
  exact ⟨neg, xs, ⟨v, rfl, hv.two hR hx hy hx'⟩, e, l⟩
set_option maxRecDepth 100000 in
set_option maxHeartbeats 1000000 in
theorem rpower_any (neg : Bool) (xs : List Nat) (V : Value) (n : Int) (w : World) (h : IntArg w V neg xs) (hm : xs.length ≤ 900000) (hn1 : -9223372036854775808 ≤ n) (hn2 : n ≤ 9223372036854775807) :
    Calls Tryd.prog 46 #[V, .int .i64 n] w fun e w' => ∃ Q, e = .returned (.tuple #[Q, .int .i64 (powC (cnt neg xs) n)]) ∧ IntRep w' Q (powZ (cnt neg xs) n) ∧ Keeps w w' := by
  obtain ⟨v, rfl, hv⟩ := h
  have hml := mag_length neg xs
  have hkk := keep2 w (.cells #[.bool neg, v] 24) (.cells #[.bool false, .slice none 0 0] 24)
  have hG := Lib.hid (fun W (hW : IntArg W (.agg #[.bool neg, v]) neg xs) => rdigits_any neg xs (.agg #[.bool neg, v]) W hW (by omega))
  have hR := own2 w (.cells #[.bool neg, v] 24) 24 [.bool false, .slice none 0 0]
  have hA := (Own.new w 24 [.bool neg, v]).alloc (.cells #[.bool false, .slice none 0 0] 24)
  have g1 : IntArg _ (.agg #[.bool neg, v]) neg xs := ⟨v, rfl, hv.below hkk⟩
  have gn : IntNum _ (.agg #[.bool neg, v]) (cnt neg xs) := ⟨neg, xs, g1, rfl, hm⟩
  have hnv := hv.noU
  have ea := cnt_abs neg xs
  generalize cnt neg xs = z at *
  generalize mag neg xs = m at *
  have EZ := Lib.hid ea
  clear ea
  have k1 := hkk
  have hA1 := hA
  have hR1 := hR
  generalize hW : (w.alloc (.cells #[.bool neg, v] 24)).alloc (.cells #[.bool false, .slice none 0 0] 24) = W at *
  have f0 := hR1.frozen 0
  have f1 := hR1.frozen 1
  have r0 := hR1.c0
  have r1 := hR1.c1
  have a0 := hA1.c0
  have a1 := hA1.c1
  clear hA hR hv hkk
  have kE := (k1.set (p := ⟨w.heap.size + 1, 0, none⟩) (by simp only; omega) (.bool false)).set (p := ⟨w.heap.size + 1, 1, none⟩) (by simp only; omega) (.slice none 0 0)
  by_cases hneg : n < 0
  · have hd : decide (n < 0) = true := decide_eq_true hneg
    have hc : powC z n = 2 := if_pos (.inl hneg)
    have hz : powZ z n = 0 := if_neg (by rw [hc]; decide)
    have HCC := Lib.hid hc
    have HZZ := Lib.hid hz
    clear hc hz
    go_enter Tryd.func46, Tryd.ntmps46
    go_wp2
    have hR4 := hR1.two (.bool false) (.slice none 0 0)
    refine bodyPost_ret (v := .tuple #[.agg #[.bool false, .slice none 0 0], .int .i64 2]) (by simp [results, Tryd.results46, go_sem, hR4.cell 0, hR4.cell 1]) rfl ?_
    exact ⟨_, by rw [HCC.out], by rw [HZZ.out]; exact IntRep.zero _, kE⟩
  · have hd : decide (n < 0) = false := decide_eq_false hneg
    by_cases hbig : 4096 < n
    · have hd2 : decide (4096 < n) = true := decide_eq_true hbig
      have hc : powC z n = 2 := if_pos (.inr hbig)
      have hz : powZ z n = 0 := if_neg (by rw [hc]; decide)
      have HCC := Lib.hid hc
      have HZZ := Lib.hid hz
      clear hc hz
      go_enter Tryd.func46, Tryd.ntmps46
      go_wp2
      have hR4 := hR1.two (.bool false) (.slice none 0 0)
      refine bodyPost_ret (v := .tuple #[.agg #[.bool false, .slice none 0 0], .int .i64 2]) (by simp [results, Tryd.results46, go_sem, hR4.cell 0, hR4.cell 1]) rfl ?_
      exact ⟨_, by rw [HCC.out], by rw [HZZ.out]; exact IntRep.zero _, kE⟩
    · have hd2 : decide (4096 < n) = false := decide_eq_false hbig
      have hdl := dgs_len m
      have hdI : ((dgs m : Nat) : Int) ≤ 9000000 := by omega
      obtain ⟨D, hD⟩ : ∃ D, dgs m = D := ⟨_, rfl⟩
      rw [hD] at hdI
      have hprod : n * (D : Int) ≤ 4096 * 9000000 := Int.mul_le_mul (by omega) hdI (by omega) (by omega)
      have hprod0 : 0 ≤ n * (D : Int) := Int.mul_nonneg (by omega) (by omega)
      have wr1 : IntKind.i64.wrap (n * (D : Int)) = n * (D : Int) := IntWalk.i64_in _ (by omega)
      have hdg := Lib.hid (hG.out _ g1)
      rw [hD] at hdg
      have HD := Lib.hid hD
      clear hD hdl hG
      by_cases hlong : 20000 < n * (D : Int)
      · have hd3 : decide (20000 < n * (D : Int)) = true := decide_eq_true hlong
        have hc : powC z n = 9 := by unfold powC; rw [if_neg (by omega), if_pos (by rw [EZ.out, HD.out]; exact hlong)]
        have hz : powZ z n = 0 := if_neg (by rw [hc]; decide)
        have HCC := Lib.hid hc
        have HZZ := Lib.hid hz
        clear hc hz
        go_enter Tryd.func46, Tryd.ntmps46
        go_wp2_with fail
        refine hdg.out.mono ?_
        rintro e w2 ⟨rfl, hk2⟩
        clear r0 r1 f0 f1 kE a0 a1
        replace hR1 := hR1.below hk2
        have r0 := hR1.c0
        have r1 := hR1.c1
        have f0 := hR1.frozen 0
        have f1 := hR1.frozen 1
        have kE := ((k1.trans' hk2).set (p := ⟨w.heap.size + 1, 0, none⟩) (by simp only; omega) (.bool false)).set (p := ⟨w.heap.size + 1, 1, none⟩) (by simp only; omega) (.slice none 0 0)
        go_wp2
        have hR4 := hR1.two (.bool false) (.slice none 0 0)
        refine bodyPost_ret (v := .tuple #[.agg #[.bool false, .slice none 0 0], .int .i64 9]) (by simp [results, Tryd.results46, go_sem, hR4.cell 0, hR4.cell 1]) rfl ?_
        exact ⟨_, by rw [HCC.out], by rw [HZZ.out]; exact IntRep.zero _, kE⟩
      · have hd3 : decide (20000 < n * (D : Int)) = false := decide_eq_false hlong
        obtain ⟨N, rfl⟩ := Int.eq_ofNat_of_zero_le (show 0 ≤ n by omega)
        have hND : N * dgs m ≤ 20000 := by rw [HD.out]; have : ((N * D : Nat) : Int) ≤ 20000 := by push_cast; omega
                                           omega
        have hc : powC z N = 0 := by unfold powC; rw [if_neg (by omega), if_neg (by rw [EZ.out, HD.out]; exact hlong)]
        have hz : powZ z N = z ^ N := if_pos hc
        have HCC := Lib.hid hc
        have HZZ := Lib.hid hz
        have HND := Lib.hid hND
        have hN : N ≤ 4096 := by omega
        clear hND hc hz
        go_enter Tryd.func46, Tryd.ntmps46
        go_wp2_with fail
        clear hW
        refine hdg.out.mono ?_
        rintro e w2 ⟨rfl, hk2⟩
        go_wp2_with fail
        refine (rof_any 1 w2 (by omega) (by omega)).mono ?_
        rintro e w3 ⟨V3, rfl, hr3, hk3⟩
        obtain ⟨A3, n3, c3, rfl, -⟩ := hr3.open_
        have hk23 := hk2.trans' hk3
        have hk4 := hk23.trans' (box2 w3 (.cells #[.bool (decide ((1 : Int) < 0)), .slice A3 n3 c3] 24))
        have hA2 := hA1.below hk4
        have hR2 := hR1.below hk4
        have g2 := gn.below hk4
        have k3 := k1.trans' hk4
        have hB2 := Own.new w3 24 [.bool (decide ((1 : Int) < 0)), .slice A3 n3 c3]
        have hr4 := hr3.below (box2 w3 (.cells #[.bool (decide ((1 : Int) < 0)), .slice A3 n3 c3] 24))
        have hlt : w.heap.size + 1 < w3.heap.size := by have := (hR1.below hk23).lt; omega
        generalize decide ((1 : Int) < 0) = d3 at *
        go_wp2
        clear hprod hprod0 wr1 hd hd2 hd3 hlong hneg hbig hdI kE hA1 hR1 hk2 r0 r1 f0 f1 a0 a1 k1 hdg hk3 hk23 hk4 g1 gn
        obtain ⟨B, hB⟩ : ∃ B, w3.heap.size = B := ⟨_, rfl⟩
        rw [hB] at hB2 hlt ⊢
        clear hB
        go_loopw [7] (fun i wr => ∃ (k : Nat) (b : Bool) (A : Option Addr) (n c : Nat), k ≤ N ∧ i = .int .i64 (k : Nat) ∧ Own wr B 24 [.bool b, .slice A n c] ∧ IntRep wr (.agg #[.bool b, .slice A n c]) (z ^ k) ∧
            Own wr w.heap.size 24 [.bool neg, v] ∧ Own wr (w.heap.size + 1) 24 [.bool false, .slice none 0 0] ∧ IntNum wr (.agg #[.bool neg, v]) z ∧ Keeps w wr) (fun i _ => N - (intOf i).toNat)
        case atStart => exact ⟨0, d3, A3, n3, c3, by omega, rfl, hB2, by rw [Int.pow_zero]; exact hr4, hA2, hR2, g2, k3⟩
        case round =>
          clear hA2 hR2 g2 k3 hB2 hr4
          obtain ⟨k, b, A, n, c, hk, rfl, hB2, hr4, hA2, hR2, g2, k3⟩ := hrel
          have b0 := hB2.c0
          have b1 := hB2.c1
          by_cases hlt2 : k < N
          · have a0 := hA2.c0
            have a1 := hA2.c1
            go_wp2_with fail
            refine (rmul_num (hr4.num (by have := lenI_pow z k N hk (by rw [EZ.out]; exact HND.out); omega)) g2).mono ?_
            rintro e w4 ⟨V4, rfl, hr5, hk5⟩
            obtain ⟨A4, n4, c4, rfl, -⟩ := hr5.open_
            generalize decide (z ^ k * z < 0) = d4 at *
            have hB5 := hB2.below hk5
            have q0 := hB5.c0
            have q1 := hB5.c1
            have q2 := hB5.frozen 0
            have q3 := hB5.frozen 1
            go_wp2
            go_roundw
            case rel => exact ⟨k + 1, d4, A4, n4, c4, by omega, by go_num, hB5.two _ _, by rw [Int.pow_succ]; exact hr5.rebox hB5 rfl rfl, (hA2.below hk5).far2 (by omega), (hR2.below hk5).far2 (by omega), (g2.below hk5).two hB5 rfl rfl rfl, ((k3.trans' hk5).set (p := ⟨B, 0, none⟩) (by simp only; omega) _).set (p := ⟨B, 1, none⟩) (by simp only; omega) _⟩
            case measure => simp [intOf]; omega
          · obtain rfl : k = N := by omega
            have r0 := hR2.c0
            have r1 := hR2.c1
            have f0 := hR2.frozen 0
            have f1 := hR2.frozen 1
            have kE := (k3.set (p := ⟨w.heap.size + 1, 0, none⟩) (by simp only; omega) (.bool b)).set (p := ⟨w.heap.size + 1, 1, none⟩) (by simp only; omega) (.slice A n c)
            go_wp2
            have hR4 := hR2.two (.bool b) (.slice A n c)
            refine bodyPost_ret (v := .tuple #[.agg #[.bool b, .slice A n c], .int .i64 0]) (by simp [results, Tryd.results46, go_sem, hR4.cell 0, hR4.cell 1]) rfl ?_
            exact ⟨_, by rw [HCC.out], by rw [HZZ.out]; exact hr4.rebox hR2 rfl rfl, kE⟩
end Go.Proofs.YthgbgoidnnfapaaDoor

namespace Go.Proofs.YthgbgoidnnfapaaDoor

theorem sq_nonneg' (x : Int) : 0 ≤ x * x := by
  rcases Int.le_total 0 x with h | h
  · exact Int.mul_nonneg h h
  · exact Int.mul_nonneg_of_nonpos_of_nonpos h h
/-- a step from any positive number stays above the root -/
theorem newton_above (a r : Nat) (hr : 0 < r) : a < ((r + a / r) / 2 + 1) * ((r + a / r) / 2 + 1) := by
  have h1 : a < (a / r + 1) * r := by have := Nat.div_add_mod a r; have := Nat.mod_lt a hr; rw [Nat.add_mul, Nat.mul_comm (a / r) r]; omega
  generalize a / r = q at *
  have h2 : r + q + 1 ≤ 2 * ((r + q) / 2 + 1) := by omega
  generalize (r + q) / 2 + 1 = n at *
  have h3 := sq_nonneg' ((r : Int) - (q + 1))
  have h4 : (r + q + 1) * (r + q + 1) ≤ (2 * n) * (2 * n) := Nat.mul_le_mul h2 h2
  have h5 : 4 * ((q + 1) * r) ≤ (r + q + 1) * (r + q + 1) := by
    have : (4 * (((q : Int) + 1) * r)) ≤ ((r : Int) + q + 1) * (r + q + 1) := by grind
    exact_mod_cast this
  have h6 : (2 * n) * (2 * n) = 4 * (n * n) := by grind
  omega
/-- where the step does not lower the number, its square is not greater -/
theorem newton_stop (a r : Nat) (h : r ≤ (r + a / r) / 2) : r * r ≤ a := by
  have h1 : r ≤ a / r := by omega
  exact Nat.le_trans (Nat.mul_le_mul_right r h1) (Nat.div_mul_le_self a r)
theorem newton_pos (a r : Nat) (ha : 0 < a) (hr : 0 < r) : 0 < (r + a / r) / 2 := by
  have h := newton_above a r hr
  generalize (r + a / r) / 2 = n at *
  rcases Nat.eq_zero_or_pos n with h0 | h0
  · subst h0; omega
  · exact h0
/-- the root of an integer; 0 where it is negative -/
def IsRoot (z : Int) (s : Nat) : Prop := if z < 0 then s = 0 else (s : Int) * s ≤ z ∧ z < ((s : Int) + 1) * (s + 1)
theorem root_unique {z : Int} {s t : Nat} (h1 : IsRoot z s) (h2 : IsRoot z t) : s = t := by
  unfold IsRoot at h1 h2
  split at h1
  · rw [if_pos (by assumption)] at h2; omega
  · rw [if_neg (by assumption)] at h2
    have key : ∀ a b : Nat, (a : Int) * a ≤ z → z < ((b : Int) + 1) * (b + 1) → a ≤ b := by
      intro a b ha hb
      rcases Nat.lt_or_ge b a with h | h
      · have h3 : ((b : Int) + 1) * (b + 1) ≤ (a : Int) * a := Int.mul_le_mul (by omega) (by omega) (by omega) (by omega)
        omega
      · exact h
    have g1 := key s t h1.1 h2.2
    have g2 := key t s h2.1 h1.2
    omega
theorem IsRoot.of_nat {a s : Nat} (h1 : s * s ≤ a) (h2 : a < (s + 1) * (s + 1)) : IsRoot a s := by
  unfold IsRoot
  rw [if_neg (by omega)]
  exact ⟨by exact_mod_cast h1, by exact_mod_cast h2⟩
theorem IsRoot.zero : IsRoot 0 0 := by unfold IsRoot; rw [if_neg (by omega)]; omega
theorem IsRoot.neg {z : Int} (h : z < 0) : IsRoot z 0 := by unfold IsRoot; rw [if_pos h]
/-- the start of Newton's iteration -/
theorem start_val (k : Nat) : val (List.replicate k 0 ++ [1]) = 1000000000 ^ k := by
  rw [val_snoc, val_replicate, List.length_replicate]; omega
theorem start_dig (k : Nat) : dig (1000000000 ^ k) = List.replicate k 0 ++ [1] := by
  have h := dig_of (xs := List.replicate k 0 ++ [1]) ((AllB.replicate k).append (AllB.single (by omega))) (fun _ => by simp [ix])
  rwa [start_val] at h
theorem start_above (a : Nat) : a < (1000000000 ^ (((dig a).length + 1) / 2) + 1) * (1000000000 ^ (((dig a).length + 1) / 2) + 1) := by
  have h := dig_lt a
  generalize (dig a).length = n at *
  have h2 : 1000000000 ^ n ≤ 1000000000 ^ ((n + 1) / 2) * 1000000000 ^ ((n + 1) / 2) := by
    rw [← Nat.pow_add]; exact Nat.pow_le_pow_right (by omega) (by omega)
  generalize 1000000000 ^ ((n + 1) / 2) = r at *
  have h3 : r * r ≤ (r + 1) * (r + 1) := Nat.mul_le_mul (by omega) (by omega)
  omega
end Go.Proofs.YthgbgoidnnfapaaDoor

namespace Go.Proofs.YthgbgoidnnfapaaDoor
open Go.RowKit Go.Shelf

/-- what Root hands back -/
def RootRes (z : Int) (w : World) (e : Ending) (w' : World) : Prop := ∃ Q s, e = .returned (.tuple #[Q, .int .i64 (if z < 0 then 2 else 0)]) ∧ IntRep w' Q ((s : Nat) : Int) ∧ IsRoot z s ∧ Keeps w w'
theorem owns_full {w : World} {base b : Nat} {t : TypeId} {out : List Nat} {N : Nat} (h : Own w b t (u32s out)) (hl : out.length = N) (hb : base ≤ b) (hm : N ≤ maxLen) :
    w.ownsRow base t 1 (.slice (some ⟨b, 0, none⟩) N N) N (u32s out) :=
  ⟨by simp [u32s, hl], .inr ⟨b, N, (u32s out).toArray, rfl, hb, h, Nat.le_refl _, hm, by simp [u32s, hl], by rw [Nat.mul_one]; exact List.take_of_length_le (by simp [u32s, hl])⟩⟩
set_option maxRecDepth 100000 in
set_option maxHeartbeats 1000000 in
theorem root_any (neg : Bool) (xs : List Nat) (V : Value) (w : World) (h : IntArg w V neg xs) (hm : xs.length ≤ 400000) :
    Calls Tryd.prog 42 #[V] w (RootRes (cnt neg xs) w) := by
  obtain ⟨i0, hi, hz0, hz1, hz2⟩ := info_parts info_u32
  obtain ⟨v, rfl, hv⟩ := h
  have hml := mag_length neg xs
  have hkk := keep2 w (.cells #[.bool neg, v] 24) (.cells #[.bool false, .slice none 0 0] 24)
  have hG := Lib.hid (fun W (hW : IntArg W (.agg #[.bool neg, v]) neg xs) => groups_any neg xs (.agg #[.bool neg, v]) W hW (by omega))
  have hR := own2 w (.cells #[.bool neg, v] 24) 24 [.bool false, .slice none 0 0]
  have hA := (Own.new w 24 [.bool neg, v]).alloc (.cells #[.bool false, .slice none 0 0] 24)
  have hnv := hv.noU
  have HC := Lib.hid (show cnt neg xs = sgn neg (mag neg xs) from rfl)
  generalize cnt neg xs = z at *
  generalize mag neg xs = a at *
  go_enter Tryd.func42, Tryd.ntmps42
  go_wp2_with fail
  have g1 := hv.below hkk
  generalize (w.alloc (.cells #[.bool neg, v] 24)).alloc (.cells #[.bool false, .slice none 0 0] 24) = W at *
  refine (hG.out _ ⟨v, rfl, g1⟩).mono ?_
  rintro e w1 ⟨u1, rfl, hu1, hk1⟩
  obtain ⟨A, n, c, rfl, e1, -⟩ := hu1.open_
  have hA1 := hA.below hk1
  have hRE := hR.below hk1
  have kE := hkk.trans' hk1
  have f0 := hRE.frozen 0
  have f1 := hRE.frozen 1
  have r0 := hRE.c0
  have r1 := hRE.c1
  have a0 := hA1.c0
  have a1 := hA1.c1
  clear hG g1 hk1 hkk hA hR hv
  by_cases ha : a = 0
  · subst ha
    have hz : z = 0 := by rw [HC.out, sgn_zero]
    have HCC := Lib.hid (show (if z < 0 then (2 : Int) else 0) = 0 by rw [hz]; rfl)
    have HZ := Lib.hid hz
    obtain rfl : n = 0 := by rw [dig_zero] at e1; simpa using e1.symm
    clear e1 hz
    go_wp2
    have hR4 := hRE.two (.bool false) (.slice none 0 0)
    refine bodyPost_ret (v := .tuple #[.agg #[.bool false, .slice none 0 0], .int .i64 0]) (by simp [results, Tryd.results42, go_sem, hR4.cell 0, hR4.cell 1]) rfl ?_
    exact ⟨_, 0, by rw [HCC.out], IntRep.zero _, by rw [HZ.out]; exact IsRoot.zero, (kE.set (p := ⟨w.heap.size + 1, 0, none⟩) (by simp only; omega) _).set (p := ⟨w.heap.size + 1, 1, none⟩) (by simp only; omega) _⟩
  · have hn := dig_length_pos.2 ha
    rw [e1] at hn
    have hn0 : ((n : Int) == 0) = false := by simp; omega
    cases neg with
    | true =>
      have hz : z < 0 := by rw [HC.out]; simp [sgn]; omega
      have HCC := Lib.hid (show (if z < 0 then (2 : Int) else 0) = 2 by rw [if_pos hz])
      have HZ := Lib.hid hz
      clear e1 hz
      go_wp2
      have hR4 := hRE.two (.bool false) (.slice none 0 0)
      refine bodyPost_ret (v := .tuple #[.agg #[.bool false, .slice none 0 0], .int .i64 2]) (by simp [results, Tryd.results42, go_sem, hR4.cell 0, hR4.cell 1]) rfl ?_
      exact ⟨_, 0, by rw [HCC.out], IntRep.zero _, IsRoot.neg HZ.out, (kE.set (p := ⟨w.heap.size + 1, 0, none⟩) (by simp only; omega) _).set (p := ⟨w.heap.size + 1, 1, none⟩) (by simp only; omega) _⟩
    | false =>
      have hz : z = (a : Int) := by rw [HC.out]; rfl
      have HCC := Lib.hid (show (if z < 0 then (2 : Int) else 0) = 0 by rw [if_neg (by omega)])
      have HZ := Lib.hid hz
      obtain ⟨k, hk⟩ : ∃ k, (n + 1) / 2 = k := ⟨_, rfl⟩
      have hkl : k ≤ 400000 := by omega
      have hmk := make_u32 (((n : Int) + 1) / 2) k (by omega) (by omega)
      have hst := start_above a
      have hsd := start_dig k
      rw [e1, hk] at hst
      have HST := Lib.hid hst
      have HSD := Lib.hid hsd
      have HE := Lib.hid e1
      have hnI : (n : Int) ≤ 400000 := by omega
      have hrow := owns_full (base := w1.heap.size) (N := k) (Own.new w1 48 (u32s (List.replicate k 0))) (by simp) (Nat.le_refl _) (by simp only [maxLen]; omega)
      clear hz hst hsd e1 hk
      have hnc := newcell (w1.alloc (.cells (u32s (List.replicate k 0)).toArray 48)) (.int .u32 1) 48
      rw [World.size_alloc] at hnc
      have hk2 : Keeps w1 ((w1.alloc (.cells (u32s (List.replicate k 0)).toArray 48)).alloc (.cells #[.int .u32 1] 48)) := keep2 _ _ _
      go_wp2_with (at_builtin; refine wpList_append_own _ rfl _ _ 22 rfl w1.heap.size 48 i0 (.int .u32 0) 1 4 Tryd.underlying22 hi hz0 hz1 hz2 rfl (by decide) _ _ _ rfl (hrow.alloc _) ⟨w1.heap.size + 1, 0, none⟩ 1 1 [.int .u32 1] rfl rfl hnc (by simp [Value.oneCell']) (by simp only [maxLen]; omega) (by omega) (by simp; omega) ?_; intro v' w2 hown' hgrow _)
      rw [u32s_snoc (List.replicate k 0) 1 (z := 1) rfl, ← HSD.out] at hown'
      have hk3 : Keeps w1 w2 := hk2.grown hgrow (by simp; omega) (fun b e => by cases e; exact Nat.le_refl _)
      have hv' := U32.of_own hown'
      have hu2 := hu1.below hk3
      have hR2 := hRE.below hk3
      have k2 := kE.trans' hk3
      clear hmk hown' hgrow hrow hnc hk2 hk3 hA1 hRE f0 f1 r0 r1 a0 a1 hu1 kE
      go_loopg [5] (1000000000 ^ k) (fun m o wr => ∃ r : Nat, r = m ∧ 0 < r ∧ r ≤ 1000000000 ^ k ∧ a < (r + 1) * (r + 1) ∧ U32 wr o (dig r) ∧ U32 wr (.slice A n c) (dig a) ∧ Own wr (w.heap.size + 1) 24 [.bool false, .slice none 0 0] ∧ Keeps w wr)
      case atStart => exact ⟨_, rfl, Nat.pow_pos (by omega), Nat.le_refl _, HST.out, hv', hu2, hR2, k2⟩
      case round =>
        clear hv' hu2 hR2 k2
        obtain ⟨r, rfl, hr0, hrk, har, hur, hua, hR2, k2⟩ := hrel
        have hlr : (dig r).length ≤ 400001 := by
          have h1 := dig_length_mono hrk
          rw [HSD.out] at h1
          simp at h1
          omega
        have hla : (dig a).length ≤ 400000 := by rw [HE.out]; omega
        have hab := newton_above a r hr0
        have hpo := newton_pos a r (by omega) hr0
        have hst := newton_stop a r
        have hlq : (dig (a / r)).length ≤ 400000 := Nat.le_trans (dig_length_mono (Nat.div_le_self a r)) hla
        have hls := dig_length_add r (a / r)
        have hnx : (r + a / r) / 2 ≤ r + a / r := Nat.div_le_self _ _
        have hln := dig_length_mono hnx
        obtain ⟨N, hN⟩ : ∃ N, (r + a / r) / 2 = N := ⟨_, rfl⟩
        rw [hN] at hab hpo hst hln
        have HN := Lib.hid hN
        have HR0 := Lib.hid hr0
        have HRK := Lib.hid hrk
        have HAR := Lib.hid har
        have HAB := Lib.hid hab
        have HPO := Lib.hid hpo
        have HS := Lib.hid hst
        obtain ⟨s, hs⟩ : ∃ s, ((N : Int) - r).sign = s := ⟨_, rfl⟩
        have hL := lt_sign N r
        rw [hs] at hL
        have hcm := Lib.hid (fun W (v1 v2 : Value) (h1 : U32 W v1 (dig N)) (h2 : U32 W v2 (dig r)) => mcmp_s h1 h2 (by omega) (by omega) hs)
        clear hN hr0 hrk har hab hpo hst hnx hs
        rcases hL with ⟨hL, hs2⟩ | ⟨hL, hs2⟩
        · have hd2 : decide (0 ≤ s) = false := decide_eq_false (by omega)
          have HL := Lib.hid hL
          clear hL
          go_wp2_with fail
          refine (over_any _ _ a r _ hua hur (by omega) (by omega) (by have := HR0.out; omega)).mono ?_
          rintro e w3 ⟨q3, r3, rfl, hq3, -, hk3⟩
          go_wp2_with fail
          refine (plus_d _ _ r (a / r) _ (hur.below hk3) hq3 (by omega) (by omega)).mono ?_
          rintro e w4 ⟨p4, rfl, hp4, hk4⟩
          go_wp2_with fail
          refine (mshort_any _ (r + a / r) 2 _ hp4 (by omega) (by omega) (by omega)).mono ?_
          rintro e w6 ⟨n6, rfl, hn6, hk5⟩
          rw [HN.out] at hn6
          have k6 := (hk3.trans' hk4).trans' hk5
          go_wp2_with fail
          refine (hcm.out _ _ _ hn6 (hur.below k6)).mono ?_
          rintro e w7 ⟨rfl, hk6⟩
          have kk := k6.trans' hk6
          go_wp2
          go_roundg N
          case measure => exact HL.out
          case rel => exact ⟨N, rfl, HPO.out, Nat.le_trans (Nat.le_of_lt HL.out) HRK.out, HAB.out, hn6.below hk6, hua.below kk, hR2.below kk, k2.trans' kk⟩
        · have hd2 : decide (0 ≤ s) = true := decide_eq_true hs2
          have HL := Lib.hid hL
          clear hL
          go_wp2_with fail
          refine (over_any _ _ a r _ hua hur (by omega) (by omega) (by have := HR0.out; omega)).mono ?_
          rintro e w3 ⟨q3, r3, rfl, hq3, -, hk3⟩
          go_wp2_with fail
          refine (plus_d _ _ r (a / r) _ (hur.below hk3) hq3 (by omega) (by omega)).mono ?_
          rintro e w4 ⟨p4, rfl, hp4, hk4⟩
          go_wp2_with fail
          refine (mshort_any _ (r + a / r) 2 _ hp4 (by omega) (by omega) (by omega)).mono ?_
          rintro e w6 ⟨n6, rfl, hn6, hk5⟩
          rw [HN.out] at hn6
          have k6 := (hk3.trans' hk4).trans' hk5
          go_wp2_with fail
          refine (hcm.out _ _ _ hn6 (hur.below k6)).mono ?_
          rintro e w7 ⟨rfl, hk6⟩
          have kk := k6.trans' hk6
          go_wp2_with fail
          refine (made_d false _ r _ (hur.below kk)).mono ?_
          rintro e w8 ⟨V8, rfl, hr8, hk8⟩
          obtain ⟨A8, n8, c8, rfl, -⟩ := hr8.open_
          rw [show sgn false r = (r : Int) from rfl] at hr8
          have hd9 : decide (sgn false r < 0) = false := decide_eq_false (by simp [sgn])
          rw [hd9]
          have hdg : decide ((r : Int) < 0) = false := decide_eq_false (by omega)
          rw [hdg] at hr8
          clear hd9 hdg
          have kk8 := kk.trans' hk8
          have hR8 := hR2.below kk8
          have r0 := hR8.c0
          have r1 := hR8.c1
          have f0 := hR8.frozen 0
          have f1 := hR8.frozen 1
          go_wp2
          have hR4 := hR8.two (.bool false) (.slice A8 n8 c8)
          refine bodyPost_ret (v := .tuple #[.agg #[.bool false, .slice A8 n8 c8], .int .i64 0]) (by simp [results, Tryd.results42, go_sem, hR4.cell 0, hR4.cell 1]) rfl ?_
          exact ⟨_, r, by rw [HCC.out], hr8.two hR8 rfl rfl rfl, by rw [HZ.out]; exact IsRoot.of_nat (HS.out HL.out) HAR.out, ((k2.trans' kk8).set (p := ⟨w.heap.size + 1, 0, none⟩) (by simp only; omega) _).set (p := ⟨w.heap.size + 1, 1, none⟩) (by simp only; omega) _⟩
end Go.Proofs.YthgbgoidnnfapaaDoor

namespace Go.Proofs.YthgbgoidnnfapaaDoor
open Go.RowKit Go.Shelf

theorem rlog_s {w : World} {V : Value} {x s : Int} (h : IntNum w V x) (e : log2 x.natAbs = s) : Calls Tryd.prog 37 #[V] w fun e w' => e = .returned (.int .i64 s) ∧ Keeps w w' := by subst e; exact rlog_num x V w h
theorem dgs_two : dgs 2 = 1 := by
  unfold dgs
  rw [if_neg (by omega), Lib.nDigits_small (by omega)]
/-- a power of two, of an exponent that is not too great -/
theorem rpower_two {w : World} {V : Value} {L : Int} (h : IntRep w V 2) (h0 : 0 ≤ L) (h1 : L ≤ 6000) : Calls Tryd.prog 46 #[V, .int .i64 (L / 2 + 1)] w fun e w' => ∃ Q, e = .returned (.tuple #[Q, .int .i64 0]) ∧ IntRep w' Q (2 ^ (L / 2 + 1).toNat) ∧ Keeps w w' := by
  have hl : (dig (2 : Int).natAbs).length ≤ 1 := dig_length_le (by decide)
  have := rpower_any _ _ V (L / 2 + 1) w h.arg (by omega) (by omega) (by omega)
  rw [cnt_rep] at this
  have hc : powC 2 (L / 2 + 1) = 0 := by
    unfold powC
    rw [if_neg (by omega), show dgs (2 : Int).natAbs = 1 from dgs_two, if_neg (by omega)]
  rwa [hc, show powZ 2 (L / 2 + 1) = 2 ^ (L / 2 + 1).toNat from if_pos hc] at this
/-- a power of two above the root -/
theorem start_high (z : Int) (hz : 0 ≤ z) (L : Int) (hL : log2 z.natAbs = L) (h : 0 < L) : z < 2 ^ (L / 2 + 1).toNat * 2 ^ (L / 2 + 1).toNat := by
  obtain ⟨m, rfl⟩ := Int.eq_ofNat_of_zero_le hz
  have hm : m ≠ 0 := by intro e; subst e; simp [log2] at hL; omega
  rw [show ((m : Int)).natAbs = m from rfl, log2_pos hm] at hL
  have h2 := Nat.lt_log2_self (n := m)
  obtain ⟨k, rfl⟩ := Int.eq_ofNat_of_zero_le (show 0 ≤ L by omega)
  have hk : Nat.log2 m = k := by omega
  rw [hk] at h2
  rw [← Int.pow_add]
  have h3 : m < 2 ^ ((k : Int) / 2 + 1).toNat * 2 ^ ((k : Int) / 2 + 1).toNat := by
    rw [← Nat.pow_add]
    exact Nat.lt_of_lt_of_le h2 (Nat.pow_le_pow_right (by omega) (by omega))
  rw [← Nat.pow_add] at h3
  exact_mod_cast h3

/-- a store that touches no row of uint32 -/
def Same32 (w w' : World) : Prop := ∀ v xs, U32 w v xs → U32 w' v xs
theorem IntRep.map {w w' : World} {V : Value} {z : Int} (h : IntRep w V z) (hs : Same32 w w') : IntRep w' V z := by
  obtain ⟨v, rfl, hv⟩ := h
  exact ⟨v, rfl, hs _ _ hv⟩
theorem IntNum.map {w w' : World} {V : Value} {z : Int} (h : IntNum w V z) (hs : Same32 w w') : IntNum w' V z := by
  obtain ⟨neg, xs, ⟨v, rfl, hv⟩, e, l⟩ := h
  exact ⟨neg, xs, ⟨v, rfl, hs _ _ hv⟩, e, l⟩
theorem one_box {w w' : World} {t : TypeId} {d1 : Nat} {x1 y1 x4 y4 : Value} (hO1 : Own w d1 t [x1, y1]) (a1 : noU32 x1 = true) (b1 : noU32 y1 = true) (a4 : noU32 x4 = true)
    (hw : w' = (w.setCell ⟨d1, 0, none⟩ x4).setCell ⟨d1, 1, none⟩ y4) :
    Own w' d1 t [x4, y4] ∧ (∀ b vs, b ≠ d1 → Own w b t vs → Own w' b t vs) ∧ Same32 w w' ∧ (∀ w0 : World, w0.heap.size ≤ d1 → Keeps w0 w → Keeps w0 w') := by
  subst hw
  exact ⟨hO1.two x4 y4, fun b vs e1 h => h.far2 e1, fun v xs h => h.two hO1 a1 b1 a4, fun w0 e1 h => (h.set e1 _).set e1 _⟩
theorem rcompare_s {w : World} {V1 V2 : Value} {x y s : Int} (h1 : IntNum w V1 x) (h2 : IntNum w V2 y) (e : (x - y).sign = s) : Calls Tryd.prog 27 #[V1, V2] w fun e w' => e = .returned (.int .i64 s) ∧ Keeps w w' := by subst e; exact rcompare_num h1 h2
theorem rdivide_two {w : World} {V1 V2 : Value} {y : Int} (h1 : IntRep w V1 y) (h2 : IntRep w V2 2) (hl : lenI y ≤ 300000) :
    Calls Tryd.prog 39 #[V1, V2] w fun e w' => ∃ Q R, e = .returned (.tuple #[Q, R, .int .i64 0]) ∧ IntRep w' Q (y.fdiv 2) ∧ IntRep w' R (y.fmod 2) ∧ Keeps w w' := by
  have hl2 : (dig (2 : Int).natAbs).length ≤ 1 := dig_length_le (by decide)
  unfold lenI at hl
  have := rdivide_any _ _ _ _ V1 V2 w h1.arg h2.arg (by omega) (by omega)
  rwa [cnt_rep, cnt_rep] at this
theorem sign_pos_iff (x : Int) : (0 < x ∧ x.sign = 1) ∨ (x ≤ 0 ∧ x.sign ≤ 0) := by
  rcases Int.lt_trichotomy x 0 with h | h | h
  · exact .inr ⟨by omega, by rw [Int.sign_eq_neg_one_of_neg h]; omega⟩
  · exact .inr ⟨by omega, by rw [h]; simp⟩
  · exact .inl ⟨h, Int.sign_eq_one_of_pos h⟩
theorem lenI_lt {x y : Int} (h0 : 0 ≤ x) (h : x ≤ y) : lenI x ≤ lenI y := dig_length_mono (by omega)

def rr4Φ (z : Int) (Vx : Value) (k : Nat) : Nat → Value → World → Prop
  | 0, v, w => IntRep w v (0)
  | 1, v, _ => v = Vx
  | 2, v, w => IntRep w v (1)
  | 3, v, w => IntRep w v (z + 1)
  | 4, v, w => ∃ b, v = .pointer (some ⟨b, 0, none⟩) ∧ k ≤ b ∧ Own w b 24 [.bool false, .slice none 0 0]
  | 5, v, w => ∃ b, v = .pointer (some ⟨b, 0, none⟩) ∧ k ≤ b ∧ Own w b 24 [.bool false, .slice none 0 0]
  | _, _, _ => True
/-- behind the region that makes the power of two -/
def PowCut (W wx : World) (t : TypeId) (P : Int) (p : Value) : Prop := ∃ d9 bp Ap np cp, p = .pointer (some ⟨d9, 0, none⟩) ∧ W.heap.size ≤ d9 ∧ Own wx d9 t [.bool bp, .slice Ap np cp] ∧ IntRep wx (.agg #[.bool bp, .slice Ap np cp]) P ∧
  (∀ b vs, b < W.heap.size → Own W b t vs → Own wx b t vs) ∧ Same32 W wx ∧ (∀ w0 : World, w0.heap.size ≤ W.heap.size → Keeps w0 W → Keeps w0 wx)
theorem PowCut.new {W w3 : World} {t : TypeId} {P : Int} {bp : Bool} {Ap : Option Addr} {np cp : Nat} (hk : Keeps W w3) (hq : IntRep w3 (.agg #[.bool bp, .slice Ap np cp]) P) :
    PowCut W (w3.alloc (.cells #[.bool bp, .slice Ap np cp] t)) t P (.pointer (some ⟨w3.heap.size, 0, none⟩)) :=
  ⟨w3.heap.size, bp, Ap, np, cp, rfl, hk.size, Own.new w3 t [.bool bp, .slice Ap np cp], hq.below (box2 _ _), fun _ _ _ h => (h.below hk).alloc _, fun _ _ h => (h.below hk).below (box2 _ _), fun _ _ h => (h.trans' hk).trans' (box2 _ _)⟩
theorem PowCut.of {W w3 : World} {t : TypeId} {P : Int} {d9 : Nat} {bp : Bool} {Ap : Option Addr} {np cp : Nat} (hk : Keeps W w3) (hd : W.heap.size ≤ d9) (hO : Own w3 d9 t [.bool false, .slice none 0 0]) (hq : IntRep w3 (.agg #[.bool bp, .slice Ap np cp]) P) :
    PowCut W ((w3.setCell ⟨d9, 0, none⟩ (.bool bp)).setCell ⟨d9, 1, none⟩ (.slice Ap np cp)) t P (.pointer (some ⟨d9, 0, none⟩)) :=
  ⟨d9, bp, Ap, np, cp, rfl, hd, hO.two _ _, hq.two hO rfl rfl rfl, fun b vs hb h => (h.below hk).far2 (by omega), fun v xs h => (h.below hk).two hO rfl rfl rfl, fun w0 hs h => ((h.trans' hk).set (p := ⟨d9, 0, none⟩) (by simp only; omega) _).set (p := ⟨d9, 1, none⟩) (by simp only; omega) _⟩
set_option maxRecDepth 100000 in
set_option maxHeartbeats 4000000 in
theorem rroot_any (neg : Bool) (xs : List Nat) (V : Value) (w : World) (h : IntArg w V neg xs) (hm : xs.length ≤ 200) :
    Calls Tryd.prog 43 #[V] w (RootRes (cnt neg xs) w) := by
  obtain ⟨v, rfl, hv⟩ := h
  have hml := lenI_cnt neg xs
  have hkk := keep2 w (.cells #[.bool neg, v] 24) (.cells #[.bool false, .slice none 0 0] 24)
  have hG := Lib.hid (rvalue_any neg xs (.agg #[.bool neg, v]) _ ⟨v, rfl, hv.below hkk⟩ (by omega))
  have hR := own2 w (.cells #[.bool neg, v] 24) 24 [.bool false, .slice none 0 0]
  have hA := (Own.new w 24 [.bool neg, v]).alloc (.cells #[.bool false, .slice none 0 0] 24)
  have hnv := hv.noU
  generalize cnt neg xs = z at *
  have hlz : lenI z ≤ 200 := by omega
  go_enter Tryd.func43, Tryd.ntmps43
  go_wp2_with fail
  refine hG.out.mono ?_
  rintro e w1 ⟨V2, rfl, hr2, hk1⟩
  obtain ⟨A2, n2, c2, rfl, hv2'⟩ := hr2.open_
  have hA1 := hA.below hk1
  have hR1 := hR.below hk1
  have k1 := hkk.trans' hk1
  have f0 := hA1.frozen 0
  have f1 := hA1.frozen 1
  have a0 := hA1.c0
  have a1 := hA1.c1
  have r0 := hR1.c0
  have r1 := hR1.c1
  have q0 := hR1.frozen 0
  have q1 := hR1.frozen 1
  have hx2 := hr2.two (x' := .bool (decide (z < 0))) (y' := .slice A2 n2 c2) hA1 rfl hnv rfl
  generalize hb2 : decide (z < 0) = b2 at *
  have hA2 := hA1.two (.bool b2) (.slice A2 n2 c2)
  have hR2 := hR1.far2 (R := w.heap.size) (by omega) (x := .bool b2) (y := .slice A2 n2 c2)
  have k2 := (k1.set (p := ⟨w.heap.size, 0, none⟩) (by simp) (.bool b2)).set (p := ⟨w.heap.size, 1, none⟩) (by simp) (.slice A2 n2 c2)
  have HB := Lib.hid hb2
  clear hG hk1 hkk hA hR hv hml hv2' hr2 k1 hb2
  cases b2 with
  | true =>
    have hz : z < 0 := by simpa using HB.out
    have HCC := Lib.hid (show (if z < 0 then (2 : Int) else 0) = 2 from if_pos hz)
    have HZ := Lib.hid hz
    clear hz hA1 hR1 hA2
    have kE := (k2.set (p := ⟨w.heap.size + 1, 0, none⟩) (by simp only; omega) (.bool false)).set (p := ⟨w.heap.size + 1, 1, none⟩) (by simp only; omega) (.slice none 0 0)
    go_wp2
    have hR4 := hR2.two (.bool false) (.slice none 0 0)
    refine bodyPost_ret (v := .tuple #[.agg #[.bool false, .slice none 0 0], .int .i64 2]) (by simp [results, Tryd.results43, go_sem, hR4.cell 0, hR4.cell 1]) rfl ?_
    exact ⟨_, 0, by rw [HCC.out], IntRep.zero _, IsRoot.neg HZ.out, kE⟩
  | false =>
    have hz : 0 ≤ z := by have := HB.out; simp at this; omega
    have HCC := Lib.hid (show (if z < 0 then (2 : Int) else 0) = 0 from if_neg (by omega))
    have HZ := Lib.hid hz
    go_wp2_with fail
    generalize hW : (w1.setCell ⟨w.heap.size, 0, none⟩ (.bool false)).setCell ⟨w.heap.size, 1, none⟩ (.slice A2 n2 c2) = W at *
    clear hW hA1 hR1 a0 a1 r0 r1 f0 f1 q0 q1 hz
    replace hA2 := hA2.drew
    have hv2 : IntNum W.drew (.agg #[.bool false, .slice A2 n2 c2]) z := hx2.num (by omega)
    have l0 : lenI 1 ≤ 1 := dig_length_le (n := (1 : Int).natAbs) (k := 1) (by decide)
    have hWs : w.heap.size + 1 < W.heap.size := hR2.lt
    refine wp_region_steps (m := 6) rfl (by kernel_rfl) (rr4Φ z (.agg #[.bool false, .slice A2 n2 c2]) W.heap.size) [4, 5] ?_ ?_ ?_
    · intro i v w w' hi h hk
      match i, hi with
      | 1, _ => exact h
      | 0, _ => exact IntRep.below h hk
      | 2, _ => exact IntRep.below h hk
      | 3, _ => exact IntRep.below h hk
      | 4, _ => exact h.elim fun b ⟨h1, h2, h3⟩ => ⟨b, h1, h2, h3.below hk⟩
      | 5, _ => exact h.elim fun b ⟨h1, h2, h3⟩ => ⟨b, h1, h2, h3.below hk⟩
      | i + 6, hi => exact absurd hi (by omega)
    · intro i hi vs w3 hk3 hd
      have hA3 := hA2.below hk3
      have hv3 := hv2.below hk3
      have a0 := hA3.c0
      have a1 := hA3.c1
      match i, hi with
      | 0, _ =>
        refine step_yes (o := ⟨some 16, Op.call { callee := Callee.value (Operand.func 16), args := #[Operand.const (Value.int IntKind.i64 0)], argTypes := #[3] }, 24, "ref.go:342", #[], none⟩) [] (by kernel_rfl) (by kernel_rfl) fun K hK => ?_
        simp only [frD] at hK ⊢
        refine ⟨by rfl, ?_⟩
        go_simp
        refine (rof_any 0 _ (by omega) (by omega)).mono ?_
        rintro e w4 ⟨U, rfl, hr, hk4⟩
        exact hK _ _ ⟨hk4, hr, by simp⟩
      | 1, _ =>
        refine step_yes (o := ⟨some 17, Op.load 24 (Operand.tmp 1), 24, "ref.go:342", #[], none⟩) [] (by kernel_rfl) (by kernel_rfl) fun K hK => ?_
        simp only [frD] at hK ⊢
        refine ⟨by rfl, ?_⟩
        go_simp
        exact hK _ _ ⟨Below.refl _ _, rfl, by simp⟩
      | 2, _ =>
        have h0 : IntRep w3 (vs 0) (0) := hd 0 (List.contains_iff_mem.1 (by kernel_rfl))
        refine step_yes (o := ⟨some 18, Op.call { callee := Callee.value (Operand.func 16), args := #[Operand.const (Value.int IntKind.i64 1)], argTypes := #[3] }, 24, "ref.go:342", #[{ on := 0, ground := Ground.chain }], none⟩) [(0, some 16)] (by kernel_rfl) (by kernel_rfl) fun K hK => ?_
        simp only [frD] at hK ⊢
        refine ⟨by rfl, ?_⟩
        go_simp
        refine (rof_any 1 _ (by omega) (by omega)).mono ?_
        rintro e w4 ⟨U, rfl, hr, hk4⟩
        exact hK _ _ ⟨hk4, hr, by simp⟩
      | 3, _ =>
        have e1 : vs 1 = (.agg #[.bool false, .slice A2 n2 c2]) := hd 1 (List.contains_iff_mem.1 (by kernel_rfl))
        have h2 : IntRep w3 (vs 2) (1) := hd 2 (List.contains_iff_mem.1 (by kernel_rfl))
        refine step_yes (o := ⟨some 19, Op.call { callee := Callee.value (Operand.func 21), args := #[Operand.tmp 17, Operand.tmp 18], argTypes := #[24, 24] }, 24, "ref.go:342", #[{ on := 1, ground := Ground.data }, { on := 2, ground := Ground.data }, { on := 2, ground := Ground.chain }], none⟩) [(1, some 17), (2, some 18)] (by kernel_rfl) (by kernel_rfl) fun K hK => ?_
        simp only [frD, e1] at hK ⊢
        refine ⟨by rfl, ?_⟩
        go_simp
        refine (radd_num hv3 (h2.num (by omega))).mono ?_
        rintro e w4 ⟨U, rfl, hr, hk4⟩
        exact hK _ _ ⟨hk4, hr, by simp⟩
      | 4, _ =>
        refine step_yes (o := ⟨some 4, Op.alloc 24, 0, "ref.go:342", #[], none⟩) [] (by kernel_rfl) (by kernel_rfl) fun K hK => ?_
        simp only [frD] at hK ⊢
        refine ⟨by rfl, ?_⟩
        go_simp
        exact hK _ _ ⟨(Below.refl _ _).alloc (Nat.le_refl _) _, ⟨_, rfl, hk3.size, Own.new w3 _ _⟩, fun _ => ⟨rfl, by simp⟩⟩
      | 5, _ =>
        refine step_yes (o := ⟨some 5, Op.alloc 24, 0, "ref.go:342", #[], none⟩) [] (by kernel_rfl) (by kernel_rfl) fun K hK => ?_
        simp only [frD] at hK ⊢
        refine ⟨by rfl, ?_⟩
        go_simp
        exact hK _ _ ⟨(Below.refl _ _).alloc (Nat.le_refl _) _, ⟨_, rfl, hk3.size, Own.new w3 _ _⟩, fun _ => ⟨rfl, by simp⟩⟩
      | i + 6, hi => exact absurd hi (by omega)
    · intro vs w3 hk3 hΦ hne
      simp only [List.drop_succ_cons, List.drop_zero]
      rw [fr_frD, show (List.range 6).map _ = [(0, some 16), (1, some 17), (2, some 18), (3, some 19), (4, some 4), (5, some 5)] by kernel_rfl]
      have p0 := hΦ 0 (by omega)
      have p1 := hΦ 1 (by omega)
      have p2 := hΦ 2 (by omega)
      have p3 := hΦ 3 (by omega)
      have p4 := hΦ 4 (by omega)
      have p5 := hΦ 5 (by omega)
      simp only [rr4Φ] at p0 p1 p2 p3 p4 p5
      clear hΦ
      obtain ⟨d4, q4, hl4, hO4⟩ := p4
      obtain ⟨d5, q5, hl5, hO5⟩ := p5
      have n4_5 : d4 ≠ d5 := fun e => hne 4 5 (by omega) (by omega) (by decide) (by decide) (by decide) (by rw [q4, q5, e])
      clear hne
      simp only [frD, p1, q4, q5]
      generalize vs 0 = U0 at p0 ⊢
      clear p1
      generalize vs 2 = U2 at p2 ⊢
      generalize vs 3 = U3 at p3 ⊢
      clear q4
      clear q5
      have hX3 := hA2.below hk3
      have hR3 := hR2.drew.below hk3
      have hx3 := hv2.below hk3
      have k3 := Keeps.trans' (w1 := W.drew) (Below.drew k2) hk3
      obtain ⟨Al, nl, cl, rfl, -⟩ := p0.open_
      obtain ⟨Ah, nh, ch, rfl, -⟩ := p3.open_
      generalize decide ((0 : Int) < 0) = bl at *
      generalize decide (z + 1 < 0) = bh at *
      clear p2 hk3 hA2 hR2 hv2 k2 hx2
      have r40 := hO4.c0
      have r41 := hO4.c1
      have r42 := hO4.frozen 0
      have r43 := hO4.frozen 1
      have r50 := hO5.c0
      have r51 := hO5.c1
      have r52 := hO5.frozen 0
      have r53 := hO5.frozen 1
      have m4_5 := n4_5.symm
      go_upto_region 5 with fail
      obtain ⟨W4, hW4⟩ : ∃ W4, W4 = (w3.setCell ⟨d4, 0, none⟩ (.bool bl)).setCell ⟨d4, 1, none⟩ (.slice Al nl cl) := ⟨_, rfl⟩
      rw [← hW4]
      obtain ⟨gL, gO, gS, gK⟩ := one_box hO4 rfl rfl rfl hW4
      obtain ⟨W5, hW5⟩ : ∃ W5, W5 = (W4.setCell ⟨d5, 0, none⟩ (.bool bh)).setCell ⟨d5, 1, none⟩ (.slice Ah nh ch) := ⟨_, rfl⟩
      rw [← hW5]
      obtain ⟨jH, jO, jS, jK⟩ := one_box (gO _ _ m4_5 hO5) rfl rfl rfl hW5
      have hX := jO _ _ (by omega) (gO _ _ (by omega) hX3)
      have hRR := jO _ _ (by omega) (gO _ _ (by omega) hR3)
      have hL := jO _ _ n4_5 gL
      have hx := (hx3.map gS).map jS
      have rl := (p0.map gS).map jS
      have rh := (p3.map gS).map jS
      have k5 := jK w (by omega) (gK w (by omega) k3)
      clear gL gO gS gK jO jS jK hW4 hW5 r40 r41 r42 r43 r50 r51 r52 r53 hX3 hR3 hx3 p0 p3 k3 hO4 hO5
      have hsz4 : w.heap.size + 1 < d4 := by omega
      have hsz5 : w.heap.size + 1 < d5 := by omega
      clear hl4 hl5 hWs
      clear W
      obtain ⟨L, hL0⟩ : ∃ L, log2 z.natAbs = L := ⟨_, rfl⟩
      have hlen := log2_len z.natAbs
      unfold lenI at hlz
      rw [hL0] at hlen
      have hL6 : L ≤ 6000 := by omega
      have HLG := Lib.hid hL0
      have a0 := hX.c0
      have a1 := hX.c1
      have hlog := Lib.hid (rlog_s hx hL0)
      clear hlen hL0
      by_cases hpos : 0 < L
      · have hd : decide (0 < L) = true := decide_eq_true hpos
        have hst := Lib.hid (start_high z HZ.out L HLG.out hpos)
        have hP0 := Lib.hid (show (0 : Int) ≤ L by omega)
        have hP1 := Lib.hid hL6
        go_wp2_with fail
        refine hlog.out.mono ?_
        rintro e w6 ⟨rfl, hk⟩
        obtain ⟨W, rfl⟩ : ∃ W : World, W = w6 := ⟨_, rfl⟩
        replace hX := hX.below hk
        replace hRR := hRR.below hk
        replace hL := hL.below hk
        replace jH := jH.below hk
        replace hx := hx.below hk
        replace rl := rl.below hk
        replace k5 := k5.trans' hk
        clear hlog hk a0 a1 rh
        have a0 := hX.c0
        have a1 := hX.c1
        have H0P := Lib.hid (show (0 : Int) < 2 ^ (L / 2 + 1).toNat from Int.pow_pos (by omega))
        have H0Z := hst
        have H0L := Lib.hid (show lenI (2 ^ (L / 2 + 1).toNat) ≤ 2300 from lenI_pow 2 _ (L / 2 + 1).toNat (Nat.le_refl _) (by rw [show dgs (2 : Int).natAbs = 1 from dgs_two]; omega))
        have hs5 := jH.lt
        have hs4 := hL.lt
        go_wp2_with fail
        have hA4 := hX.drew
        have hA4a := hA4.alloc (.cells #[.bool false, .slice none 0 0] 24)
        have hA4b := (hX.alloc (.cells #[.bool false, .slice none 0 0] 24)).drew
        have neA : w.heap.size ≠ W.drew.heap.size := Nat.ne_of_lt hA4.lt
        have neA' : w.heap.size ≠ W.heap.size := neA
        have hLogA := Lib.hid (fun W' (k : Keeps W.drew W') => rlog_s (hx.drew.below k) HLG.out)
        have HP0 := hP0
        have HP1 := hP1
        have wr0 : L.tdiv 2 = L / 2 := Int.tdiv_eq_ediv_of_nonneg (by omega)
        have wr1 : IntKind.i64.wrap (L / 2) = L / 2 := IntWalk.i64_in _ (by omega)
        have wr2 : IntKind.i64.wrap (L / 2 + 1) = L / 2 + 1 := IntWalk.i64_in _ (by omega)
        obtain ⟨E, hE⟩ : ∃ E, L / 2 + 1 = E := ⟨_, rfl⟩
        have hPw := Lib.hid (fun W' (V : Value) (h : IntRep W' V 2) => rpower_two (L := L) h HP0.out HP1.out)
        generalize hPP : (2 : Int) ^ (L / 2 + 1).toNat = P at *
        clear hPP
        rw [hE] at wr2 hPw
        go_cut [6] (fun p wx => PowCut W wx 24 P p)
        case first =>
          go_region_held3 (fun w' => w'.cell? ⟨w.heap.size, 0, none⟩ = some (.bool false) ∧ w'.cell? ⟨w.heap.size, 1, none⟩ = some (.slice A2 n2 c2))
            (first
              | (with_reducible exact ⟨hA4.c0, hA4.c1⟩)
              | (with_reducible exact ⟨hA4a.c0, hA4a.c1⟩)
              | (with_reducible exact ⟨hA4b.c0, hA4b.c1⟩)
              | (with_reducible exact ⟨hA5.c0, hA5.c1⟩)
              | (with_reducible exact ⟨hA5a.c0, hA5a.c1⟩)
              | (with_reducible exact ⟨hA6.c0, hA6.c1⟩)
              | (with_reducible exact ⟨hA6a.c0, hA6a.c1⟩)
              | (with_reducible exact ⟨hA7.c0, hA7.c1⟩)
              | (with_reducible exact ⟨hA7a.c0, hA7a.c1⟩)
              | (with_reducible exact ⟨(hA7.far2 neA).c0, (hA7.far2 neA).c1⟩)
              | (with_reducible exact ⟨(hA7.far2 neB).c0, (hA7.far2 neB).c1⟩)
              | (with_reducible exact ⟨(hA7.far2 neC).c0, (hA7.far2 neC).c1⟩)
              | (with_reducible exact ⟨(hA7.far2 neA').c0, (hA7.far2 neA').c1⟩)
              | (with_reducible exact ⟨(hA7.alloc _).c0, (hA7.alloc _).c1⟩)
              | fail)
            (first
              | (go_at_call 16; refine (rof_any 2 _ (by omega) (by omega)).mono ?_; rintro e w1 ⟨V1, rfl, hr1, hk1⟩; have kk1 : Keeps W.drew w1 := (by first | exact hk1 | exact Keeps.trans' (box2 _ _) hk1); have hA5 := hA4.below kk1; have hA5a := hA5.alloc (.cells #[.bool false, .slice none 0 0] 24); have neB : w.heap.size ≠ w1.heap.size := Nat.ne_of_lt hA5.lt; (first | (have hN1 := (Own.new W 24 [.bool false, .slice none 0 0]).drew.below hk1) | skip))
              | (go_at_call 37; refine (hLogA.out _ (by first | exact kk1 | exact kk1.trans' (box2 _ _))).mono ?_; rintro e w2 ⟨rfl, hk2⟩; have k12 : Keeps w1 w2 := (by first | exact hk2 | exact Keeps.trans' (box2 _ _) hk2); have hA6 := hA5.below k12; have hA6a := hA6.alloc (.cells #[.bool false, .slice none 0 0] 24); have neC : w.heap.size ≠ w2.heap.size := Nat.ne_of_lt hA6.lt; (first | (have hN2 := hN1.below k12) | (have hN2 := (Own.new w1 24 [.bool false, .slice none 0 0]).below hk2) | skip))
              | (go_at_call 46; refine (hPw.out _ _ (hr1.below (by first | exact k12 | exact k12.trans' (box2 _ _)))).mono ?_; rintro e w3 ⟨Q, rfl, hq, hk3⟩; obtain ⟨Ap, np, cp, rfl, -⟩ := hq.open_; have k23 : Keeps w2 w3 := (by first | exact hk3 | exact Keeps.trans' (box2 _ _) hk3); have hA7 := hA6.below k23; have hA7a := hA7.alloc (.cells #[.bool false, .slice none 0 0] 24); have neD : w.heap.size ≠ w3.heap.size := Nat.ne_of_lt hA7.lt; have hN4 := Own.new w3 24 [.bool false, .slice none 0 0]; have y0 := hN4.c0; have y1 := hN4.c1; have y2 := hN4.frozen 0; have y3 := hN4.frozen 1; (first | (have hN3 := hN2.below k23) | (have hN3 := (Own.new w2 24 [.bool false, .slice none 0 0]).below hk3) | skip); (try (have z0 := hN3.c0; have z1 := hN3.c1; have z2 := hN3.frozen 0; have z3 := hN3.frozen 1))))
          all_goals
            go_wp2_with fail
            go_meet
            have kW : Keeps W w3 := Keeps.trans' (w1 := W.drew) (Below.drew (Below.refl _ _)) ((kk1.trans' k12).trans' k23)
            have s1 : W.heap.size ≤ w1.heap.size := kk1.size
            have s2 : W.heap.size ≤ w2.heap.size := (kk1.trans' k12).size
            first
              | (with_reducible exact PowCut.of kW (Nat.le_refl _) hN3 hq)
              | (with_reducible exact PowCut.of kW s1 hN3 hq)
              | (with_reducible exact PowCut.of kW s2 hN3 hq)
              | (with_reducible exact PowCut.new kW hq)
        case rest =>
          obtain ⟨d9, bp, Ap, np, cp, rfl, hl9, gP, p7, gO, gS, gK⟩ := hcut
          replace hX := gO _ _ (by omega) hX
          replace hRR := gO _ _ (by omega) hRR
          replace hL := gO _ _ (by omega) hL
          replace jH := gO _ _ (by omega) jH
          replace hx := hx.map gS
          replace rl := rl.map gS
          replace k5 := gK w (by omega) k5
          clear gO gS gK hA4 hA4a hA4b neA hLogA hPw wr0 wr1 wr2 hE a0 a1
          have r90 := gP.c0
          have r91 := gP.c1
          have r50 := jH.c0
          have r51 := jH.c1
          have r52 := jH.frozen 0
          have r53 := jH.frozen 1
          go_wp2_with fail
          obtain ⟨W8, hW8⟩ : ∃ W8, W8 = (wc.setCell ⟨d5, 0, none⟩ (.bool bp)).setCell ⟨d5, 1, none⟩ (.slice Ap np cp) := ⟨_, rfl⟩
          rw [← hW8]
          obtain ⟨jH2, gO, gS, gK⟩ := one_box jH rfl rfl rfl hW8
          replace hX := gO _ _ (by omega) hX
          replace hRR := gO _ _ (by omega) hRR
          replace hL := gO _ _ n4_5 hL
          replace hx := hx.map gS
          replace rl := rl.map gS
          have rh := p7.map gS
          replace k5 := gK w (by omega) k5
          clear hW8 gO gS gK r90 r91 r50 r51 r52 r53 gP p7 hd
          have jH := jH2
          clear jH2
          obtain ⟨bh, hbh⟩ : ∃ b, b = bp := ⟨_, rfl⟩
          obtain ⟨Ah, hAh⟩ : ∃ A, A = Ap := ⟨_, rfl⟩
          obtain ⟨nh, hnh⟩ : ∃ A, A = np := ⟨_, rfl⟩
          obtain ⟨ch, hch⟩ : ∃ A, A = cp := ⟨_, rfl⟩
          subst hbh hAh hnh hch
          go_loopg [] (P).toNat (fun k wr => ∃ (l h : Int) (bl : Bool) (Al : Option Addr) (nl cl : Nat) (bh : Bool) (Ah : Option Addr) (nh ch : Nat), (h - l).toNat = k ∧ 0 ≤ l ∧ l < h ∧ l * l ≤ z ∧ z < h * h ∧ lenI h ≤ 2300 ∧ Own wr w.heap.size 24 [.bool false, .slice A2 n2 c2] ∧
              Own wr (w.heap.size + 1) 24 [.bool false, .slice none 0 0] ∧ Own wr d4 24 [.bool bl, .slice Al nl cl] ∧ Own wr d5 24 [.bool bh, .slice Ah nh ch] ∧ IntNum wr (.agg #[.bool false, .slice A2 n2 c2]) z ∧ IntRep wr (.agg #[.bool bl, .slice Al nl cl]) l ∧ IntRep wr (.agg #[.bool bh, .slice Ah nh ch]) h ∧ Keeps w wr)
          case atStart => exact ⟨0, P, bl, Al, nl, cl, bh, Ah, nh, ch, by omega, by omega, H0P.out, by have := HZ.out; omega, H0Z.out, H0L.out, hX, hRR, hL, jH, hx, rl, rh, k5⟩
          case round =>
            clear hX hRR hL jH hx rl rh k5
            obtain ⟨l, h, bl, Al, nl, cl, bh, Ah, nh, ch, rfl, hl0, hlh, hll, hhh, hlen, hX, hRR, hL, jH, hx, rl, rh, k5⟩ := hrel
            have hlenl := lenI_lt hl0 (Int.le_of_lt hlh)
            have hsub := lenI_sub h l
            have hadd := lenI_add l h
            have r40 := hL.c0
            have r41 := hL.c1
            have r50 := jH.c0
            have r51 := jH.c1
            obtain ⟨s, hs⟩ : ∃ s, (h - l - 1).sign = s := ⟨_, rfl⟩
            have hsp := sign_pos_iff (h - l - 1)
            rw [hs] at hsp
            have HS := Lib.hid hs
            have HL0 := Lib.hid hl0
            have HLH := Lib.hid hlh
            have HLL := Lib.hid hll
            have HHH := Lib.hid hhh
            clear hs hl0 hlh hll hhh
            rcases hsp with ⟨hgt, hs1⟩ | ⟨hle, hs1⟩
            · subst hs1
              have hm1 : l < (l + h).fdiv 2 ∧ (l + h).fdiv 2 < h := by rw [Int.fdiv_eq_ediv_of_nonneg _ (by omega)]; omega
              obtain ⟨mid, hmid⟩ : ∃ m, (l + h).fdiv 2 = m := ⟨_, rfl⟩
              rw [hmid] at hm1
              have hlm := lenI_lt (x := mid) (y := h) (by have := HL0.out; omega) (by omega)
              have hmm := lenI_mul mid mid
              have HMID := Lib.hid hmid
              have HM1 := Lib.hid hm1
              obtain ⟨s2, hs2⟩ : ∃ s, (mid * mid - z).sign = s := ⟨_, rfl⟩
              have hsp2 := sign_pos_iff (mid * mid - z)
              rw [hs2] at hsp2
              have HS2 := Lib.hid hs2
              clear hs2 hm1 hmid hgt
              go_wp2_with fail
              refine (rsub_num (rh.num (by omega)) (rl.num (by omega))).mono ?_
              rintro e w7 ⟨V7, rfl, hr7, hk7⟩
              go_wp2_with fail
              refine (rof_any 1 w7 (by omega) (by omega)).mono ?_
              rintro e w8 ⟨V8, rfl, hr8, hk8⟩
              go_wp2_with fail
              refine (rcompare_s ((hr7.below hk8).num (by omega)) (hr8.num (by omega)) HS.out).mono ?_
              rintro e w9 ⟨rfl, hk9⟩
              have kk := (hk7.trans' hk8).trans' hk9
              clear hr7 hr8 hk7 hk8 hk9 r40 r41 r50 r51
              replace hX := hX.below kk
              replace hRR := hRR.below kk
              replace hL := hL.below kk
              replace jH := jH.below kk
              replace hx := hx.below kk
              replace rl := rl.below kk
              replace rh := rh.below kk
              replace k5 := k5.trans' kk
              clear kk
              have r40 := hL.c0
              have r41 := hL.c1
              have r50 := jH.c0
              have r51 := jH.c1
              go_wp2_with fail
              refine (radd_num (rl.num (by omega)) (rh.num (by omega))).mono ?_
              rintro e w10 ⟨V10, rfl, hr10, hk10⟩
              go_wp2_with fail
              refine (rof_any 2 w10 (by omega) (by omega)).mono ?_
              rintro e w11 ⟨V11, rfl, hr11, hk11⟩
              go_wp2_with fail
              refine (rdivide_two (hr10.below hk11) hr11 (by omega)).mono ?_
              rintro e w12 ⟨Q, R, rfl, hq, hrr, hk12⟩
              rw [HMID.out] at hq
              obtain ⟨Am, nm, cm, rfl, -⟩ := hq.open_
              obtain ⟨Ar, nr, cr, rfl, -⟩ := hrr.open_
              generalize decide (mid < 0) = bm at *
              generalize decide ((l + h).fmod 2 < 0) = br at *
              have kb := keep2 w12 (.cells #[.bool bm, .slice Am nm cm] 24) (.cells #[.bool br, .slice Ar nr cr] 24)
              have kk := ((hk10.trans' hk11).trans' hk12).trans' kb
              have hM := (Own.new w12 24 [.bool bm, .slice Am nm cm]).alloc (.cells #[.bool br, .slice Ar nr cr] 24)
              replace hq := hq.below kb
              replace hX := hX.below kk
              replace hRR := hRR.below kk
              replace hL := hL.below kk
              replace jH := jH.below kk
              replace hx := hx.below kk
              replace rl := rl.below kk
              replace rh := rh.below kk
              replace k5 := k5.trans' kk
              clear kk kb hrr hr10 hr11 hk10 hk11 hk12 r40 r41 r50 r51
              go_wp2_with fail
              generalize (w12.alloc (.cells #[.bool bm, .slice Am nm cm] 24)).alloc (.cells #[.bool br, .slice Ar nr cr] 24) = W13 at *
              generalize w12.heap.size = dm at *
              replace hM := hM.drew
              replace hq := hq.drew
              replace hX := hX.drew
              replace hRR := hRR.drew
              replace hL := hL.drew
              replace jH := jH.drew
              replace hx := hx.drew
              replace rl := rl.drew
              replace rh := rh.drew
              replace k5 : Keeps w W13.drew := Below.drew k5
              go_region_held3 (fun w' => w'.cell? ⟨dm, 0, none⟩ = some (.bool bm) ∧ w'.cell? ⟨dm, 1, none⟩ = some (.slice Am nm cm) ∧ w'.cell? ⟨w.heap.size, 0, none⟩ = some (.bool false) ∧ w'.cell? ⟨w.heap.size, 1, none⟩ = some (.slice A2 n2 c2))
                (exact ⟨hM.c0, hM.c1, hX.c0, hX.c1⟩)
                (first
                  | (go_at_call 23; refine (rmul_num (hq.num (by omega)) (hq.num (by omega))).mono ?_; rintro e w14 ⟨V14, rfl, hp, kk⟩; replace hM := hM.below kk; replace hq := hq.below kk; replace hX := hX.below kk; replace hRR := hRR.below kk; replace hL := hL.below kk; replace jH := jH.below kk; replace hx := hx.below kk; replace rl := rl.below kk; replace rh := rh.below kk; replace k5 := k5.trans' kk)
                  | (go_at_call 27; refine (rcompare_s (hp.num (by omega)) hx HS2.out).mono ?_; rintro e w15 ⟨rfl, kk⟩; replace hM := hM.below kk; replace hq := hq.below kk; replace hX := hX.below kk; replace hRR := hRR.below kk; replace hL := hL.below kk; replace jH := jH.below kk; replace hx := hx.below kk; replace rl := rl.below kk; replace rh := rh.below kk; replace k5 := k5.trans' kk))
              clear kk hp
              have d0 := hM.c0
              have d1 := hM.c1
              rcases hsp2 with ⟨hz2, hs2⟩ | ⟨hz2, hs2⟩
              · have hd4 : decide (s2 ≤ 0) = false := decide_eq_false (by omega)
                have hd5 : 0 < s2 := by omega
                have hd6 : ¬ s2 ≤ 0 := by omega
                have f0 := jH.frozen 0
                have f1 := jH.frozen 1
                have r50 := jH.c0
                have r51 := jH.c1
                have HZ2 := Lib.hid hz2
                clear hz2 hs2
                obtain ⟨gH, gO, gS, gK⟩ := one_box (x4 := .bool bm) (y4 := .slice Am nm cm) jH rfl rfl rfl rfl
                have m4_5 := n4_5.symm
                go_wp2
                go_roundg (mid - l).toNat
                case measure => have := HM1.out; omega
                case rel => exact ⟨l, mid, bl, Al, nl, cl, bm, Am, nm, cm, rfl, HL0.out, HM1.out.1, HLL.out, by have := HZ2.out; omega, by omega, gO _ _ (by omega) hX, gO _ _ (by omega) hRR, gO _ _ n4_5 hL, gH, hx.map gS, rl.map gS, hq.map gS, gK w (by omega) k5⟩
              · have hd4 : decide (s2 ≤ 0) = true := decide_eq_true hs2
                have f0 := hL.frozen 0
                have f1 := hL.frozen 1
                have r40 := hL.c0
                have r41 := hL.c1
                have HZ2 := Lib.hid hz2
                have hd5 : s2 ≤ 0 := hs2
                have hd6 : ¬ 0 < s2 := by omega
                clear hz2 hs2
                obtain ⟨gH, gO, gS, gK⟩ := one_box (x4 := .bool bm) (y4 := .slice Am nm cm) hL rfl rfl rfl rfl
                go_wp2
                go_roundg (h - mid).toNat
                case measure => have := HM1.out; omega
                case rel => exact ⟨mid, h, bm, Am, nm, cm, bh, Ah, nh, ch, rfl, by have := HM1.out; have := HL0.out; omega, HM1.out.2, by have := HZ2.out; omega, HHH.out, hlen, gO _ _ (by omega) hX, gO _ _ (by omega) hRR, gH, gO _ _ (Ne.symm n4_5) jH, hx.map gS, hq.map gS, rh.map gS, gK w (by omega) k5⟩
            · have hd3 : decide (0 < s) = false := decide_eq_false (by omega)
              have HLE := Lib.hid hle
              clear hle hs1
              go_wp2_with fail
              refine (rsub_num (rh.num (by omega)) (rl.num (by omega))).mono ?_
              rintro e w7 ⟨V7, rfl, hr7, hk7⟩
              go_wp2_with fail
              refine (rof_any 1 w7 (by omega) (by omega)).mono ?_
              rintro e w8 ⟨V8, rfl, hr8, hk8⟩
              go_wp2_with fail
              refine (rcompare_s ((hr7.below hk8).num (by omega)) (hr8.num (by omega)) HS.out).mono ?_
              rintro e w9 ⟨rfl, hk9⟩
              have kk := (hk7.trans' hk8).trans' hk9
              have hL9 := hL.below kk
              have hR9 := hRR.below kk
              clear r40 r41 r50 r51
              have r40 := hL9.c0
              have r41 := hL9.c1
              have f0 := hR9.frozen 0
              have f1 := hR9.frozen 1
              have q0 := hR9.c0
              have q1 := hR9.c1
              go_wp2
              have hR4 := hR9.two (.bool bl) (.slice Al nl cl)
              refine bodyPost_ret (v := .tuple #[.agg #[.bool bl, .slice Al nl cl], .int .i64 0]) (by simp [results, Tryd.results43, go_sem, hR4.cell 0, hR4.cell 1]) rfl ?_
              refine ⟨_, l.toNat, by rw [HCC.out], ?_, ?_, ((k5.trans' kk).set (p := ⟨w.heap.size + 1, 0, none⟩) (by simp only; omega) _).set (p := ⟨w.heap.size + 1, 1, none⟩) (by simp only; omega) _⟩
              · rw [Int.toNat_of_nonneg HL0.out]; exact (rl.below kk).two hR9 rfl rfl rfl
              · unfold IsRoot
                rw [if_neg (by have := HZ.out; omega), Int.toNat_of_nonneg HL0.out]
                refine ⟨HLL.out, ?_⟩
                have e : h = l + 1 := by have := HLE.out; have := HLH.out; omega
                have := HHH.out
                rwa [e] at this
      · have hd : decide (0 < L) = false := decide_eq_false hpos
        go_wp2_with fail
        refine hlog.out.mono ?_
        rintro e w6 ⟨rfl, hk⟩
        go_wp2_with fail
        replace hX := hX.below hk
        replace hRR := hRR.below hk
        replace hL := hL.below hk
        replace jH := jH.below hk
        replace hx := hx.below hk
        replace rl := rl.below hk
        replace rh := rh.below hk
        replace k5 := k5.trans' hk
        have H0P := Lib.hid (show (0 : Int) < z + 1 by have := HZ.out; omega)
        have H0Z := Lib.hid (show z < (z + 1) * (z + 1) by have := HZ.out; have h := Int.mul_nonneg this this; grind)
        have H0L := Lib.hid (show lenI (z + 1) ≤ 2300 by have h := lenI_add z 1; unfold lenI at h l0 ⊢; omega)
        clear hlog hk hd a0 a1
        go_loopg [] (z + 1).toNat (fun k wr => ∃ (l h : Int) (bl : Bool) (Al : Option Addr) (nl cl : Nat) (bh : Bool) (Ah : Option Addr) (nh ch : Nat), (h - l).toNat = k ∧ 0 ≤ l ∧ l < h ∧ l * l ≤ z ∧ z < h * h ∧ lenI h ≤ 2300 ∧ Own wr w.heap.size 24 [.bool false, .slice A2 n2 c2] ∧
            Own wr (w.heap.size + 1) 24 [.bool false, .slice none 0 0] ∧ Own wr d4 24 [.bool bl, .slice Al nl cl] ∧ Own wr d5 24 [.bool bh, .slice Ah nh ch] ∧ IntNum wr (.agg #[.bool false, .slice A2 n2 c2]) z ∧ IntRep wr (.agg #[.bool bl, .slice Al nl cl]) l ∧ IntRep wr (.agg #[.bool bh, .slice Ah nh ch]) h ∧ Keeps w wr)
        case atStart => exact ⟨0, z + 1, bl, Al, nl, cl, bh, Ah, nh, ch, by omega, by omega, H0P.out, by have := HZ.out; omega, H0Z.out, H0L.out, hX, hRR, hL, jH, hx, rl, rh, k5⟩
        case round =>
          clear hX hRR hL jH hx rl rh k5
          obtain ⟨l, h, bl, Al, nl, cl, bh, Ah, nh, ch, rfl, hl0, hlh, hll, hhh, hlen, hX, hRR, hL, jH, hx, rl, rh, k5⟩ := hrel
          have hlenl := lenI_lt hl0 (Int.le_of_lt hlh)
          have hsub := lenI_sub h l
          have hadd := lenI_add l h
          have r40 := hL.c0
          have r41 := hL.c1
          have r50 := jH.c0
          have r51 := jH.c1
          obtain ⟨s, hs⟩ : ∃ s, (h - l - 1).sign = s := ⟨_, rfl⟩
          have hsp := sign_pos_iff (h - l - 1)
          rw [hs] at hsp
          have HS := Lib.hid hs
          have HL0 := Lib.hid hl0
          have HLH := Lib.hid hlh
          have HLL := Lib.hid hll
          have HHH := Lib.hid hhh
          clear hs hl0 hlh hll hhh
          rcases hsp with ⟨hgt, hs1⟩ | ⟨hle, hs1⟩
          · subst hs1
            have hm1 : l < (l + h).fdiv 2 ∧ (l + h).fdiv 2 < h := by rw [Int.fdiv_eq_ediv_of_nonneg _ (by omega)]; omega
            obtain ⟨mid, hmid⟩ : ∃ m, (l + h).fdiv 2 = m := ⟨_, rfl⟩
            rw [hmid] at hm1
            have hlm := lenI_lt (x := mid) (y := h) (by have := HL0.out; omega) (by omega)
            have hmm := lenI_mul mid mid
            have HMID := Lib.hid hmid
            have HM1 := Lib.hid hm1
            obtain ⟨s2, hs2⟩ : ∃ s, (mid * mid - z).sign = s := ⟨_, rfl⟩
            have hsp2 := sign_pos_iff (mid * mid - z)
            rw [hs2] at hsp2
            have HS2 := Lib.hid hs2
            clear hs2 hm1 hmid hgt
            go_wp2_with fail
            refine (rsub_num (rh.num (by omega)) (rl.num (by omega))).mono ?_
            rintro e w7 ⟨V7, rfl, hr7, hk7⟩
            go_wp2_with fail
            refine (rof_any 1 w7 (by omega) (by omega)).mono ?_
            rintro e w8 ⟨V8, rfl, hr8, hk8⟩
            go_wp2_with fail
            refine (rcompare_s ((hr7.below hk8).num (by omega)) (hr8.num (by omega)) HS.out).mono ?_
            rintro e w9 ⟨rfl, hk9⟩
            have kk := (hk7.trans' hk8).trans' hk9
            clear hr7 hr8 hk7 hk8 hk9 r40 r41 r50 r51
            replace hX := hX.below kk
            replace hRR := hRR.below kk
            replace hL := hL.below kk
            replace jH := jH.below kk
            replace hx := hx.below kk
            replace rl := rl.below kk
            replace rh := rh.below kk
            replace k5 := k5.trans' kk
            clear kk
            have r40 := hL.c0
            have r41 := hL.c1
            have r50 := jH.c0
            have r51 := jH.c1
            go_wp2_with fail
            refine (radd_num (rl.num (by omega)) (rh.num (by omega))).mono ?_
            rintro e w10 ⟨V10, rfl, hr10, hk10⟩
            go_wp2_with fail
            refine (rof_any 2 w10 (by omega) (by omega)).mono ?_
            rintro e w11 ⟨V11, rfl, hr11, hk11⟩
            go_wp2_with fail
            refine (rdivide_two (hr10.below hk11) hr11 (by omega)).mono ?_
            rintro e w12 ⟨Q, R, rfl, hq, hrr, hk12⟩
            rw [HMID.out] at hq
            obtain ⟨Am, nm, cm, rfl, -⟩ := hq.open_
            obtain ⟨Ar, nr, cr, rfl, -⟩ := hrr.open_
            generalize decide (mid < 0) = bm at *
            generalize decide ((l + h).fmod 2 < 0) = br at *
            have kb := keep2 w12 (.cells #[.bool bm, .slice Am nm cm] 24) (.cells #[.bool br, .slice Ar nr cr] 24)
            have kk := ((hk10.trans' hk11).trans' hk12).trans' kb
            have hM := (Own.new w12 24 [.bool bm, .slice Am nm cm]).alloc (.cells #[.bool br, .slice Ar nr cr] 24)
            replace hq := hq.below kb
            replace hX := hX.below kk
            replace hRR := hRR.below kk
            replace hL := hL.below kk
            replace jH := jH.below kk
            replace hx := hx.below kk
            replace rl := rl.below kk
            replace rh := rh.below kk
            replace k5 := k5.trans' kk
            clear kk kb hrr hr10 hr11 hk10 hk11 hk12 r40 r41 r50 r51
            go_wp2_with fail
            generalize (w12.alloc (.cells #[.bool bm, .slice Am nm cm] 24)).alloc (.cells #[.bool br, .slice Ar nr cr] 24) = W13 at *
            generalize w12.heap.size = dm at *
            replace hM := hM.drew
            replace hq := hq.drew
            replace hX := hX.drew
            replace hRR := hRR.drew
            replace hL := hL.drew
            replace jH := jH.drew
            replace hx := hx.drew
            replace rl := rl.drew
            replace rh := rh.drew
            replace k5 : Keeps w W13.drew := Below.drew k5
            go_region_held3 (fun w' => w'.cell? ⟨dm, 0, none⟩ = some (.bool bm) ∧ w'.cell? ⟨dm, 1, none⟩ = some (.slice Am nm cm) ∧ w'.cell? ⟨w.heap.size, 0, none⟩ = some (.bool false) ∧ w'.cell? ⟨w.heap.size, 1, none⟩ = some (.slice A2 n2 c2))
              (exact ⟨hM.c0, hM.c1, hX.c0, hX.c1⟩)
              (first
                | (go_at_call 23; refine (rmul_num (hq.num (by omega)) (hq.num (by omega))).mono ?_; rintro e w14 ⟨V14, rfl, hp, kk⟩; replace hM := hM.below kk; replace hq := hq.below kk; replace hX := hX.below kk; replace hRR := hRR.below kk; replace hL := hL.below kk; replace jH := jH.below kk; replace hx := hx.below kk; replace rl := rl.below kk; replace rh := rh.below kk; replace k5 := k5.trans' kk)
                | (go_at_call 27; refine (rcompare_s (hp.num (by omega)) hx HS2.out).mono ?_; rintro e w15 ⟨rfl, kk⟩; replace hM := hM.below kk; replace hq := hq.below kk; replace hX := hX.below kk; replace hRR := hRR.below kk; replace hL := hL.below kk; replace jH := jH.below kk; replace hx := hx.below kk; replace rl := rl.below kk; replace rh := rh.below kk; replace k5 := k5.trans' kk))
            clear kk hp
            have d0 := hM.c0
            have d1 := hM.c1
            rcases hsp2 with ⟨hz2, hs2⟩ | ⟨hz2, hs2⟩
            · have hd4 : decide (s2 ≤ 0) = false := decide_eq_false (by omega)
              have hd5 : 0 < s2 := by omega
              have hd6 : ¬ s2 ≤ 0 := by omega
              have f0 := jH.frozen 0
              have f1 := jH.frozen 1
              have r50 := jH.c0
              have r51 := jH.c1
              have HZ2 := Lib.hid hz2
              clear hz2 hs2
              obtain ⟨gH, gO, gS, gK⟩ := one_box (x4 := .bool bm) (y4 := .slice Am nm cm) jH rfl rfl rfl rfl
              have m4_5 := n4_5.symm
              go_wp2
              go_roundg (mid - l).toNat
              case measure => have := HM1.out; omega
              case rel => exact ⟨l, mid, bl, Al, nl, cl, bm, Am, nm, cm, rfl, HL0.out, HM1.out.1, HLL.out, by have := HZ2.out; omega, by omega, gO _ _ (by omega) hX, gO _ _ (by omega) hRR, gO _ _ n4_5 hL, gH, hx.map gS, rl.map gS, hq.map gS, gK w (by omega) k5⟩
            · have hd4 : decide (s2 ≤ 0) = true := decide_eq_true hs2
              have f0 := hL.frozen 0
              have f1 := hL.frozen 1
              have r40 := hL.c0
              have r41 := hL.c1
              have HZ2 := Lib.hid hz2
              have hd5 : s2 ≤ 0 := hs2
              have hd6 : ¬ 0 < s2 := by omega
              clear hz2 hs2
              obtain ⟨gH, gO, gS, gK⟩ := one_box (x4 := .bool bm) (y4 := .slice Am nm cm) hL rfl rfl rfl rfl
              go_wp2
              go_roundg (h - mid).toNat
              case measure => have := HM1.out; omega
              case rel => exact ⟨mid, h, bm, Am, nm, cm, bh, Ah, nh, ch, rfl, by have := HM1.out; have := HL0.out; omega, HM1.out.2, by have := HZ2.out; omega, HHH.out, hlen, gO _ _ (by omega) hX, gO _ _ (by omega) hRR, gH, gO _ _ (Ne.symm n4_5) jH, hx.map gS, hq.map gS, rh.map gS, gK w (by omega) k5⟩
          · have hd3 : decide (0 < s) = false := decide_eq_false (by omega)
            have HLE := Lib.hid hle
            clear hle hs1
            go_wp2_with fail
            refine (rsub_num (rh.num (by omega)) (rl.num (by omega))).mono ?_
            rintro e w7 ⟨V7, rfl, hr7, hk7⟩
            go_wp2_with fail
            refine (rof_any 1 w7 (by omega) (by omega)).mono ?_
            rintro e w8 ⟨V8, rfl, hr8, hk8⟩
            go_wp2_with fail
            refine (rcompare_s ((hr7.below hk8).num (by omega)) (hr8.num (by omega)) HS.out).mono ?_
            rintro e w9 ⟨rfl, hk9⟩
            have kk := (hk7.trans' hk8).trans' hk9
            have hL9 := hL.below kk
            have hR9 := hRR.below kk
            clear r40 r41 r50 r51
            have r40 := hL9.c0
            have r41 := hL9.c1
            have f0 := hR9.frozen 0
            have f1 := hR9.frozen 1
            have q0 := hR9.c0
            have q1 := hR9.c1
            go_wp2
            have hR4 := hR9.two (.bool bl) (.slice Al nl cl)
            refine bodyPost_ret (v := .tuple #[.agg #[.bool bl, .slice Al nl cl], .int .i64 0]) (by simp [results, Tryd.results43, go_sem, hR4.cell 0, hR4.cell 1]) rfl ?_
            refine ⟨_, l.toNat, by rw [HCC.out], ?_, ?_, ((k5.trans' kk).set (p := ⟨w.heap.size + 1, 0, none⟩) (by simp only; omega) _).set (p := ⟨w.heap.size + 1, 1, none⟩) (by simp only; omega) _⟩
            · rw [Int.toNat_of_nonneg HL0.out]; exact (rl.below kk).two hR9 rfl rfl rfl
            · unfold IsRoot
              rw [if_neg (by have := HZ.out; omega), Int.toNat_of_nonneg HL0.out]
              refine ⟨HLL.out, ?_⟩
              have e : h = l + 1 := by have := HLE.out; have := HLH.out; omega
              have := HHH.out
              rwa [e] at this
end Go.Proofs.YthgbgoidnnfapaaDoor

namespace Go.Proofs.YthgbgoidnnfapaaDoor
open Go.RowKit Go.Shelf

/-- boxes of two cells -/
def Boxes (w : World) (t : TypeId) : List (Nat × Value × Value) → Prop
  | [] => True
  | p :: l => Own w p.1 t [p.2.1, p.2.2] ∧ Boxes w t l
theorem Boxes.below {w w' : World} {t : TypeId} (hk : Keeps w w') : ∀ {l : List (Nat × Value × Value)}, Boxes w t l → Boxes w' t l
  | [], _ => trivial
  | _ :: _, h => ⟨h.1.below hk, Boxes.below hk h.2⟩
theorem Boxes.drew {w : World} {t : TypeId} : ∀ {l : List (Nat × Value × Value)}, Boxes w t l → Boxes w.drew t l
  | [], _ => trivial
  | _ :: _, h => ⟨h.1, Boxes.drew h.2⟩
theorem Boxes.o {w : World} {t : TypeId} {b : Nat} {x y : Value} {l : List (Nat × Value × Value)} (h : Boxes w t ((b, x, y) :: l)) : Own w b t [x, y] := h.1
theorem Boxes.c0 {w : World} {t : TypeId} {b : Nat} {x y : Value} {l : List (Nat × Value × Value)} (h : Boxes w t ((b, x, y) :: l)) : w.cell? ⟨b, 0, none⟩ = some x := h.1.c0
theorem Boxes.c1 {w : World} {t : TypeId} {b : Nat} {x y : Value} {l : List (Nat × Value × Value)} (h : Boxes w t ((b, x, y) :: l)) : w.cell? ⟨b, 1, none⟩ = some y := h.1.c1
theorem Boxes.tl {w : World} {t : TypeId} {p : Nat × Value × Value} {l : List (Nat × Value × Value)} (h : Boxes w t (p :: l)) : Boxes w t l := h.2
/-- integers of a bearable length -/
def Ints (w : World) : List (Value × Int) → Prop
  | [] => True
  | p :: l => IntNum w p.1 p.2 ∧ Ints w l
theorem Ints.below {w w' : World} (hk : Keeps w w') : ∀ {l : List (Value × Int)}, Ints w l → Ints w' l
  | [], _ => trivial
  | _ :: _, h => ⟨h.1.below hk, Ints.below hk h.2⟩
theorem Ints.drew {w : World} : ∀ {l : List (Value × Int)}, Ints w l → Ints w.drew l
  | [], _ => trivial
  | _ :: _, h => ⟨h.1.drew, Ints.drew h.2⟩
theorem Ints.h {w : World} {V : Value} {z : Int} {l : List (Value × Int)} (h : Ints w ((V, z) :: l)) : IntNum w V z := h.1
theorem Ints.tl {w : World} {p : Value × Int} {l : List (Value × Int)} (h : Ints w (p :: l)) : Ints w l := h.2
theorem gives_eq {P : Program} {F : FuncId} {args : Array Value} {w : World} {z z' : Int} (h : Calls P F args w (Gives z w)) (e : z = z') : Calls P F args w (Gives z' w) := by subst e; exact h
theorem sign_s {w : World} {V : Value} {x s : Int} (h : IntNum w V x) (e : x.sign = s) : Calls Tryd.prog 26 #[V] w fun e w' => e = .returned (.int .i64 s) ∧ Keeps w w' := by subst e; exact sign_num h
theorem rsign_s {w : World} {V : Value} {x s : Int} (h : IntNum w V x) (e : x.sign = s) : Calls Tryd.prog 30 #[V] w fun e w' => e = .returned (.int .i64 s) ∧ Keeps w w' := by subst e; exact rsign_num h
theorem icompare_s {w : World} {V1 V2 : Value} {x y s : Int} (h1 : IntNum w V1 x) (h2 : IntNum w V2 y) (e : (x - y).sign = s) : Calls Tryd.prog 25 #[V1, V2] w fun e w' => e = .returned (.int .i64 s) ∧ Keeps w w' := by subst e; exact compare_num h1 h2
theorem lenI_abs (x : Int) : lenI (x.natAbs : Int) = lenI x := by unfold lenI; rw [Int.natAbs_natCast]
theorem lenI_mono {x y : Int} (h : x.natAbs ≤ y.natAbs) : lenI x ≤ lenI y := dig_length_mono h
end Go.Proofs.YthgbgoidnnfapaaDoor

namespace Go.Proofs.YthgbgoidnnfapaaDoor
open Go.RowKit Go.Shelf

theorem log_rep {w : World} {V : Value} {z s : Int} (h : ∃ neg xs, IntArg w V neg xs ∧ cnt neg xs = z ∧ xs.length ≤ 100000) (e : log2 z.natAbs = s) : Calls Tryd.prog 36 #[V] w fun e w' => e = .returned (.int .i64 s) ∧ Keeps w w' := by
  obtain ⟨neg, xs, h, rfl, hl⟩ := h
  subst e
  rw [cnt_abs]
  exact log_any neg xs V w h hl
theorem root_sign (z : Int) (s : Nat) (hz : 0 ≤ z) (h : IsRoot z s) : ((s : Int) * s - z).sign ≤ 0 ∧ (((s : Int) + 1) * (s + 1) - z).sign = 1 ∧ (s : Int).natAbs ≤ z.natAbs := by
  unfold IsRoot at h
  rw [if_neg (by omega)] at h
  refine ⟨?_, Int.sign_eq_one_of_pos (by omega), ?_⟩
  · rcases sign_pos_iff ((s : Int) * s - z) with ⟨h1, -⟩ | ⟨-, h1⟩
    · omega
    · exact h1
  · have : (s : Int) * 1 ≤ (s : Int) * s ∨ s = 0 := by
      rcases Nat.eq_zero_or_pos s with h0 | h0
      · exact .inr h0
      · exact .inl (Int.mul_le_mul_of_nonneg_left (by omega) (by omega))
    omega

theorem powZ_len (z n : Int) : lenI (powZ z n) ≤ 2300 := by
  unfold powZ
  split
  · rename_i h
    unfold powC at h
    split at h
    · omega
    · split at h
      · omega
      · rename_i h1 h2
        obtain ⟨N, rfl⟩ := Int.eq_ofNat_of_zero_le (show 0 ≤ n by omega)
        exact lenI_pow z _ N (Nat.le_refl _) (by have : ((N * dgs z.natAbs : Nat) : Int) ≤ 20000 := by push_cast; omega
                                                 omega)
  · simp [lenI, dig_zero]

def pw10Φ (s : Int) (Vr : Value) (k : Nat) : Nat → Value → World → Prop
  | 0, v, _ => v = Vr
  | 1, v, w => IntRep w v (1)
  | 2, v, w => IntRep w v (s + 1)
  | 3, v, w => ∃ b, v = .pointer (some ⟨b, 0, none⟩) ∧ k ≤ b ∧ Own w b 24 [.bool false, .slice none 0 0]
  | _, _, _ => True
def pw11Φ (s s1 : Int) (Vx Vr Vn : Value) : Nat → Value → World → Prop
  | 0, v, _ => v = Vr
  | 1, v, _ => v = Vr
  | 2, v, w => IntRep w v (s * s)
  | 3, v, _ => v = Vx
  | 4, v, _ => v = .int .i64 s1
  | 5, v, _ => v = .bool false
  | 6, v, _ => v = .bool false
  | 7, v, _ => v = Vn
  | 8, v, _ => v = Vn
  | 9, v, w => IntRep w v ((s + 1) * (s + 1))
  | 10, v, _ => v = Vx
  | 11, v, _ => v = .int .i64 1
  | 12, v, _ => v = .bool false
  | 13, v, _ => v = .bool false
  | _, _, _ => True
set_option maxRecDepth 100000 in
set_option maxHeartbeats 8000000 in
theorem powers_walk (n : Int) (n1 : Bool) (xs : List Nat) (V1 : Value) (w : World) (hkn : ∀ W, Keeps w W → KnownAt W) (ht : PowTab w) (h1 : IntArg w V1 n1 xs) (hn1 : -9223372036854775808 ≤ n) (hn2 : n ≤ 9223372036854775807) (hm1 : xs.length ≤ 9223372036854775807) :
    Calls Tryd.prog 9 #[V1, .int .i64 n] w fun e w' => e = .returned (.bool true) ∧ Keeps w w' := by
  obtain ⟨v1, rfl, hv1⟩ := h1
  have hkk := box2 w (.cells #[.bool n1, v1] 24)
  have hA := Own.new w 24 [.bool n1, v1]
  have hkn0 := Lib.hid (hkn _ hkk)
  clear hkn
  go_enter Tryd.func9, Tryd.ntmps9
  go_wp2_with fail
  have g1 := hv1.below hkk
  generalize w.alloc (.cells #[.bool n1, v1] 24) = W at *
  refine (hkn0.out).mono ?_
  rintro e w1 ⟨rfl, hk1⟩
  have hA1 := hA.below hk1
  have a0 := hA1.c0
  have a1 := hA1.c1
  have k1 := hkk.trans' hk1
  have g1 := g1.below hk1
  obtain ⟨A1, p1, q1, rfl, e1, -⟩ := g1.open_
  have hsh := Lib.hid (short1 n1 A1 p1 q1 _ _ (Own.new w1 24 [.bool n1, .slice A1 p1 q1]) (by omega))
  cases hS : shortB [p1] with
  | false =>
    rw [hS] at hsh
    clear hS e1
    go_wp2_with fail
    refine hsh.out.mono ?_
    rintro e w2 ⟨rfl, hk2⟩
    go_wp2
    go_ret
    exact ⟨rfl, (k1.trans' (box2 _ _)).trans' hk2⟩
  | true =>
    rw [hS] at hsh
    have hl1 : xs.length ≤ 12 := by simp [shortB] at hS; omega
    clear hS e1
    go_wp2_with fail
    refine hsh.out.mono ?_
    rintro e w2 ⟨rfl, hk2⟩
    have hk2' : Keeps w1 w2 := (box2 _ _).trans' hk2
    have hA2 := hA1.below hk2'
    have f1 := g1.below hk2'
    have k2 := k1.trans' hk2'
    clear a0 a1
    have a0 := hA2.c0
    have a1 := hA2.c1
    have hia : IntArg w2 (.agg #[.bool n1, .slice A1 p1 q1]) n1 xs := ⟨_, rfl, f1⟩
    have hvx : IntNum w2 (.agg #[.bool n1, .slice A1 p1 q1]) (cnt n1 xs) := ⟨_, _, hia, rfl, by omega⟩
    have ln1 := lenI_cnt n1 xs
    have hroot := Lib.hid (root_any n1 xs _ w2 hia (by omega))
    have hrroot := Lib.hid (fun W (k : Keeps w2 W) => rroot_any n1 xs _ W (hia.below k) (by omega))
    have hlog := Lib.hid (fun W (k : Keeps w2 W) s (e : log2 (cnt n1 xs).natAbs = s) => log_rep ⟨n1, xs, hia.below k, rfl, by omega⟩ e)
    have hpow := Lib.hid (fun W (k : Keeps w2 W) => power_any n1 xs _ n W (hia.below k) (by omega) ((ht.keep k2).keep k) hn1 hn2)
    have hrpow := Lib.hid (fun W (k : Keeps w2 W) => rpower_any n1 xs _ n W (hia.below k) (by omega) hn1 hn2)
    have hdig := Lib.hid (fun W (k : Keeps w2 W) => rdigits_any n1 xs _ W (hia.below k) (by omega))
    have ea := cnt_abs n1 xs
    rw [← ea] at hdig
    clear f1 hsh hA1 k1 hk1 hkk hkn0 hA g1 hv1 hk2 hk2' hia ht ea hm1
    generalize cnt n1 xs = x at *
    have lx : lenI x ≤ 12 := by omega
    clear ln1 hl1
    go_wp2_with fail
    refine hroot.out.mono ?_
    rintro e w3 ⟨Q3, s, rfl, hr3, hroot1, hk3⟩
    obtain ⟨A3, n3, c3, rfl, -⟩ := hr3.open_
    generalize decide ((s : Int) < 0) = b3 at *
    have kb := box2 w3 (.cells #[.bool b3, .slice A3 n3 c3] 24)
    have kb3 := hk3.trans' kb
    have hA3 := hA2.below kb3
    have hB3 := Own.new w3 24 [.bool b3, .slice A3 n3 c3]
    have hr4 := hr3.below kb
    have k3 := k2.trans' kb3
    have hE := Lib.hid (hrroot.out _ kb3)
    have hvx3 := hvx.below kb3
    clear a0 a1 hr3 hk3 hroot hrroot
    have a0 := hA3.c0
    have a1 := hA3.c1
    generalize hcode : (if x < 0 then (2 : Int) else 0) = code at *
    unfold RootRes at hE
    rw [hcode] at hE
    generalize hW3 : w3.alloc (.cells #[.bool b3, .slice A3 n3 c3] 24) = W3 at *
    have HCODE := Lib.hid hcode
    clear hcode
    go_wp2_with fail
    refine hE.out.mono ?_
    rintro e w4 ⟨Q4, s', rfl, hr5, hroot2, hk⟩
    clear hE hW3
    obtain rfl : s = s' := root_unique hroot1 hroot2
    obtain ⟨A4, n4, c4, rfl, -⟩ := hr5.open_
    generalize decide ((s : Int) < 0) = b4 at *
    have kb := box2 w4 (.cells #[.bool b4, .slice A4 n4 c4] 24)
    have kb4 := hk.trans' kb
    have hs : Boxes (w4.alloc (.cells #[.bool b4, .slice A4 n4 c4] 24)) 24 [(w.heap.size, .bool n1, .slice A1 p1 q1), (w3.heap.size, .bool b3, .slice A3 n3 c3), (w4.heap.size, .bool b4, .slice A4 n4 c4)] := ⟨hA3.below kb4, hB3.below kb4, Own.new w4 24 [.bool b4, .slice A4 n4 c4], trivial⟩
    have hr6 := hr4.below kb4
    have hr7 := hr5.below kb
    have k4 := k3.trans' kb4
    have kw := kb3.trans' kb4
    obtain ⟨L, hL⟩ : ∃ L, log2 x.natAbs = L := ⟨_, rfl⟩
    have HL := Lib.hid hL
    have hLL : (L != L) = false := by simp
    have hdl := dgs_len x.natAbs
    obtain ⟨D, hD⟩ : ∃ D, dgs x.natAbs = D := ⟨_, rfl⟩
    rw [hD] at hdig hdl
    have DB := Lib.hid (show (D : Int) ≤ 200 by unfold lenI at lx; omega)
    have HV := Lib.hid (hvx3.below kb4)
    have lxH := Lib.hid lx
    clear hL hdl hD hA3 hB3 hr4 hr5 k3 kb3 kb4 kb hk hvx3 a0 a1 hA2
    generalize hW4 : w4.alloc (.cells #[.bool b4, .slice A4 n4 c4] 24) = W4 at *
    have a0 := hs.c0
    have a1 := hs.c1
    have b0 := hs.tl.c0
    have b1 := hs.tl.c1
    have c0 := hs.tl.tl.c0
    have c1 := hs.tl.tl.c1
    by_cases hx0 : x < 0
    · have hcd : code = 2 := by rw [← HCODE.out, if_pos hx0]
      have hs0 : s = 0 := by unfold IsRoot at hroot1; rwa [if_pos hx0] at hroot1
      have hM := Lib.hid (same_num hr6 hr7 rfl (by rw [hs0]; simp [lenI, dig_zero]))
      subst hcd
      clear hx0 hs0 hroot1 hroot2
      go_wp2_with fail
      clear hW4
      refine hM.out.mono ?_
      rintro e w6 ⟨rfl, hk⟩
      have hX := (hs.below hk).o
      replace hvx := HV.out.below hk
      replace k4 := k4.trans' hk
      replace kw := kw.trans' hk
      clear hM hk hs hr6 hr7 a0 a1 b0 b1 c0 c1 HV
      have a0 := hX.c0
      have a1 := hX.c1
      go_wp2_with fail
      clear a0 a1
      replace hX := hX.drew
      replace hvx := hvx.drew
      replace k4 : Keeps w _ := Below.drew k4
      replace kw : Keeps w2 _ := Below.drew kw
      go_region_held3 (fun w' => w'.cell? ⟨w.heap.size, 0, none⟩ = some (.bool n1) ∧ w'.cell? ⟨w.heap.size, 1, none⟩ = some (.slice A1 p1 q1))
        (exact ⟨hX.c0, hX.c1⟩)
        (first
          | (go_at_call 36; refine (hlog.out _ kw _ HL.out).mono ?_; rintro e W5 ⟨rfl, hk⟩; replace hX := hX.below hk; replace hvx := hvx.below hk; replace k4 := k4.trans' hk; replace kw := kw.trans' hk)
          | (go_at_call 37; refine (rlog_s hvx HL.out).mono ?_; rintro e W5 ⟨rfl, hk⟩; replace hX := hX.below hk; replace hvx := hvx.below hk; replace k4 := k4.trans' hk; replace kw := kw.trans' hk))
      have a0 := hX.c0
      have a1 := hX.c1
      by_cases hneg : n < 0
      · have d1 : decide (0 ≤ n) = false := decide_eq_false (by omega)
        have d2 : ¬ 0 ≤ n := by omega
        go_wp2_with fail
        refine (hpow.out _ kw).mono ?_
        rintro e w8 ⟨Q8, rfl, hr8, hk⟩
        obtain ⟨A8, n8, c8, rfl, -⟩ := hr8.open_
        have kb := box2 w8 (.cells #[.bool (decide (powZ x n < 0)), .slice A8 n8 c8] 24)
        have kb8 := hk.trans' kb
        have hB8 := Own.new w8 24 [.bool (decide (powZ x n < 0)), .slice A8 n8 c8]
        replace hr8 := hr8.below kb
        replace hX := hX.below kb8
        replace k4 := k4.trans' kb8
        replace kw := kw.trans' kb8
        generalize decide (powZ x n < 0) = b8 at *
        clear a0 a1 kb kb8 hk
        have a0 := hX.c0
        have a1 := hX.c1
        generalize hW8 : w8.alloc (.cells #[.bool b8, .slice A8 n8 c8] 24) = W8 at *
        go_wp2_with fail
        refine (hrpow.out _ kw).mono ?_
        rintro e w9 ⟨Q9, rfl, hr9, hk⟩
        clear hW8
        obtain ⟨A9, n9, c9, rfl, -⟩ := hr9.open_
        generalize decide (powZ x n < 0) = b9 at *
        have kb := box2 w9 (.cells #[.bool b9, .slice A9 n9 c9] 24)
        have kb9 := hk.trans' kb
        replace hr9 := hr9.below kb
        replace hr8 := hr8.below kb9
        replace hB8 := hB8.below kb9
        replace k4 := k4.trans' kb9
        clear a0 a1 kb9 kb hk
        have c80 := hB8.c0
        have c81 := hB8.c1
        go_wp2_with fail
        refine (same_num hr8 hr9 rfl (by have := powZ_len x n; omega)).mono ?_
        rintro e w10 ⟨rfl, hk⟩
        replace k4 := k4.trans' hk
        go_wp2
        go_ret
        exact ⟨rfl, k4⟩
      · have d1 : decide (0 ≤ n) = true := decide_eq_true (by omega)
        have d2 : 0 ≤ n := by omega
        by_cases hbig : 4096 < n
        · have d3 : decide (n ≤ 4096) = false := decide_eq_false (by omega)
          have d4 : ¬ n ≤ 4096 := by omega
          go_wp2_with fail
          refine (hpow.out _ kw).mono ?_
          rintro e w8 ⟨Q8, rfl, hr8, hk⟩
          obtain ⟨A8, n8, c8, rfl, -⟩ := hr8.open_
          have kb := box2 w8 (.cells #[.bool (decide (powZ x n < 0)), .slice A8 n8 c8] 24)
          have kb8 := hk.trans' kb
          have hB8 := Own.new w8 24 [.bool (decide (powZ x n < 0)), .slice A8 n8 c8]
          replace hr8 := hr8.below kb
          replace hX := hX.below kb8
          replace k4 := k4.trans' kb8
          replace kw := kw.trans' kb8
          generalize decide (powZ x n < 0) = b8 at *
          clear a0 a1 kb kb8 hk
          have a0 := hX.c0
          have a1 := hX.c1
          generalize hW8 : w8.alloc (.cells #[.bool b8, .slice A8 n8 c8] 24) = W8 at *
          go_wp2_with fail
          refine (hrpow.out _ kw).mono ?_
          rintro e w9 ⟨Q9, rfl, hr9, hk⟩
          clear hW8
          obtain ⟨A9, n9, c9, rfl, -⟩ := hr9.open_
          generalize decide (powZ x n < 0) = b9 at *
          have kb := box2 w9 (.cells #[.bool b9, .slice A9 n9 c9] 24)
          have kb9 := hk.trans' kb
          replace hr9 := hr9.below kb
          replace hr8 := hr8.below kb9
          replace hB8 := hB8.below kb9
          replace k4 := k4.trans' kb9
          clear a0 a1 kb9 kb hk
          have c80 := hB8.c0
          have c81 := hB8.c1
          go_wp2_with fail
          refine (same_num hr8 hr9 rfl (by have := powZ_len x n; omega)).mono ?_
          rintro e w10 ⟨rfl, hk⟩
          replace k4 := k4.trans' hk
          go_wp2
          go_ret
          exact ⟨rfl, k4⟩
        · have d3 : decide (n ≤ 4096) = true := decide_eq_true (by omega)
          have d4 : n ≤ 4096 := by omega
          have hprod : n * (D : Int) ≤ 4096 * 200 := Int.mul_le_mul (by omega) DB.out (by omega) (by omega)
          have hprod0 : 0 ≤ n * (D : Int) := Int.mul_nonneg (by omega) (by omega)
          have wr1 : IntKind.i64.wrap (n * (D : Int)) = n * (D : Int) := IntWalk.i64_in _ (by omega)
          by_cases h60 : 60 < n * (D : Int)
          · have d5 : decide (60 < n * (D : Int)) = true := decide_eq_true h60
            by_cases h20 : n * (D : Int) ≤ 20000
            · have d6 : decide (n * (D : Int) ≤ 20000) = true := decide_eq_true h20
              go_wp2_with fail
              refine (hdig.out _ kw).mono ?_
              rintro e w7 ⟨rfl, hk⟩
              replace hX := hX.below hk
              replace hvx := hvx.below hk
              replace k4 := k4.trans' hk
              replace kw := kw.trans' hk
              clear a0 a1
              have a0 := hX.c0
              have a1 := hX.c1
              go_wp2_with fail
              refine (hdig.out _ kw).mono ?_
              rintro e w7 ⟨rfl, hk⟩
              replace k4 := k4.trans' hk
              go_wp2
              go_ret
              exact ⟨rfl, k4⟩
            · have d6 : decide (n * (D : Int) ≤ 20000) = false := decide_eq_false h20
              go_wp2_with fail
              refine (hdig.out _ kw).mono ?_
              rintro e w7 ⟨rfl, hk⟩
              replace hX := hX.below hk
              replace hvx := hvx.below hk
              replace k4 := k4.trans' hk
              replace kw := kw.trans' hk
              clear a0 a1
              have a0 := hX.c0
              have a1 := hX.c1
              go_wp2_with fail
              refine (hdig.out _ kw).mono ?_
              rintro e w7 ⟨rfl, hk⟩
              replace hX := hX.below hk
              replace hvx := hvx.below hk
              replace k4 := k4.trans' hk
              replace kw := kw.trans' hk
              clear a0 a1
              have a0 := hX.c0
              have a1 := hX.c1
              go_wp2_with fail
              refine (hpow.out _ kw).mono ?_
              rintro e w8 ⟨Q8, rfl, hr8, hk⟩
              obtain ⟨A8, n8, c8, rfl, -⟩ := hr8.open_
              have kb := box2 w8 (.cells #[.bool (decide (powZ x n < 0)), .slice A8 n8 c8] 24)
              have kb8 := hk.trans' kb
              have hB8 := Own.new w8 24 [.bool (decide (powZ x n < 0)), .slice A8 n8 c8]
              replace hr8 := hr8.below kb
              replace hX := hX.below kb8
              replace k4 := k4.trans' kb8
              replace kw := kw.trans' kb8
              generalize decide (powZ x n < 0) = b8 at *
              clear a0 a1 kb kb8 hk
              have a0 := hX.c0
              have a1 := hX.c1
              generalize hW8 : w8.alloc (.cells #[.bool b8, .slice A8 n8 c8] 24) = W8 at *
              go_wp2_with fail
              refine (hrpow.out _ kw).mono ?_
              rintro e w9 ⟨Q9, rfl, hr9, hk⟩
              clear hW8
              obtain ⟨A9, n9, c9, rfl, -⟩ := hr9.open_
              generalize decide (powZ x n < 0) = b9 at *
              have kb := box2 w9 (.cells #[.bool b9, .slice A9 n9 c9] 24)
              have kb9 := hk.trans' kb
              replace hr9 := hr9.below kb
              replace hr8 := hr8.below kb9
              replace hB8 := hB8.below kb9
              replace k4 := k4.trans' kb9
              clear a0 a1 kb9 kb hk
              have c80 := hB8.c0
              have c81 := hB8.c1
              go_wp2_with fail
              refine (same_num hr8 hr9 rfl (by have := powZ_len x n; omega)).mono ?_
              rintro e w10 ⟨rfl, hk⟩
              replace k4 := k4.trans' hk
              go_wp2
              go_ret
              exact ⟨rfl, k4⟩
          · have d5 : decide (60 < n * (D : Int)) = false := decide_eq_false h60
            go_wp2_with fail
            refine (hdig.out _ kw).mono ?_
            rintro e w7 ⟨rfl, hk⟩
            replace hX := hX.below hk
            replace hvx := hvx.below hk
            replace k4 := k4.trans' hk
            replace kw := kw.trans' hk
            clear a0 a1
            have a0 := hX.c0
            have a1 := hX.c1
            go_wp2_with fail
            refine (hpow.out _ kw).mono ?_
            rintro e w8 ⟨Q8, rfl, hr8, hk⟩
            obtain ⟨A8, n8, c8, rfl, -⟩ := hr8.open_
            have kb := box2 w8 (.cells #[.bool (decide (powZ x n < 0)), .slice A8 n8 c8] 24)
            have kb8 := hk.trans' kb
            have hB8 := Own.new w8 24 [.bool (decide (powZ x n < 0)), .slice A8 n8 c8]
            replace hr8 := hr8.below kb
            replace hX := hX.below kb8
            replace k4 := k4.trans' kb8
            replace kw := kw.trans' kb8
            generalize decide (powZ x n < 0) = b8 at *
            clear a0 a1 kb kb8 hk
            have a0 := hX.c0
            have a1 := hX.c1
            generalize hW8 : w8.alloc (.cells #[.bool b8, .slice A8 n8 c8] 24) = W8 at *
            go_wp2_with fail
            refine (hrpow.out _ kw).mono ?_
            rintro e w9 ⟨Q9, rfl, hr9, hk⟩
            clear hW8
            obtain ⟨A9, n9, c9, rfl, -⟩ := hr9.open_
            generalize decide (powZ x n < 0) = b9 at *
            have kb := box2 w9 (.cells #[.bool b9, .slice A9 n9 c9] 24)
            have kb9 := hk.trans' kb
            replace hr9 := hr9.below kb
            replace hr8 := hr8.below kb9
            replace hB8 := hB8.below kb9
            replace k4 := k4.trans' kb9
            clear a0 a1 kb9 kb hk
            have c80 := hB8.c0
            have c81 := hB8.c1
            go_wp2_with fail
            refine (same_num hr8 hr9 rfl (by have := powZ_len x n; omega)).mono ?_
            rintro e w10 ⟨rfl, hk⟩
            replace k4 := k4.trans' hk
            go_wp2
            go_ret
            exact ⟨rfl, k4⟩
    · have hcd : code = 0 := by rw [← HCODE.out, if_neg hx0]
      obtain ⟨rs1, rs2, rs3⟩ := root_sign x s (by omega) hroot1
      have ls : lenI s ≤ 12 := Nat.le_trans (lenI_mono rs3) lx
      have hM := Lib.hid (same_num hr6 hr7 rfl (by omega))
      have HS2 := Lib.hid rs2
      obtain ⟨s1, hs1⟩ : ∃ t, ((s : Int) * s - x).sign = t := ⟨_, rfl⟩
      rw [hs1] at rs1
      have HS1 := Lib.hid hs1
      subst hcd
      clear hx0 hroot1 hroot2 rs2 rs3 hs1
      have ls2 := lenI_add s 1
      have l1 : lenI 1 ≤ 1 := dig_length_le (n := (1 : Int).natAbs) (k := 1) (by decide)
      have ls3 := lenI_mul s s
      have ls4 := lenI_mul (s + 1) (s + 1)
      go_wp2_with fail
      clear hW4
      refine hM.out.mono ?_
      rintro e w6 ⟨rfl, hk⟩
      obtain ⟨W, rfl⟩ : ∃ W : World, W = w6 := ⟨_, rfl⟩
      have hv : Ints W [(.agg #[.bool n1, .slice A1 p1 q1], x), (.agg #[.bool b3, .slice A3 n3 c3], (s : Int))] := ⟨HV.out.below hk, (hr6.below hk).num (by omega), trivial⟩
      replace hs := hs.below hk
      replace k4 := k4.trans' hk
      replace kw := kw.trans' hk
      clear hM hk hr6 hr7 a0 a1 b0 b1 c0 c1 HV hvx
      have lt1 := hs.o.lt
      have lt2 := hs.tl.o.lt
      have lt3 := hs.tl.tl.o.lt
      have ltk := kw.size
      replace hs := hs.drew
      replace hv := hv.drew
      go_wp2_with fail
      refine wp_region_steps (m := 4) rfl (by kernel_rfl) (pw10Φ s (.agg #[.bool b3, .slice A3 n3 c3]) W.heap.size) [3] ?_ ?_ ?_
      · intro i v w w' hi h hk
        match i, hi with
        | 0, _ => exact h
        | 1, _ => exact IntRep.below h hk
        | 2, _ => exact IntRep.below h hk
        | 3, _ => exact h.elim fun b ⟨h1, h2, h3⟩ => ⟨b, h1, h2, h3.below hk⟩
        | i + 4, hi => exact absurd hi (by omega)
      · intro i hi vs wph3 hk3 hd
        have hs3 := hs.below hk3
        have hv3 := hv.below hk3
        have a0 := hs3.tl.c0
        have a1 := hs3.tl.c1
        match i, hi with
        | 0, _ =>
          refine step_yes (o := ⟨some 39, Op.load 24 (Operand.tmp 5), 24, "law.go:161", #[], none⟩) [] (by kernel_rfl) (by kernel_rfl) fun K hK => ?_
          simp only [frD] at hK ⊢
          refine ⟨by rfl, ?_⟩
          go_simp
          exact hK _ _ ⟨Below.refl _ _, rfl, by simp⟩
        | 1, _ =>
          refine step_yes (o := ⟨some 40, Op.call { callee := Callee.value (Operand.func 13), args := #[Operand.const (Value.int IntKind.i64 1)], argTypes := #[3] }, 24, "law.go:161", #[], none⟩) [] (by kernel_rfl) (by kernel_rfl) fun K hK => ?_
          simp only [frD] at hK ⊢
          refine ⟨by rfl, ?_⟩
          go_simp
          refine (of_any 1 _ (by omega) (by omega)).mono ?_
          rintro e wph4 ⟨U, rfl, hr, hk4⟩
          exact hK _ _ ⟨hk4, hr, by simp⟩
        | 2, _ =>
          have e0 : vs 0 = (.agg #[.bool b3, .slice A3 n3 c3]) := hd 0 (List.contains_iff_mem.1 (by kernel_rfl))
          have h1 : IntRep wph3 (vs 1) (1) := hd 1 (List.contains_iff_mem.1 (by kernel_rfl))
          refine step_yes (o := ⟨some 41, Op.call { callee := Callee.value (Operand.func 18), args := #[Operand.tmp 39, Operand.tmp 40], argTypes := #[24, 24] }, 24, "law.go:161", #[{ on := 0, ground := Ground.data }, { on := 1, ground := Ground.data }, { on := 1, ground := Ground.chain }], none⟩) [(0, some 39), (1, some 40)] (by kernel_rfl) (by kernel_rfl) fun K hK => ?_
          simp only [frD, e0] at hK ⊢
          refine ⟨by rfl, ?_⟩
          go_simp
          refine (add_num hv3.tl.h (h1.num (by omega))).mono ?_
          rintro e wph4 ⟨U, rfl, hr, hk4⟩
          exact hK _ _ ⟨hk4, hr, by simp⟩
        | 3, _ =>
          refine step_yes (o := ⟨some 9, Op.alloc 24, 0, "law.go:161", #[], none⟩) [] (by kernel_rfl) (by kernel_rfl) fun K hK => ?_
          simp only [frD] at hK ⊢
          refine ⟨by rfl, ?_⟩
          go_simp
          exact hK _ _ ⟨(Below.refl _ _).alloc (Nat.le_refl _) _, ⟨_, rfl, hk3.size, Own.new wph3 _ _⟩, fun _ => ⟨rfl, by simp⟩⟩
        | i + 4, hi => exact absurd hi (by omega)
      · intro vs wph3 hk3 hΦ hne
        simp only [List.drop_succ_cons, List.drop_zero]
        rw [fr_frD, show (List.range 4).map _ = [(0, some 39), (1, some 40), (2, some 41), (3, some 9)] by kernel_rfl]
        have ph0 := hΦ 0 (by omega)
        have ph1 := hΦ 1 (by omega)
        have ph2 := hΦ 2 (by omega)
        have ph3 := hΦ 3 (by omega)
        simp only [pw10Φ] at ph0 ph1 ph2 ph3
        clear hΦ
        obtain ⟨d3, q3, hl3, hO3⟩ := ph3
        clear hne
        simp only [frD, ph0, q3]
        clear ph0
        generalize vs 1 = U1 at ph1 ⊢
        generalize vs 2 = U2 at ph2 ⊢
        clear q3
        replace hs := hs.below hk3
        replace hv := hv.below hk3
        replace k4 := Keeps.trans' (w1 := W.drew) (Below.drew k4) hk3
        replace kw := Keeps.trans' (w1 := W.drew) (Below.drew kw) hk3
        obtain ⟨A9, n9, c9, rfl, -⟩ := ph2.open_
        generalize decide ((s : Int) + 1 < 0) = b9 at *
        have r0 := hO3.c0
        have r1 := hO3.c1
        have r2 := hO3.frozen 0
        have r3 := hO3.frozen 1
        go_upto_region 11 with fail
        obtain ⟨W9, hW9⟩ : ∃ W9, W9 = (wph3.setCell ⟨d3, 0, none⟩ (.bool b9)).setCell ⟨d3, 1, none⟩ (.slice A9 n9 c9) := ⟨_, rfl⟩
        rw [← hW9]
        obtain ⟨gP, gO, gS, gK⟩ := one_box hO3 rfl rfl rfl hW9
        have hs9 : Boxes W9 24 [(w.heap.size, .bool n1, .slice A1 p1 q1), (w3.heap.size, .bool b3, .slice A3 n3 c3), (w4.heap.size, .bool b4, .slice A4 n4 c4), (d3, .bool b9, .slice A9 n9 c9)] :=
          ⟨gO _ _ (by omega) hs.o, gO _ _ (by omega) hs.tl.o, gO _ _ (by omega) hs.tl.tl.o, gP, trivial⟩
        have hv9 : Ints W9 [(.agg #[.bool n1, .slice A1 p1 q1], x), (.agg #[.bool b3, .slice A3 n3 c3], (s : Int)), (.agg #[.bool b9, .slice A9 n9 c9], (s : Int) + 1)] := ⟨hv.h.map gS, hv.tl.h.map gS, (ph2.map gS).num (by omega), trivial⟩
        replace k4 := gK w (by omega) k4
        replace kw := gK w2 (by omega) kw
        clear hW9 gO gS gK r0 r1 r2 r3 gP hs hv ph1 ph2 hk3 hO3 hl3
        obtain ⟨W, rfl⟩ : ∃ W : World, W = W9 := ⟨_, rfl⟩
        have hs := hs9.drew
        have hv := hv9.drew
        replace k4 : Keeps w W.drew := Below.drew k4
        replace kw : Keeps w2 W.drew := Below.drew kw
        have e1 : decide (0 < s1) = false := decide_eq_false (by omega)
        have e2 : ¬ 0 < s1 := by omega
        clear hs9 hv9
        refine wp_region_steps (m := 14) rfl (by kernel_rfl) (pw11Φ s s1 (.agg #[.bool n1, .slice A1 p1 q1]) (.agg #[.bool b3, .slice A3 n3 c3]) (.agg #[.bool b9, .slice A9 n9 c9])) [] ?_ ?_ ?_
        · intro i v w w' hi h hk
          match i, hi with
          | 0, _ | 1, _ | 3, _ | 4, _ | 5, _ | 6, _ | 7, _ | 8, _ | 10, _ | 11, _ | 12, _ | 13, _ => exact h
          | 2, _ => exact IntRep.below h hk
          | 9, _ => exact IntRep.below h hk
          | i + 14, hi => exact absurd hi (by omega)
        · intro i hi vs wph3 hk3 hd
          have hs3 := hs.below hk3
          have hv3 := hv.below hk3
          have a0 := hs3.c0
          have a1 := hs3.c1
          have b0 := hs3.tl.c0
          have b1 := hs3.tl.c1
          have d0 := hs3.tl.tl.tl.c0
          have d1 := hs3.tl.tl.tl.c1
          match i, hi with
          | 0, _ =>
            refine step_yes (o := ⟨some 42, Op.load 24 (Operand.tmp 5), 24, "law.go:162", #[], none⟩) [] (by kernel_rfl) (by kernel_rfl) fun K hK => ?_
            simp only [frD] at hK ⊢
            refine ⟨by rfl, ?_⟩
            go_simp
            exact hK _ _ ⟨Below.refl _ _, rfl, by simp⟩
          | 1, _ =>
            refine step_yes (o := ⟨some 43, Op.load 24 (Operand.tmp 5), 24, "law.go:162", #[], none⟩) [] (by kernel_rfl) (by kernel_rfl) fun K hK => ?_
            simp only [frD] at hK ⊢
            refine ⟨by rfl, ?_⟩
            go_simp
            exact hK _ _ ⟨Below.refl _ _, rfl, by simp⟩
          | 2, _ =>
            have e0 : vs 0 = (.agg #[.bool b3, .slice A3 n3 c3]) := hd 0 (List.contains_iff_mem.1 (by kernel_rfl))
            have e1 : vs 1 = (.agg #[.bool b3, .slice A3 n3 c3]) := hd 1 (List.contains_iff_mem.1 (by kernel_rfl))
            refine step_yes (o := ⟨some 44, Op.call { callee := Callee.value (Operand.func 20), args := #[Operand.tmp 42, Operand.tmp 43], argTypes := #[24, 24] }, 24, "law.go:162", #[{ on := 0, ground := Ground.data }, { on := 1, ground := Ground.data }], none⟩) [(0, some 42), (1, some 43)] (by kernel_rfl) (by kernel_rfl) fun K hK => ?_
            simp only [frD, e0, e1] at hK ⊢
            refine ⟨by rfl, ?_⟩
            go_simp
            refine (mul_num hv3.tl.h hv3.tl.h).mono ?_
            rintro e wph4 ⟨U, rfl, hr, hk4⟩
            exact hK _ _ ⟨hk4, hr, by simp⟩
          | 3, _ =>
            refine step_yes (o := ⟨some 45, Op.load 24 (Operand.tmp 2), 24, "law.go:162", #[], none⟩) [] (by kernel_rfl) (by kernel_rfl) fun K hK => ?_
            simp only [frD] at hK ⊢
            refine ⟨by rfl, ?_⟩
            go_simp
            exact hK _ _ ⟨Below.refl _ _, rfl, by simp⟩
          | 4, _ =>
            have h2 : IntRep wph3 (vs 2) (s * s) := hd 2 (List.contains_iff_mem.1 (by kernel_rfl))
            have e3 : vs 3 = (.agg #[.bool n1, .slice A1 p1 q1]) := hd 3 (List.contains_iff_mem.1 (by kernel_rfl))
            refine step_yes (o := ⟨some 46, Op.call { callee := Callee.value (Operand.func 25), args := #[Operand.tmp 44, Operand.tmp 45], argTypes := #[24, 24] }, 3, "law.go:162", #[{ on := 2, ground := Ground.data }, { on := 3, ground := Ground.data }, { on := 2, ground := Ground.chain }], none⟩) [(2, some 44), (3, some 45)] (by kernel_rfl) (by kernel_rfl) fun K hK => ?_
            simp only [frD, e3] at hK ⊢
            refine ⟨by rfl, ?_⟩
            go_simp
            refine (icompare_s (h2.num (by omega)) hv3.h HS1.out).mono ?_
            rintro e wph4 ⟨rfl, hk4⟩
            exact hK _ _ ⟨hk4, rfl, by simp⟩
          | 5, _ =>
            have e4 : vs 4 = .int .i64 s1 := hd 4 (List.contains_iff_mem.1 (by kernel_rfl))
            refine step_yes (o := ⟨some 47, Op.binOp BinOp.gtr 3 (Operand.tmp 46) (Operand.const (Value.int IntKind.i64 0)) 3, 4, "law.go:162", #[{ on := 4, ground := Ground.data }], none⟩) [(4, some 46)] (by kernel_rfl) (by kernel_rfl) fun K hK => ?_
            simp only [frD, e4] at hK ⊢
            refine ⟨by rfl, ?_⟩
            go_simp
            exact hK _ _ ⟨Below.refl _ _, rfl, by simp⟩
          | 6, _ =>
            have e4 : vs 4 = .int .i64 s1 := hd 4 (List.contains_iff_mem.1 (by kernel_rfl))
            have e5 : vs 5 = .bool false := hd 5 (List.contains_iff_mem.1 (by kernel_rfl))
            refine step_yes (o := ⟨some 48, Op.move (Operand.tmp 47), 4, "law.go:162", #[{ on := 5, ground := Ground.data }, { on := 4, ground := Ground.chain }], none⟩) [(4, some 46), (5, some 47)] (by kernel_rfl) (by kernel_rfl) fun K hK => ?_
            simp only [frD, e4, e5] at hK ⊢
            refine ⟨by rfl, ?_⟩
            go_simp
            exact hK _ _ ⟨Below.refl _ _, rfl, by simp⟩
          | 7, _ =>
            have e6 : vs 6 = .bool false := hd 6 (List.contains_iff_mem.1 (by kernel_rfl))
            refine step_yes (o := ⟨some 49, Op.load 24 (Operand.tmp 9), 24, "law.go:162", #[{ on := 6, ground := Ground.guard }], some (6, false)⟩) [(6, some 48)] (by kernel_rfl) (by kernel_rfl) fun K hK => ?_
            simp only [frD, e6] at hK ⊢
            refine ⟨by rfl, ?_⟩
            go_simp
            exact hK _ _ ⟨Below.refl _ _, rfl, by simp⟩
          | 8, _ =>
            have e6 : vs 6 = .bool false := hd 6 (List.contains_iff_mem.1 (by kernel_rfl))
            refine step_yes (o := ⟨some 50, Op.load 24 (Operand.tmp 9), 24, "law.go:162", #[{ on := 6, ground := Ground.guard }], some (6, false)⟩) [(6, some 48)] (by kernel_rfl) (by kernel_rfl) fun K hK => ?_
            simp only [frD, e6] at hK ⊢
            refine ⟨by rfl, ?_⟩
            go_simp
            exact hK _ _ ⟨Below.refl _ _, rfl, by simp⟩
          | 9, _ =>
            have e6 : vs 6 = .bool false := hd 6 (List.contains_iff_mem.1 (by kernel_rfl))
            have e7 : vs 7 = (.agg #[.bool b9, .slice A9 n9 c9]) := hd 7 (List.contains_iff_mem.1 (by kernel_rfl))
            have e8 : vs 8 = (.agg #[.bool b9, .slice A9 n9 c9]) := hd 8 (List.contains_iff_mem.1 (by kernel_rfl))
            refine step_yes (o := ⟨some 51, Op.call { callee := Callee.value (Operand.func 20), args := #[Operand.tmp 49, Operand.tmp 50], argTypes := #[24, 24] }, 24, "law.go:162", #[{ on := 7, ground := Ground.data }, { on := 8, ground := Ground.data }, { on := 6, ground := Ground.chain }, { on := 6, ground := Ground.guard }], some (6, false)⟩) [(6, some 48), (7, some 49), (8, some 50)] (by kernel_rfl) (by kernel_rfl) fun K hK => ?_
            simp only [frD, e6, e7, e8] at hK ⊢
            refine ⟨by rfl, ?_⟩
            go_simp
            refine (mul_num hv3.tl.tl.h hv3.tl.tl.h).mono ?_
            rintro e wph4 ⟨U, rfl, hr, hk4⟩
            exact hK _ _ ⟨hk4, hr, by simp⟩
          | 10, _ =>
            have e6 : vs 6 = .bool false := hd 6 (List.contains_iff_mem.1 (by kernel_rfl))
            refine step_yes (o := ⟨some 52, Op.load 24 (Operand.tmp 2), 24, "law.go:162", #[{ on := 6, ground := Ground.guard }], some (6, false)⟩) [(6, some 48)] (by kernel_rfl) (by kernel_rfl) fun K hK => ?_
            simp only [frD, e6] at hK ⊢
            refine ⟨by rfl, ?_⟩
            go_simp
            exact hK _ _ ⟨Below.refl _ _, rfl, by simp⟩
          | 11, _ =>
            have e6 : vs 6 = .bool false := hd 6 (List.contains_iff_mem.1 (by kernel_rfl))
            have h9 : IntRep wph3 (vs 9) ((s + 1) * (s + 1)) := hd 9 (List.contains_iff_mem.1 (by kernel_rfl))
            have e10 : vs 10 = (.agg #[.bool n1, .slice A1 p1 q1]) := hd 10 (List.contains_iff_mem.1 (by kernel_rfl))
            refine step_yes (o := ⟨some 53, Op.call { callee := Callee.value (Operand.func 25), args := #[Operand.tmp 51, Operand.tmp 52], argTypes := #[24, 24] }, 3, "law.go:162", #[{ on := 9, ground := Ground.data }, { on := 10, ground := Ground.data }, { on := 9, ground := Ground.chain }, { on := 6, ground := Ground.guard }], some (6, false)⟩) [(6, some 48), (9, some 51), (10, some 52)] (by kernel_rfl) (by kernel_rfl) fun K hK => ?_
            simp only [frD, e6, e10] at hK ⊢
            refine ⟨by rfl, ?_⟩
            go_simp
            refine (icompare_s (h9.num (by omega)) hv3.h HS2.out).mono ?_
            rintro e wph4 ⟨rfl, hk4⟩
            exact hK _ _ ⟨hk4, rfl, by simp⟩
          | 12, _ =>
            have e6 : vs 6 = .bool false := hd 6 (List.contains_iff_mem.1 (by kernel_rfl))
            have e11 : vs 11 = .int .i64 1 := hd 11 (List.contains_iff_mem.1 (by kernel_rfl))
            refine step_yes (o := ⟨some 54, Op.binOp BinOp.leq 3 (Operand.tmp 53) (Operand.const (Value.int IntKind.i64 0)) 3, 4, "law.go:162", #[{ on := 11, ground := Ground.data }, { on := 6, ground := Ground.guard }], some (6, false)⟩) [(6, some 48), (11, some 53)] (by kernel_rfl) (by kernel_rfl) fun K hK => ?_
            simp only [frD, e6, e11] at hK ⊢
            refine ⟨by rfl, ?_⟩
            go_simp
            exact hK _ _ ⟨Below.refl _ _, rfl, by simp⟩
          | 13, _ =>
            have e6 : vs 6 = .bool false := hd 6 (List.contains_iff_mem.1 (by kernel_rfl))
            have e12 : vs 12 = .bool false := hd 12 (List.contains_iff_mem.1 (by kernel_rfl))
            refine step_yes (o := ⟨some 55, Op.pick (Operand.tmp 48) (Operand.const (Value.bool true)) (Operand.tmp 54), 4, "law.go:162", #[{ on := 6, ground := Ground.data }, { on := 12, ground := Ground.data }], none⟩) [(6, some 48), (12, some 54)] (by kernel_rfl) (by kernel_rfl) fun K hK => ?_
            simp only [frD, e6, e12] at hK ⊢
            refine ⟨by rfl, ?_⟩
            go_simp
            exact hK _ _ ⟨Below.refl _ _, rfl, by simp⟩
          | i + 14, hi => exact absurd hi (by omega)
        · intro vs wph3 hk3 hΦ _
          simp only [List.drop_succ_cons, List.drop_zero]
          rw [fr_frD, show (List.range 14).map _ = [(0, some 42), (1, some 43), (2, some 44), (3, some 45), (4, some 46), (5, some 47), (6, some 48), (7, some 49), (8, some 50), (9, some 51), (10, some 52), (11, some 53), (12, some 54), (13, some 55)] by kernel_rfl]
          have ph0 := hΦ 0 (by omega)
          have ph1 := hΦ 1 (by omega)
          have ph2 := hΦ 2 (by omega)
          have ph3 := hΦ 3 (by omega)
          have ph4 := hΦ 4 (by omega)
          have ph5 := hΦ 5 (by omega)
          have ph6 := hΦ 6 (by omega)
          have ph7 := hΦ 7 (by omega)
          have ph8 := hΦ 8 (by omega)
          have ph9 := hΦ 9 (by omega)
          have ph10 := hΦ 10 (by omega)
          have ph11 := hΦ 11 (by omega)
          have ph12 := hΦ 12 (by omega)
          have ph13 := hΦ 13 (by omega)
          simp only [pw11Φ] at ph0 ph1 ph2 ph3 ph4 ph5 ph6 ph7 ph8 ph9 ph10 ph11 ph12 ph13
          clear hΦ
          simp only [frD, ph0, ph1, ph3, ph4, ph5, ph6, ph7, ph8, ph10, ph11, ph12, ph13]
          simp only [Act.put, List.setIfInBounds_toArray, List.set_cons_zero, List.set_cons_succ]
          clear ph0
          clear ph1
          generalize vs 2 = U2 at ph2 ⊢
          clear ph3
          clear ph4
          clear ph5
          clear ph6
          clear ph7
          clear ph8
          generalize vs 9 = U9 at ph9 ⊢
          clear ph10
          clear ph11
          clear ph12
          clear ph13
          have hX := (hs.below hk3).o
          have hvx := (hv.below hk3).h
          replace k4 := k4.trans' hk3
          replace kw := kw.trans' hk3
          have a0 := hX.c0
          have a1 := hX.c1
          go_wp2_with fail
          clear a0 a1
          replace hX := hX.drew
          replace hvx := hvx.drew
          replace k4 : Keeps w _ := Below.drew k4
          replace kw : Keeps w2 _ := Below.drew kw
          go_region_held3 (fun w' => w'.cell? ⟨w.heap.size, 0, none⟩ = some (.bool n1) ∧ w'.cell? ⟨w.heap.size, 1, none⟩ = some (.slice A1 p1 q1))
            (exact ⟨hX.c0, hX.c1⟩)
            (first
              | (go_at_call 36; refine (hlog.out _ kw _ HL.out).mono ?_; rintro e W5 ⟨rfl, hk⟩; replace hX := hX.below hk; replace hvx := hvx.below hk; replace k4 := k4.trans' hk; replace kw := kw.trans' hk)
              | (go_at_call 37; refine (rlog_s hvx HL.out).mono ?_; rintro e W5 ⟨rfl, hk⟩; replace hX := hX.below hk; replace hvx := hvx.below hk; replace k4 := k4.trans' hk; replace kw := kw.trans' hk))
          have a0 := hX.c0
          have a1 := hX.c1
          by_cases hneg : n < 0
          · have d1 : decide (0 ≤ n) = false := decide_eq_false (by omega)
            have d2 : ¬ 0 ≤ n := by omega
            go_wp2_with fail
            refine (hpow.out _ kw).mono ?_
            rintro e w8 ⟨Q8, rfl, hr8, hk⟩
            obtain ⟨A8, n8, c8, rfl, -⟩ := hr8.open_
            have kb := box2 w8 (.cells #[.bool (decide (powZ x n < 0)), .slice A8 n8 c8] 24)
            have kb8 := hk.trans' kb
            have hB8 := Own.new w8 24 [.bool (decide (powZ x n < 0)), .slice A8 n8 c8]
            replace hr8 := hr8.below kb
            replace hX := hX.below kb8
            replace k4 := k4.trans' kb8
            replace kw := kw.trans' kb8
            generalize decide (powZ x n < 0) = b8 at *
            clear a0 a1 kb kb8 hk
            have a0 := hX.c0
            have a1 := hX.c1
            generalize hW8 : w8.alloc (.cells #[.bool b8, .slice A8 n8 c8] 24) = W8 at *
            go_wp2_with fail
            refine (hrpow.out _ kw).mono ?_
            rintro e w9 ⟨Q9, rfl, hr9, hk⟩
            clear hW8
            obtain ⟨A9, n9, c9, rfl, -⟩ := hr9.open_
            generalize decide (powZ x n < 0) = b9 at *
            have kb := box2 w9 (.cells #[.bool b9, .slice A9 n9 c9] 24)
            have kb9 := hk.trans' kb
            replace hr9 := hr9.below kb
            replace hr8 := hr8.below kb9
            replace hB8 := hB8.below kb9
            replace k4 := k4.trans' kb9
            clear a0 a1 kb9 kb hk
            have c80 := hB8.c0
            have c81 := hB8.c1
            go_wp2_with fail
            refine (same_num hr8 hr9 rfl (by have := powZ_len x n; omega)).mono ?_
            rintro e w10 ⟨rfl, hk⟩
            replace k4 := k4.trans' hk
            go_wp2
            go_ret
            exact ⟨rfl, k4⟩
          · have d1 : decide (0 ≤ n) = true := decide_eq_true (by omega)
            have d2 : 0 ≤ n := by omega
            by_cases hbig : 4096 < n
            · have d3 : decide (n ≤ 4096) = false := decide_eq_false (by omega)
              have d4 : ¬ n ≤ 4096 := by omega
              go_wp2_with fail
              refine (hpow.out _ kw).mono ?_
              rintro e w8 ⟨Q8, rfl, hr8, hk⟩
              obtain ⟨A8, n8, c8, rfl, -⟩ := hr8.open_
              have kb := box2 w8 (.cells #[.bool (decide (powZ x n < 0)), .slice A8 n8 c8] 24)
              have kb8 := hk.trans' kb
              have hB8 := Own.new w8 24 [.bool (decide (powZ x n < 0)), .slice A8 n8 c8]
              replace hr8 := hr8.below kb
              replace hX := hX.below kb8
              replace k4 := k4.trans' kb8
              replace kw := kw.trans' kb8
              generalize decide (powZ x n < 0) = b8 at *
              clear a0 a1 kb kb8 hk
              have a0 := hX.c0
              have a1 := hX.c1
              generalize hW8 : w8.alloc (.cells #[.bool b8, .slice A8 n8 c8] 24) = W8 at *
              go_wp2_with fail
              refine (hrpow.out _ kw).mono ?_
              rintro e w9 ⟨Q9, rfl, hr9, hk⟩
              clear hW8
              obtain ⟨A9, n9, c9, rfl, -⟩ := hr9.open_
              generalize decide (powZ x n < 0) = b9 at *
              have kb := box2 w9 (.cells #[.bool b9, .slice A9 n9 c9] 24)
              have kb9 := hk.trans' kb
              replace hr9 := hr9.below kb
              replace hr8 := hr8.below kb9
              replace hB8 := hB8.below kb9
              replace k4 := k4.trans' kb9
              clear a0 a1 kb9 kb hk
              have c80 := hB8.c0
              have c81 := hB8.c1
              go_wp2_with fail
              refine (same_num hr8 hr9 rfl (by have := powZ_len x n; omega)).mono ?_
              rintro e w10 ⟨rfl, hk⟩
              replace k4 := k4.trans' hk
              go_wp2
              go_ret
              exact ⟨rfl, k4⟩
            · have d3 : decide (n ≤ 4096) = true := decide_eq_true (by omega)
              have d4 : n ≤ 4096 := by omega
              have hprod : n * (D : Int) ≤ 4096 * 200 := Int.mul_le_mul (by omega) DB.out (by omega) (by omega)
              have hprod0 : 0 ≤ n * (D : Int) := Int.mul_nonneg (by omega) (by omega)
              have wr1 : IntKind.i64.wrap (n * (D : Int)) = n * (D : Int) := IntWalk.i64_in _ (by omega)
              by_cases h60 : 60 < n * (D : Int)
              · have d5 : decide (60 < n * (D : Int)) = true := decide_eq_true h60
                by_cases h20 : n * (D : Int) ≤ 20000
                · have d6 : decide (n * (D : Int) ≤ 20000) = true := decide_eq_true h20
                  go_wp2_with fail
                  refine (hdig.out _ kw).mono ?_
                  rintro e w7 ⟨rfl, hk⟩
                  replace hX := hX.below hk
                  replace hvx := hvx.below hk
                  replace k4 := k4.trans' hk
                  replace kw := kw.trans' hk
                  clear a0 a1
                  have a0 := hX.c0
                  have a1 := hX.c1
                  go_wp2_with fail
                  refine (hdig.out _ kw).mono ?_
                  rintro e w7 ⟨rfl, hk⟩
                  replace k4 := k4.trans' hk
                  go_wp2
                  go_ret
                  exact ⟨rfl, k4⟩
                · have d6 : decide (n * (D : Int) ≤ 20000) = false := decide_eq_false h20
                  go_wp2_with fail
                  refine (hdig.out _ kw).mono ?_
                  rintro e w7 ⟨rfl, hk⟩
                  replace hX := hX.below hk
                  replace hvx := hvx.below hk
                  replace k4 := k4.trans' hk
                  replace kw := kw.trans' hk
                  clear a0 a1
                  have a0 := hX.c0
                  have a1 := hX.c1
                  go_wp2_with fail
                  refine (hdig.out _ kw).mono ?_
                  rintro e w7 ⟨rfl, hk⟩
                  replace hX := hX.below hk
                  replace hvx := hvx.below hk
                  replace k4 := k4.trans' hk
                  replace kw := kw.trans' hk
                  clear a0 a1
                  have a0 := hX.c0
                  have a1 := hX.c1
                  go_wp2_with fail
                  refine (hpow.out _ kw).mono ?_
                  rintro e w8 ⟨Q8, rfl, hr8, hk⟩
                  obtain ⟨A8, n8, c8, rfl, -⟩ := hr8.open_
                  have kb := box2 w8 (.cells #[.bool (decide (powZ x n < 0)), .slice A8 n8 c8] 24)
                  have kb8 := hk.trans' kb
                  have hB8 := Own.new w8 24 [.bool (decide (powZ x n < 0)), .slice A8 n8 c8]
                  replace hr8 := hr8.below kb
                  replace hX := hX.below kb8
                  replace k4 := k4.trans' kb8
                  replace kw := kw.trans' kb8
                  generalize decide (powZ x n < 0) = b8 at *
                  clear a0 a1 kb kb8 hk
                  have a0 := hX.c0
                  have a1 := hX.c1
                  generalize hW8 : w8.alloc (.cells #[.bool b8, .slice A8 n8 c8] 24) = W8 at *
                  go_wp2_with fail
                  refine (hrpow.out _ kw).mono ?_
                  rintro e w9 ⟨Q9, rfl, hr9, hk⟩
                  clear hW8
                  obtain ⟨A9, n9, c9, rfl, -⟩ := hr9.open_
                  generalize decide (powZ x n < 0) = b9 at *
                  have kb := box2 w9 (.cells #[.bool b9, .slice A9 n9 c9] 24)
                  have kb9 := hk.trans' kb
                  replace hr9 := hr9.below kb
                  replace hr8 := hr8.below kb9
                  replace hB8 := hB8.below kb9
                  replace k4 := k4.trans' kb9
                  clear a0 a1 kb9 kb hk
                  have c80 := hB8.c0
                  have c81 := hB8.c1
                  go_wp2_with fail
                  refine (same_num hr8 hr9 rfl (by have := powZ_len x n; omega)).mono ?_
                  rintro e w10 ⟨rfl, hk⟩
                  replace k4 := k4.trans' hk
                  go_wp2
                  go_ret
                  exact ⟨rfl, k4⟩
              · have d5 : decide (60 < n * (D : Int)) = false := decide_eq_false h60
                go_wp2_with fail
                refine (hdig.out _ kw).mono ?_
                rintro e w7 ⟨rfl, hk⟩
                replace hX := hX.below hk
                replace hvx := hvx.below hk
                replace k4 := k4.trans' hk
                replace kw := kw.trans' hk
                clear a0 a1
                have a0 := hX.c0
                have a1 := hX.c1
                go_wp2_with fail
                refine (hpow.out _ kw).mono ?_
                rintro e w8 ⟨Q8, rfl, hr8, hk⟩
                obtain ⟨A8, n8, c8, rfl, -⟩ := hr8.open_
                have kb := box2 w8 (.cells #[.bool (decide (powZ x n < 0)), .slice A8 n8 c8] 24)
                have kb8 := hk.trans' kb
                have hB8 := Own.new w8 24 [.bool (decide (powZ x n < 0)), .slice A8 n8 c8]
                replace hr8 := hr8.below kb
                replace hX := hX.below kb8
                replace k4 := k4.trans' kb8
                replace kw := kw.trans' kb8
                generalize decide (powZ x n < 0) = b8 at *
                clear a0 a1 kb kb8 hk
                have a0 := hX.c0
                have a1 := hX.c1
                generalize hW8 : w8.alloc (.cells #[.bool b8, .slice A8 n8 c8] 24) = W8 at *
                go_wp2_with fail
                refine (hrpow.out _ kw).mono ?_
                rintro e w9 ⟨Q9, rfl, hr9, hk⟩
                clear hW8
                obtain ⟨A9, n9, c9, rfl, -⟩ := hr9.open_
                generalize decide (powZ x n < 0) = b9 at *
                have kb := box2 w9 (.cells #[.bool b9, .slice A9 n9 c9] 24)
                have kb9 := hk.trans' kb
                replace hr9 := hr9.below kb
                replace hr8 := hr8.below kb9
                replace hB8 := hB8.below kb9
                replace k4 := k4.trans' kb9
                clear a0 a1 kb9 kb hk
                have c80 := hB8.c0
                have c81 := hB8.c1
                go_wp2_with fail
                refine (same_num hr8 hr9 rfl (by have := powZ_len x n; omega)).mono ?_
                rintro e w10 ⟨rfl, hk⟩
                replace k4 := k4.trans' hk
                go_wp2
                go_ret
                exact ⟨rfl, k4⟩
end Go.Proofs.YthgbgoidnnfapaaDoor
