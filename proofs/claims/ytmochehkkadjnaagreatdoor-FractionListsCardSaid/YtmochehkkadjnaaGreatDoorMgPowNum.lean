/- The number of decimal digits; powers. No program in sight. The walks of digits and of the reference's Digits. The walk of Power. -/
import Derived.Test.YtmochehkkadjnaaGreatDoorMgNums
import Derived.Test.YtmochehkkadjnaaGreatDoorMgRefA
import Derived.Test.YtmochehkkadjnaaGreatDoorMgCmp
namespace Go.Proofs.YtmochehkkadjnaaGreatDoor
open Go

def dgs (m : Nat) : Nat := if m = 0 then 0 else Lib.nDigits m
theorem dgs_ten {m : Nat} (h : m ≠ 0) : dgs m = dgs (m / 10) + 1 := by
  unfold dgs
  rw [if_neg h]
  by_cases h10 : m < 10
  · rw [if_pos (by omega), Lib.nDigits_small h10]
  · rw [if_neg (by omega), Lib.nDigits_big h10]
theorem dgs_low : ∀ (k : Nat) (m : Nat), 10 ^ k ≤ m → dgs m = dgs (m / 10 ^ k) + k
  | 0, m, _ => by simp
  | k + 1, m, h => by
    have h1 : m ≠ 0 := by have : 0 < 10 ^ (k + 1) := Nat.pow_pos (by omega); omega
    rw [dgs_ten h1, dgs_low k (m / 10) (by rw [Nat.le_div_iff_mul_le (by omega)]; rw [Nat.pow_succ] at h; omega), Nat.div_div_eq_div_mul, show 10 * 10 ^ k = 10 ^ (k + 1) by rw [Nat.pow_succ, Nat.mul_comm]]
    omega
theorem dgs_lt : ∀ (k m : Nat), dgs m ≤ k → m < 10 ^ k
  | 0, m, h => by
    by_cases h0 : m = 0
    · subst h0; simp
    · rw [dgs_ten h0] at h; omega
  | k + 1, m, h => by
    by_cases h0 : m = 0
    · subst h0; exact Nat.pow_pos (by omega)
    · rw [dgs_ten h0] at h
      have := dgs_lt k (m / 10) (by omega)
      rw [Nat.pow_succ]
      omega
theorem dgs_groups (m : Nat) (h : m ≠ 0) : dgs m = 9 * ((dig m).length - 1) + dgs (ix (dig m) ((dig m).length - 1)) := by
  induction m using Nat.strongRecOn with
  | _ m ih =>
    by_cases hs : m < 1000000000
    · rw [dig_small h hs]; simp [ix]
    · have h2 : m / 1000000000 ≠ 0 := by omega
      have hi := ih (m / 1000000000) (by omega) h2
      have hl := dgs_low 9 m (by omega)
      rw [show (10 : Nat) ^ 9 = 1000000000 from rfl] at hl
      have hp := dig_length_pos.2 h2
      rw [dig_pos h, hl, hi]
      rw [List.length_cons, show (dig (m / 1000000000)).length + 1 - 1 = ((dig (m / 1000000000)).length - 1) + 1 by omega, ix_succ]
      omega
theorem dgs_dec (m : Nat) (h : m ≠ 0) : dgs m = (Lib.decDigits m).length := by rw [Lib.decDigits_length]; exact if_neg h
theorem dgs_len (m : Nat) : dgs m ≤ 9 * (dig m).length := by
  by_cases h : m = 0
  · subst h; simp [dgs]
  · have hp := dig_length_pos.2 h
    have hx := (AllB.dig m).ix ((dig m).length - 1)
    have hd : dgs (ix (dig m) ((dig m).length - 1)) ≤ 9 := by
      by_cases h0 : ix (dig m) ((dig m).length - 1) = 0
      · rw [h0]; simp [dgs]
      · rw [dgs_dec _ h0]; exact (decDigits_len _ hx).1
    rw [dgs_groups m h]
    omega
theorem pow_lt_of (m k D : Nat) (h : m < 10 ^ D) : m ^ k < 10 ^ (D * k) ∨ k = 0 := by
  rcases Nat.eq_zero_or_pos k with h0 | h0
  · exact .inr h0
  · left
    rw [Nat.pow_mul]
    exact Nat.pow_lt_pow_left h (by omega)
theorem pow_len' (m k n K : Nat) (hK : 2300 ≤ K) (hk : k ≤ n) (h : n * dgs m ≤ 20000) : (dig (m ^ k)).length ≤ K := by
  rcases pow_lt_of m k (dgs m) (dgs_lt _ _ (Nat.le_refl _)) with h1 | h1
  · refine dig_length_le (Nat.lt_of_lt_of_le h1 ?_)
    have h2 : dgs m * k ≤ 20000 := Nat.le_trans (Nat.mul_le_mul_left _ hk) (by rw [Nat.mul_comm]; exact h)
    have h3 : dgs m * k ≤ 9 * K := by omega
    clear h1
    rw [show (1000000000 : Nat) = 10 ^ 9 from rfl, ← Nat.pow_mul]
    exact Nat.pow_le_pow_right (by decide) h3
  · subst h1
    exact Nat.le_trans (dig_length_le (k := 1) (by simp)) (by omega)
theorem pow_len (m k n : Nat) (hk : k ≤ n) (h : n * dgs m ≤ 20000) : (dig (m ^ k)).length ≤ 2300 := by
  obtain ⟨K, hK⟩ : ∃ K, 2300 = K := ⟨_, rfl⟩
  rw [hK]
  exact pow_len' m k n K (by omega) hk h
theorem pow_len2 (m a n : Nat) (hk : 2 * a ≤ n) (h : n * dgs m ≤ 20000) : (dig (m ^ a * m ^ a)).length ≤ 2300 := by
  rw [← Nat.pow_add]; exact pow_len m (a + a) n (by omega) h
theorem bit_step (n j : Nat) : n / 2 ^ j = 2 * (n / 2 ^ (j + 1)) + n / 2 ^ j % 2 := by
  rw [Nat.pow_succ, ← Nat.div_div_eq_div_mul]
  have := Nat.div_add_mod (n / 2 ^ j) 2
  omega
theorem and_bit (n j : Nat) : n &&& 2 ^ j = if n / 2 ^ j % 2 = 1 then 2 ^ j else 0 := by
  have h : (n &&& 2 ^ j) = if n.testBit j then 2 ^ j else 0 := by
    apply Nat.eq_of_testBit_eq
    intro i
    rw [Nat.testBit_and, Nat.testBit_two_pow]
    by_cases h : n.testBit j <;> by_cases hj : j = i <;> simp_all
  rw [h, Nat.testBit_eq_decide_div_mod_eq]
  by_cases h : n / 2 ^ j % 2 = 1 <;> simp [h]
end Go.Proofs.YtmochehkkadjnaaGreatDoor

namespace Go.Proofs.YtmochehkkadjnaaGreatDoor
open Go.RowKit Go.Shelf

set_option maxRecDepth 100000 in
set_option maxHeartbeats 400000 in
theorem digits_any (v : Value) (m : Nat) (w : World) (h : U32 w v (dig m)) (hm : (dig m).length ≤ 900000) (ht : PowTab w) :
    Calls Tryz.prog 187 #[v] w fun e w' => e = .returned (.int .i64 (dgs m : Nat)) ∧ Keeps w w' := by
  obtain ⟨A, n, c, rfl, e1, -, -, -, r1⟩ := h.open_
  by_cases h0 : m = 0
  · subst h0
    obtain rfl : n = 0 := by rw [dig_zero] at e1; simpa using e1.symm
    clear e1
    go_enter Tryz.func187, Tryz.ntmps187
    go_wp2
    go_ret
    exact ⟨rfl, Below.refl _ _⟩
  · have hn : 0 < n := by have := dig_length_pos.2 h0; omega
    have hD := dgs_groups m h0
    have hl := dig_last h0
    rw [e1] at hD hl
    obtain ⟨b, o, rfl, hb, hcell⟩ := r1 hn
    have hc := hcell (n - 1) (by omega)
    unfold u32 at hc
    have hx := (AllB.dig m).ix (n - 1)
    generalize ix (dig m) (n - 1) = x at *
    have hL := dgs_dec x hl
    have h9 := (decDigits_len x hx).1
    obtain ⟨L, hLL⟩ : ∃ L, (Lib.decDigits x).length = L := ⟨_, rfl⟩
    rw [hLL] at hL h9
    have hI := Lib.hid (itoa_any x hx w ht)
    have hsz : (⟨(Lib.decDigits x).toArray⟩ : ByteArray).size = L := by rw [← hLL]; rfl
    generalize (⟨(Lib.decDigits x).toArray⟩ : ByteArray) = s at *
    have hxI : (x : Int) < 1000000000 := by omega
    have HD := Lib.hid hD
    have HL := Lib.hid hL
    have hqI : (n : Int) ≤ 900000 := by omega
    have hnI : (1 : Int) ≤ n := by omega
    have hsL : (s.size : Int) = L := by omega
    have HS := Lib.hid hsz
    clear hD hL e1 h0 hl hLL hcell hsz hx hm
    go_enter Tryz.func187, Tryz.ntmps187
    have hn0 : ((n : Int) == 0) = false := by simp; omega
    clear h r1
    go_wp2_with fail
    refine hI.out.mono ?_
    rintro e w1 ⟨rfl, hk1⟩
    go_wp2
    go_ret
    exact ⟨ret_int (by have := HD.out; have := HL.out; omega), hk1⟩
end Go.Proofs.YtmochehkkadjnaaGreatDoor

namespace Go.Proofs.YtmochehkkadjnaaGreatDoor
open Go.RowKit Go.Shelf

def powC (z n : Int) : Int := if n < 0 ∨ 4096 < n then 2 else if 20000 < n * (dgs z.natAbs : Nat) then 9 else 0
def powZ (z n : Int) : Int := if powC z n = 0 then z ^ n.toNat else 0
def bitOf : Nat → Nat
  | 0 => 0
  | k + 1 => 2 ^ k
theorem bitOf_half (k : Nat) : bitOf (k + 1) / 2 = bitOf k := by
  cases k with
  | zero => rfl
  | succ k => simp only [bitOf]; rw [Nat.pow_succ]; omega
theorem bitOf_le {k : Nat} (h : k ≤ 13) : bitOf k ≤ 4096 := by
  cases k with
  | zero => simp [bitOf]
  | succ k => exact Nat.pow_le_pow_right (n := 2) (by omega) (show k ≤ 12 by omega)
theorem bitOf_pos (k : Nat) : 0 < bitOf (k + 1) := Nat.pow_pos (by omega)
theorem pow_round (m n k : Nat) : m ^ (n / 2 ^ k) = if n &&& bitOf (k + 1) = 0 then m ^ (n / 2 ^ (k + 1)) * m ^ (n / 2 ^ (k + 1)) else m ^ (n / 2 ^ (k + 1)) * m ^ (n / 2 ^ (k + 1)) * m := by
  rw [show bitOf (k + 1) = 2 ^ k from rfl, and_bit]
  have h := bit_step n k
  have h2 : (2 : Nat) ^ k ≠ 0 := Nat.pos_iff_ne_zero.1 (Nat.pow_pos (by omega))
  rw [← Nat.pow_add]
  by_cases hb : n / 2 ^ k % 2 = 1
  · rw [if_pos hb, if_neg h2, ← Nat.pow_succ]; congr 1; omega
  · rw [if_neg hb, if_pos rfl]; congr 1; omega
theorem bits_and_i64_nat (a b : Nat) (ha : a < 4294967296) (hb : b < 4294967296) : bits .and .i64 (a : Int) (b : Int) = ((a &&& b : Nat) : Int) := by
  have hx : a &&& b < 2 ^ 32 := Nat.and_lt_two_pow _ (by omega)
  have h1 : (BitVec.ofInt 64 (a : Int)).toNat = a := by
    rw [BitVec.ofInt_natCast, BitVec.toNat_ofNat]; exact Nat.mod_eq_of_lt (by omega)
  have h2 : (BitVec.ofInt 64 (b : Int)).toNat = b := by
    rw [BitVec.ofInt_natCast, BitVec.toNat_ofNat]; exact Nat.mod_eq_of_lt (by omega)
  show IntKind.i64.wrap ((BitVec.ofInt 64 (a : Int) &&& BitVec.ofInt 64 (b : Int)).toNat : Int) = _
  rw [BitVec.toNat_and, h1, h2]
  exact IntWalk.i64_in _ (by omega)
theorem sgn_pow (neg : Bool) (m : Nat) : ∀ n : Nat, (sgn neg m) ^ n = sgn (neg && decide (n % 2 = 1)) (m ^ n)
  | 0 => by simp [sgn]
  | n + 1 => by
    rw [Int.pow_succ, sgn_pow neg m n, Nat.pow_succ]
    cases neg
    · simp [sgn]
    · rcases Nat.mod_two_eq_zero_or_one n with h | h
      · have h2 : (n + 1) % 2 = 1 := by omega
        simp [sgn, h, h2, Int.mul_neg]
      · have h2 : (n + 1) % 2 = 0 := by omega
        simp [sgn, h, h2, Int.mul_neg, Int.neg_mul]
set_option maxRecDepth 100000 in
set_option maxHeartbeats 1000000 in
theorem power_any (neg : Bool) (xs : List Nat) (V : Value) (n : Int) (w : World) (h : IntArg w V neg xs) (hm : xs.length ≤ 900000) (ht : PowTab w) (hn1 : -9223372036854775808 ≤ n) (hn2 : n ≤ 9223372036854775807) :
    Calls Tryz.prog 150 #[V, .int .i64 n] w fun e w' => ∃ Q, e = .returned (.tuple #[Q, .int .i64 (powC (cnt neg xs) n)]) ∧ IntRep w' Q (powZ (cnt neg xs) n) ∧ Keeps w w' := by
  obtain ⟨v, rfl, hv⟩ := h
  have hml := mag_length neg xs
  have hkk := keep2 w (.cells #[.bool neg, v] 24) (.cells #[.bool false, .slice none 0 0] 24)
  have hG := Lib.hid (fun W (hW : IntArg W (.agg #[.bool neg, v]) neg xs) => groups_any neg xs (.agg #[.bool neg, v]) W hW (by omega))
  have hR := own2 w (.cells #[.bool neg, v] 24) 24 [.bool false, .slice none 0 0]
  have hA := (Own.new w 24 [.bool neg, v]).alloc (.cells #[.bool false, .slice none 0 0] 24)
  have HC := Lib.hid (show cnt neg xs = sgn neg (mag neg xs) from rfl)
  generalize cnt neg xs = z at *
  generalize mag neg xs = m at *
  go_enter Tryz.func150, Tryz.ntmps150
  go_wp2_with fail
  have g1 := hv.below hkk
  generalize (w.alloc (.cells #[.bool neg, v] 24)).alloc (.cells #[.bool false, .slice none 0 0] 24) = W at *
  refine (hG.out _ ⟨v, rfl, g1⟩).mono ?_
  rintro e w1 ⟨u1, rfl, hu1, hk1⟩
  have hA1 := hA.below hk1
  have hR1 := hR.below hk1
  have k1 := hkk.trans' hk1
  have f0 := hR1.frozen 0
  have f1 := hR1.frozen 1
  have r0 := hR1.c0
  have r1 := hR1.c1
  have a0 := hA1.c0
  have a1 := hA1.c1
  clear hG g1 hk1 hkk hA hR hv
  have kE := (k1.set (p := ⟨w.heap.size + 1, 0, none⟩) (by simp only; omega) (.bool false)).set (p := ⟨w.heap.size + 1, 1, none⟩) (by simp only; omega) (.slice none 0 0)
  by_cases hneg : n < 0
  · have hd : decide (n < 0) = true := decide_eq_true hneg
    have hc : powC z n = 2 := if_pos (.inl hneg)
    have hz : powZ z n = 0 := if_neg (by rw [hc]; decide)
    have HCC := Lib.hid hc
    have HZZ := Lib.hid hz
    clear hc hz
    go_wp2
    have hR4 := hR1.two (.bool false) (.slice none 0 0)
    refine bodyPost_ret (v := .tuple #[.agg #[.bool false, .slice none 0 0], .int .i64 2]) (by simp [results, Tryz.results150, go_sem, hR4.cell 0, hR4.cell 1]) rfl ?_
    exact ⟨_, by rw [HCC.out], by rw [HZZ.out]; exact IntRep.zero _, kE⟩
  · have hd : decide (n < 0) = false := decide_eq_false hneg
    by_cases hbig : 4096 < n
    · have hd2 : decide (4096 < n) = true := decide_eq_true hbig
      have hc : powC z n = 2 := if_pos (.inr hbig)
      have hz : powZ z n = 0 := if_neg (by rw [hc]; decide)
      have HCC := Lib.hid hc
      have HZZ := Lib.hid hz
      clear hc hz
      go_wp2
      have hR4 := hR1.two (.bool false) (.slice none 0 0)
      refine bodyPost_ret (v := .tuple #[.agg #[.bool false, .slice none 0 0], .int .i64 2]) (by simp [results, Tryz.results150, go_sem, hR4.cell 0, hR4.cell 1]) rfl ?_
      exact ⟨_, by rw [HCC.out], by rw [HZZ.out]; exact IntRep.zero _, kE⟩
    · have hd2 : decide (4096 < n) = false := decide_eq_false hbig
      have ez : z.natAbs = m := by rw [HC.out, sgn_natAbs]
      have hdl := dgs_len m
      have hdI : ((dgs m : Nat) : Int) ≤ 9000000 := by omega
      obtain ⟨D, hD⟩ : ∃ D, dgs m = D := ⟨_, rfl⟩
      rw [hD] at hdI
      have hprod : n * (D : Int) ≤ 4096 * 9000000 := Int.mul_le_mul (by omega) hdI (by omega) (by omega)
      have hprod0 : 0 ≤ n * (D : Int) := Int.mul_nonneg (by omega) (by omega)
      have wr1 : IntKind.i64.wrap (n * (D : Int)) = n * (D : Int) := IntWalk.i64_in _ (by omega)
      have hdg := Lib.hid (fun W (k : Keeps w1 W) => digits_any u1 m W (hu1.below k) (by omega) ((ht.keep k1).keep k))
      rw [hD] at hdg
      have HD := Lib.hid hD
      have EZ := Lib.hid ez
      clear hD ez hdl
      by_cases hlong : 20000 < n * (D : Int)
      · have hd3 : decide (20000 < n * (D : Int)) = true := decide_eq_true hlong
        go_wp2_with fail
        refine (hdg.out _ (Below.refl _ _)).mono ?_
        rintro e w2 ⟨rfl, hk2⟩
        have hc : powC z n = 9 := by unfold powC; rw [if_neg (by omega), if_pos (by rw [EZ.out, HD.out]; exact hlong)]
        have hz : powZ z n = 0 := if_neg (by rw [hc]; decide)
        have HCC := Lib.hid hc
        have HZZ := Lib.hid hz
        clear hc hz r0 r1 f0 f1
        have hR2 := hR1.below hk2
        have r0 := hR2.c0
        have r1 := hR2.c1
        have f0 := hR2.frozen 0
        have f1 := hR2.frozen 1
        have kE := ((k1.trans' hk2).set (p := ⟨w.heap.size + 1, 0, none⟩) (by simp only; omega) (.bool false)).set (p := ⟨w.heap.size + 1, 1, none⟩) (by simp only; omega) (.slice none 0 0)
        go_wp2
        have hR4 := hR2.two (.bool false) (.slice none 0 0)
        refine bodyPost_ret (v := .tuple #[.agg #[.bool false, .slice none 0 0], .int .i64 9]) (by simp [results, Tryz.results150, go_sem, hR4.cell 0, hR4.cell 1]) rfl ?_
        exact ⟨_, by rw [HCC.out], by rw [HZZ.out]; exact IntRep.zero _, kE⟩
      · have hd3 : decide (20000 < n * (D : Int)) = false := decide_eq_false hlong
        obtain ⟨N, rfl⟩ := Int.eq_ofNat_of_zero_le (show 0 ≤ n by omega)
        have hND : N * dgs m ≤ 20000 := by rw [HD.out]; have : ((N * D : Nat) : Int) ≤ 20000 := by push_cast; omega
                                           omega
        have hc : powC z N = 0 := by unfold powC; rw [if_neg (by omega), if_neg (by rw [EZ.out, HD.out]; exact hlong)]
        have hz : powZ z N = z ^ N := if_pos hc
        have HCC := Lib.hid hc
        have HZZ := Lib.hid hz
        have HND := Lib.hid hND
        have hN : N ≤ 4096 := by omega
        go_wp2_with fail
        refine (hdg.out _ (Below.refl _ _)).mono ?_
        rintro e w2 ⟨rfl, hk2⟩
        have hA2 := (hA1.below hk2).alloc (.cells #[.int .u32 1] 93)
        have hR2 := (hR1.below hk2).alloc (.cells #[.int .u32 1] 93)
        have hu2 := (hu1.below hk2).below (box2 w2 (.cells #[.int .u32 1] 93))
        have hone : U32 (w2.alloc (.cells #[.int .u32 1] 93)) (.slice (some ⟨w2.heap.size, 0, none⟩) 1 1) (dig 1) := by
          rw [dig_small (by decide) (by decide)]
          exact U32.mk (xs := [1]) (Own.row (xs := [1]) (Own.new w2 93 (u32s [1]))) (Nat.le_refl _) (by simp [maxLen]) (by intro e; cases e)
        have k3 := (k1.trans' hk2).trans' (box2 w2 (.cells #[.int .u32 1] 93))
        clear hND hc hz
        go_wp2
        clear hprod hprod0 wr1 hd hd2 hd3 hlong hneg hbig hdI kE hA1 hR1 hk2 r0 r1 f0 f1 a0 a1 hu1 k1 hdg
        go_loopw [7, 8] (fun o b wr => ∃ k : Nat, k ≤ 13 ∧ b = .int .i64 (bitOf k : Nat) ∧ U32 wr o (dig (m ^ (N / 2 ^ k))) ∧ Own wr w.heap.size 24 [.bool neg, v] ∧ Own wr (w.heap.size + 1) 24 [.bool false, .slice none 0 0] ∧ U32 wr u1 (dig m) ∧ Keeps w wr) (fun _ b _ => (intOf b).toNat)
        case atStart => exact ⟨13, Nat.le_refl _, rfl, by rw [Nat.div_eq_of_lt (by omega)]; exact hone, hA2, hR2, hu2, k3⟩
        case round =>
          clear hone hA2 hR2 hu2 k3
          obtain ⟨k, hk, rfl, hu, hA2, hR2, hu2, k3⟩ := hrel
          match k, hk with
          | 0, _ =>
            rw [show bitOf 0 = 0 from rfl]
            have r0 := hA2.c0
            have r1 := hA2.c1
            have r2 := hR2.c0
            have r3 := hR2.c1
            have f0 := hR2.frozen 0
            have f1 := hR2.frozen 1
            rw [show N / 2 ^ 0 = N by simp] at hu
            have hem : z ^ N = sgn (neg && decide (N % 2 = 1)) (m ^ N) := by rw [HC.out]; exact sgn_pow neg m N
            have HEM := Lib.hid hem
            clear hem
            have hmod : ((N : Int).tmod 2) = ((N % 2 : Nat) : Int) := by rw [Int.natCast_emod]; exact IntWalk.rem_in _ _ (by omega)
            obtain ⟨R, hRR⟩ : ∃ R, N % 2 = R := ⟨_, rfl⟩
            rw [hRR] at hmod
            have hmod2 : (N : Int) % 2 = (R : Int) := by omega
            have HRR := Lib.hid hRR
            clear hRR
            cases neg
            · go_wp2_with fail
              refine (made_d false _ (m ^ N) _ hu).mono ?_
              rintro e w5 ⟨V5, rfl, hr5, hk5⟩
              rw [show sgn false (m ^ N) = z ^ N by rw [HEM.out]; rfl] at hr5
              have hR5 := hR2.below hk5
              have k5 := k3.trans' hk5
              obtain ⟨A5, n5, c5, rfl, -⟩ := hr5.open_
              clear r2 r3 f0 f1
              have r2 := hR5.c0
              have r3 := hR5.c1
              have f0 := hR5.frozen 0
              have f1 := hR5.frozen 1
              have hx5 := hr5.two (x' := .bool (decide (z ^ N < 0))) (y' := .slice A5 n5 c5) hR5 rfl rfl rfl
              generalize decide (z ^ N < 0) = d5 at *
              have kE := (k5.set (p := ⟨w.heap.size + 1, 0, none⟩) (by simp only; omega) (.bool d5)).set (p := ⟨w.heap.size + 1, 1, none⟩) (by simp only; omega) (.slice A5 n5 c5)
              go_wp2
              have hR4 := hR5.two (.bool d5) (.slice A5 n5 c5)
              refine bodyPost_ret (v := .tuple #[.agg #[.bool d5, .slice A5 n5 c5], .int .i64 0]) (by simp [results, Tryz.results150, go_sem, hR4.cell 0, hR4.cell 1]) rfl ?_
              exact ⟨_, by rw [HCC.out], by rw [HZZ.out]; exact hx5, kE⟩
            · obtain ⟨sg, hs1⟩ : ∃ sg, ((R : Int) == 1) = sg := ⟨_, rfl⟩
              have hs2 : decide (N % 2 = 1) = sg := by
                rw [← hs1, HRR.out, Bool.eq_iff_iff]
                simp
                omega
              rw [hs2] at HEM
              clear hs2
              go_wp2_with fail
              refine (made_d sg _ (m ^ N) _ hu).mono ?_
              rintro e w5 ⟨V5, rfl, hr5, hk5⟩
              rw [show sgn sg (m ^ N) = z ^ N by rw [HEM.out]; rfl] at hr5
              have hR5 := hR2.below hk5
              have k5 := k3.trans' hk5
              obtain ⟨A5, n5, c5, rfl, -⟩ := hr5.open_
              clear r2 r3 f0 f1
              have r2 := hR5.c0
              have r3 := hR5.c1
              have f0 := hR5.frozen 0
              have f1 := hR5.frozen 1
              have hx5 := hr5.two (x' := .bool (decide (z ^ N < 0))) (y' := .slice A5 n5 c5) hR5 rfl rfl rfl
              generalize decide (z ^ N < 0) = d5 at *
              have kE := (k5.set (p := ⟨w.heap.size + 1, 0, none⟩) (by simp only; omega) (.bool d5)).set (p := ⟨w.heap.size + 1, 1, none⟩) (by simp only; omega) (.slice A5 n5 c5)
              go_wp2
              have hR4 := hR5.two (.bool d5) (.slice A5 n5 c5)
              refine bodyPost_ret (v := .tuple #[.agg #[.bool d5, .slice A5 n5 c5], .int .i64 0]) (by simp [results, Tryz.results150, go_sem, hR4.cell 0, hR4.cell 1]) rfl ?_
              exact ⟨_, by rw [HCC.out], by rw [HZZ.out]; exact hx5, kE⟩
          | k + 1, hk =>
            have hb1 := bitOf_pos k
            have hb2 := bitOf_le hk
            have hb3 := bitOf_half k
            have hpr := pow_round m N k
            have hpos : (0 : Int) < ((bitOf (k + 1) : Nat) : Int) := by omega
            have hand := bits_and_i64_nat N (bitOf (k + 1)) (by omega) (by omega)
            have hdiv2 := Nat.div_le_self N (2 ^ k)
            have hl0 : (dig (m ^ (N / 2 ^ (k + 1)))).length ≤ 2300 := pow_len m _ N (Nat.div_le_self _ _) HND.out
            have hst := bit_step N k
            have hl1 : (dig (m ^ (N / 2 ^ (k + 1)) * m ^ (N / 2 ^ (k + 1)))).length ≤ 2300 := pow_len2 m _ N (by omega) HND.out
            clear hst hdiv2
            obtain ⟨B, hB⟩ : ∃ B, bitOf (k + 1) = B := ⟨_, rfl⟩
            rw [hB] at hb1 hb2 hb3 hpr hpos hand ⊢
            have hbI : (B : Int) ≤ 4096 := by omega
            have HB3 := Lib.hid hb3
            have HPR := Lib.hid hpr
            have HL0 := Lib.hid hl0
            have HL1 := Lib.hid hl1
            clear hb3 hpr hB hb1 hl0 hl1 hb2
            by_cases hz : N &&& B = 0
            · have hbit : ((bits BinOp.and IntKind.i64 (N : Int) (B : Int)) != 0) = false := by rw [hand, hz]; rfl
              have HZ := Lib.hid hz
              clear hz hand
              go_wp2_with fail
              refine (times_any _ _ _ _ _ hu hu (by have := HL0.out; omega) (by have := HL0.out; omega)).mono ?_
              rintro e w4 ⟨o4, rfl, ho4, hk4⟩
              go_wp2
              go_roundw
              case rel => exact ⟨k, by omega, by rw [← HB3.out]; go_num, by rw [HPR.out, if_pos HZ.out]; exact U32.of_own ho4, hA2.below hk4, hR2.below hk4, hu2.below hk4, k3.trans' hk4⟩
              case measure => simp [intOf]; omega
            · have hbit : ((bits BinOp.and IntKind.i64 (N : Int) (B : Int)) != 0) = true := by rw [hand]; simp; omega
              have HZ := Lib.hid hz
              clear hz hand
              go_wp2_with fail
              refine (times_any _ _ _ _ _ hu hu (by have := HL0.out; omega) (by have := HL0.out; omega)).mono ?_
              rintro e w4 ⟨o4, rfl, ho4, hk4⟩
              go_wp2_with fail
              refine (times_any _ _ _ _ _ (U32.of_own ho4) (hu2.below hk4) (by have := HL1.out; omega) (by omega)).mono ?_
              rintro e w5 ⟨o5, rfl, ho5, hk5⟩
              have hk45 := hk4.trans' hk5
              go_wp2
              go_roundw
              case rel => exact ⟨k, by omega, by rw [← HB3.out]; go_num, by rw [HPR.out, if_neg HZ.out]; exact U32.of_own ho5, hA2.below hk45, hR2.below hk45, hu2.below hk45, k3.trans' hk45⟩
              case measure => simp [intOf]; omega
end Go.Proofs.YtmochehkkadjnaaGreatDoor
