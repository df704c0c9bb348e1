/- Texts joined. No program in sight. The walk of the reference's Text. -/
import Derived.Test.YtomjnjpehokjbaaGreatDoorMgNum
import Derived.Test.YtomjnjpehokjbaaGreatDoorMgIntA
import Derived.Deep.LoopGhost
namespace Go.Proofs.YtomjnjpehokjbaaGreatDoor
open Go

theorem cat_str (a b : List UInt8) : ByteArray.mk a.toArray ++ ByteArray.mk b.toArray = ByteArray.mk (a ++ b).toArray := by
  apply ByteArray.ext
  rw [ByteArray.data_append]
  simp
end Go.Proofs.YtomjnjpehokjbaaGreatDoor

namespace Go.Proofs.YtomjnjpehokjbaaGreatDoor
open Go.RowKit Go.Shelf

theorem low_add : ∀ (b a m : Nat), low (a + b) m = low a (m / 10 ^ b) ++ low b m
  | 0, a, m => by simp [low]
  | b + 1, a, m => by
    rw [← Nat.add_assoc, low, low_add b a (m / 10), low, Nat.div_div_eq_div_mul, Nat.pow_succ, Nat.mul_comm (10 ^ b) 10, List.append_assoc]
theorem dch_mod (y j : Nat) : dch (y % 10 ^ (j + 1)) = dch y := by
  unfold dch
  rw [Nat.pow_succ, Nat.mul_comm, Nat.mod_mul_right_mod]
theorem low_mod : ∀ (k j y : Nat), k ≤ j → low k (y % 10 ^ j) = low k y
  | 0, _, _, _ => rfl
  | k + 1, 0, _, h => absurd h (by omega)
  | k + 1, j + 1, y, h => by
    rw [low, low, dch_mod, show y % 10 ^ (j + 1) / 10 = y / 10 % 10 ^ j by rw [Nat.pow_succ, Nat.mul_comm, Nat.mod_mul_right_div_self], low_mod k j (y / 10) (by omega)]
theorem low_small : ∀ (k x : Nat), x < 10 ^ k → 0 < x → True := fun _ _ _ _ => trivial
theorem ix_dig : ∀ (i m : Nat), ix (dig m) i = m / 1000000000 ^ i % 1000000000
  | 0, m => by
    by_cases h : m = 0
    · subst h; simp [dig_zero, ix_nil]
    · rw [dig_pos h, ix_zero]; simp
  | i + 1, m => by
    by_cases h : m = 0
    · subst h; simp [dig_zero, ix_nil]
    · rw [dig_pos h, ix_succ, ix_dig i, Nat.div_div_eq_div_mul, Nat.pow_succ, Nat.mul_comm 1000000000]
/-- nine digits more -/
theorem low_group (m i : Nat) : low 9 (ix (dig m) i) ++ low (9 * i) m = low (9 * (i + 1)) m := by
  rw [show 9 * (i + 1) = 9 + 9 * i by omega, low_add, ix_dig]
  have h : (1000000000 : Nat) = 10 ^ 9 := rfl
  rw [h, ← Nat.pow_mul, low_mod 9 9 _ (Nat.le_refl _)]
/-- the last group's digits -/
theorem txt_last (m n : Nat) (h : m ≠ 0) (hn : (dig m).length = n + 1) : txt (ix (dig m) n) ++ low (9 * n) m = txt m := by
  have hx : 0 < ix (dig m) n := by
    have := dig_last h
    rw [hn] at this
    exact Nat.pos_of_ne_zero this
  have hlt := dig_lt m
  rw [hn, Nat.pow_succ] at hlt
  have hq : m / 1000000000 ^ n < 1000000000 := by
    rw [Nat.div_lt_iff_lt_mul (Nat.pow_pos (by omega)), Nat.mul_comm]; exact hlt
  have he : ix (dig m) n = m / 10 ^ (9 * n) := by
    rw [ix_dig, Nat.mod_eq_of_lt hq, Nat.pow_mul]
  have hm : m = m / 10 ^ (9 * n) * 10 ^ (9 * n) + m % 10 ^ (9 * n) := by
    have := Nat.div_add_mod m (10 ^ (9 * n)); rw [Nat.mul_comm] at this; omega
  rw [he] at hx ⊢
  conv => rhs; rw [hm]
  rw [txt_group _ _ _ hx (Nat.mod_lt _ (Nat.pow_pos (by omega))), low_mod _ _ _ (Nat.le_refl _)]
/-- one digit more -/
theorem txt_peel (x k : Nat) (h : x / 10 ^ k ≠ 0) (e : txt x = txt (x / 10 ^ k) ++ low k x) : txt x = txt (x / 10 ^ (k + 1)) ++ low (k + 1) x := by
  rw [low_cons, e, txt_step _ (Nat.pos_of_ne_zero h), Nat.div_div_eq_div_mul, ← Nat.pow_succ, List.append_assoc]; rfl
def accT (m q i : Nat) : List UInt8 := if i < q + 1 then low (9 * i) m else txt m

theorem digit_one : ∀ d, d < 10 → (ByteArray.mk #[48, 49, 50, 51, 52, 53, 54, 55, 56, 57]).extract d (d + 1) = ByteArray.mk #[UInt8.ofNat (48 + d)] := by decide +kernel
theorem dig_str (y : Nat) (S : List UInt8) : (ByteArray.mk #[48, 49, 50, 51, 52, 53, 54, 55, 56, 57]).extract (y % 10) (y % 10 + 1) ++ ByteArray.mk S.toArray = ByteArray.mk (dch y :: S).toArray := by
  rw [digit_one _ (Nat.mod_lt _ (by omega))]
  apply ByteArray.ext
  rw [ByteArray.data_append]
  simp [dch]
theorem str_ext {a b : List UInt8} (h : a = b) : Value.string ⟨a.toArray⟩ = Value.string ⟨b.toArray⟩ := by rw [h]

set_option maxRecDepth 100000 in
set_option maxHeartbeats 1000000 in
theorem rtext_any (neg : Bool) (xs : List Nat) (V : Value) (w : World) (h : IntArg w V neg xs) (hm : xs.length ≤ 900000) :
    Calls Tryz.prog 61 #[V] w fun e w' => e = .returned (.string ⟨(textL (cnt neg xs)).toArray⟩) ∧ Keeps w w' := by
  obtain ⟨v, rfl, hv⟩ := h
  have hkk := box2 w (.cells #[.bool neg, v] 27)
  have hB := Own.new w 27 [.bool neg, v]
  have hG := Lib.hid (rvalue_any neg xs (.agg #[.bool neg, v]) _ ⟨v, rfl, hv.below hkk⟩ (by omega))
  have hml := mag_length neg xs
  have ea := cnt_abs neg xs
  generalize cnt neg xs = z at *
  generalize mag neg xs = m at *
  have HE := Lib.hid ea
  clear ea
  go_enter Tryz.func61, Tryz.ntmps61
  go_wp2_with fail
  refine hG.out.mono ?_
  rintro e w1 ⟨V3, rfl, hr3, hk1⟩
  obtain ⟨A3, n3, c3, rfl, hv3⟩ := hr3.open_
  rw [HE.out] at hv3
  obtain ⟨A', n', c', e', e1, -⟩ := hv3.open_
  cases e'
  have hbz := Lib.hid (rfl : decide (z < 0) = decide (z < 0))
  have hB1 := hB.below hk1
  have f0 := hB1.frozen 0
  have f1 := hB1.frozen 1
  obtain ⟨bz, hb⟩ : ∃ bz, decide (z < 0) = bz := ⟨_, rfl⟩
  rw [hb] at hr3
  simp only [hb]
  have HBZ := Lib.hid hb
  clear hb hbz
  have hk := (hkk.trans' hk1).set (p := ⟨w.heap.size, 0, none⟩) (Nat.le_refl _) (.bool bz)
  have hk2 := hk.set (p := ⟨w.heap.size, 1, none⟩) (Nat.le_refl _) (.slice A3 n3 c3)
  have hB2 := hB1.two (.bool bz) (.slice A3 n3 c3)
  have s0 := hB2.c0
  have s1 := hB2.c1
  have hu := hv3.two (x' := .bool bz) (y' := .slice A3 n3 c3) hB1 rfl hv.noU rfl
  have r0 := hB1.c0
  have r1 := hB1.c1
  clear hr3 hG hv hB hkk hk1
  by_cases h0 : m = 0
  · have hz : textL z = [48] := if_pos (by have := HE.out; omega)
    have HZ := Lib.hid hz
    subst h0
    obtain rfl : n3 = 0 := by rw [dig_zero] at e1; simpa using e1.symm
    clear e1 hml hm hz
    go_wp2
    go_ret
    exact ⟨by rw [HZ.out]; rfl, hk2⟩
  · have hn : 0 < n3 := by have := dig_length_pos.2 h0; omega
    obtain ⟨q, rfl⟩ : ∃ q, n3 = q + 1 := ⟨n3 - 1, by omega⟩
    have hz : textL z = (if bz then [45] else []) ++ txt m := by
      unfold textL
      rw [if_neg (by have := HE.out; omega), txt_pos m h0, HE.out, ← HBZ.out]
      simp
    have htl := txt_last m q h0 e1
    obtain ⟨A', n', c', e', e2, -, -, -, ru⟩ := hu.open_
    cases e'
    obtain ⟨b, o, rfl, hbl, hcell⟩ := ru hn
    have hn0 : (((q + 1 : Nat) : Int) == 0) = false := by simp; omega
    have hnI : (q : Int) ≤ 900000 := by omega
    have HZ := Lib.hid hz
    have HTL := Lib.hid htl
    have HCELL := Lib.hid hcell
    clear hz htl e1 e2 hcell ru hml hm hu hv3 hn
    go_wp2
    clear s0 s1 hbl r0 r1 f0 f1 hB1 hk
    generalize (w1.setCell ⟨w.heap.size, 0, none⟩ (.bool bz)).setCell ⟨w.heap.size, 1, none⟩ (.slice (some ⟨b, o, none⟩) (q + 1) c3) = W at *
    have s0 := hB2.c0
    have s1 := hB2.c1
    go_loop [3, 4] (fun s i => ∃ j : Nat, j ≤ q + 1 ∧ i = .int .i64 (j : Nat) ∧ s = .string ⟨(accT m q j).toArray⟩) (fun _ i => q + 1 - (intOf i).toNat)
    case atStart => exact ⟨0, Nat.zero_le _, rfl, rfl⟩
    case round =>
      obtain ⟨j, hj, rfl, rfl⟩ := hrel
      have hjI : (j : Int) ≤ 900001 := by omega
      by_cases hlt : j < q + 1
      · have hc := HCELL.out j hlt
        unfold Go.Proofs.YtomjnjpehokjbaaGreatDoor.u32 at hc
        have hx := (AllB.dig m).ix j
        have hgr := low_group m j
        have hac : accT m q j = low (9 * j) m := if_pos hlt
        have hacl : (accT m q j).length ≤ 8100009 := by rw [hac, low_length]; omega
        generalize hX : ix (dig m) j = x at *
        have HGR := Lib.hid hgr
        have HAC := Lib.hid hac
        have HXX := Lib.hid hX
        generalize accT m q j = T at *
        have HT := Lib.hid hacl
        have HX := Lib.hid hx
        have hltI : (j : Int) < q + 1 := by omega
        clear hgr hac hX hacl hx
        by_cases hq : j < q
        · have hqI : (j : Int) < q := by omega
          go_wp2
          go_loop [3, 5, 6] (fun s g i => ∃ k : Nat, k ≤ 9 ∧ i = .int .i64 (k : Nat) ∧ g = .int .u32 (x / 10 ^ k : Nat) ∧ s = .string ⟨(low k x ++ T).toArray⟩) (fun _ _ i => 9 - (intOf i).toNat)
          case atStart => exact ⟨0, by omega, rfl, by simp, rfl⟩
          case round =>
            obtain ⟨k, hk9, rfl, rfl, rfl⟩ := hrel
            have hll : (low k x ++ T).length ≤ 8100018 := by rw [List.length_append, low_length]; have := HT.out; omega
            have hlc : low (k + 1) x ++ T = dch (x / 10 ^ k) :: (low k x ++ T) := by rw [low_cons]; rfl
            have hdv : x / 10 ^ (k + 1) = x / 10 ^ k / 10 := by rw [Nat.div_div_eq_div_mul, ← Nat.pow_succ]
            have hyl : x / 10 ^ k ≤ x := Nat.div_le_self _ _
            have HLC := Lib.hid hlc
            have HDV := Lib.hid hdv
            clear hlc hdv
            by_cases h9 : k < 9
            · generalize x / 10 ^ k = y at *
              generalize low k x ++ T = S at *
              have hyI : (y : Int) ≤ 4294967295 := by have := HX.out; omega
              clear hyl
              go_wp2
              go_round
              case rel => exact ⟨k + 1, by omega, by go_num, by rw [HDV.out]; go_num, by rw [dig_str, HLC.out]⟩
              case measure => simp [intOf]; omega
            · obtain rfl : k = 9 := by omega
              have hS : low 9 x ++ T = accT m q (j + 1) := by rw [HAC.out, HGR.out]; exact (if_pos (by omega)).symm
              have HS := Lib.hid hS
              clear hS hyl hll
              generalize x / 10 ^ 9 = y at *
              generalize low 9 x ++ T = S at *
              go_wp2
              go_round
              case rel => exact ⟨j + 1, by omega, by go_num, by rw [HS.out]⟩
              case measure => simp [intOf]; omega
        · obtain rfl : q = j := by omega
          have hqI : ¬ (q : Int) < q := by omega
          go_wp2
          go_loop [3, 5, 6] (fun s g i => ∃ k : Nat, k ≤ 9 ∧ i = .int .i64 (k : Nat) ∧ g = .int .u32 (x / 10 ^ k : Nat) ∧ s = .string ⟨(low k x ++ T).toArray⟩ ∧ txt x = txt (x / 10 ^ k) ++ low k x) (fun _ _ i => 9 - (intOf i).toNat)
          case atStart => exact ⟨0, by omega, rfl, by simp, rfl, by simp [low]⟩
          case round =>
            obtain ⟨k, hk9, rfl, rfl, rfl, htx⟩ := hrel
            have hll : (low k x ++ T).length ≤ 8100018 := by rw [List.length_append, low_length]; have := HT.out; omega
            have hlc : low (k + 1) x ++ T = dch (x / 10 ^ k) :: (low k x ++ T) := by rw [low_cons]; rfl
            have hdv : x / 10 ^ (k + 1) = x / 10 ^ k / 10 := by rw [Nat.div_div_eq_div_mul, ← Nat.pow_succ]
            have hyl : x / 10 ^ k ≤ x := Nat.div_le_self _ _
            have HLC := Lib.hid hlc
            have HDV := Lib.hid hdv
            clear hlc hdv
            have hend : x / 10 ^ k = 0 → low k x ++ T = accT m q (q + 1) := fun h0 => by
              rw [show accT m q (q + 1) = txt m from if_neg (by omega), ← HTL.out, ← HXX.out, HAC.out]
              rw [h0] at htx
              rw [HXX.out, htx]; rfl
            have hpeel := txt_peel x k
            have HP := Lib.hid (fun h => hpeel h htx)
            have HEND := Lib.hid hend
            have hk9z : k = 9 → x / 10 ^ k = 0 := fun h => by subst h; exact Nat.div_eq_of_lt (by have := HX.out; omega)
            have HK9 := Lib.hid hk9z
            clear htx hend hpeel hk9z
            by_cases hy0 : x / 10 ^ k = 0
            · have hS := HEND.out hy0
              have HS := Lib.hid hS
              rw [hy0]
              clear hS hyl HEND HP HK9 HDV HLC
              generalize low k x ++ T = S at *
              by_cases h9 : k < 9
              · go_wp2
                go_round
                case rel => exact ⟨q + 1, Nat.le_refl _, by first | rfl | go_num, by rw [HS.out]⟩
                case measure => simp [intOf]
              · go_wp2
                go_round
                case rel => exact ⟨q + 1, Nat.le_refl _, by first | rfl | go_num, by rw [HS.out]⟩
                case measure => simp [intOf]
            · have h9 : k < 9 := by have := HK9.out; omega
              have HY := Lib.hid (HP.out hy0)
              have hyp : (0 : Int) < (x / 10 ^ k : Nat) := Int.ofNat_lt.2 (Nat.pos_of_ne_zero hy0)
              clear HEND HP HK9
              generalize hY : x / 10 ^ k = y at *
              generalize low k x ++ T = S at *
              have HYY := Lib.hid hY
              have hyI : (y : Int) ≤ 4294967295 := by have := HX.out; omega
              clear hyl hY
              go_wp2
              go_round
              case rel => exact ⟨k + 1, by omega, by go_num, by rw [HDV.out]; go_num, by rw [dig_str, HLC.out], HY.out⟩
              case measure => simp [intOf]; omega
      · obtain rfl : j = q + 1 := by omega
        have hf : textL z = (if bz then [45] else []) ++ accT m q (q + 1) := by rw [HZ.out]; congr 1; exact (if_neg (by omega)).symm
        have HF := Lib.hid hf
        have hal : (accT m q (q + 1)).length ≤ 8100009 := by
          rw [show accT m q (q + 1) = txt m from if_neg (by omega), ← HTL.out, List.length_append, low_length]
          have := txt_len 9 (ix (dig m) q) ((AllB.dig m).ix q)
          omega
        clear hf
        generalize accT m q (q + 1) = S at *
        cases bz with
        | true =>
          go_wp2
          go_ret
          refine ⟨?_, hk2⟩
          rw [HF.out]
          exact congrArg (fun b => Ending.returned (.string b)) (cat_str [45] S)
        | false =>
          go_wp2
          go_ret
          exact ⟨by rw [HF.out]; rfl, hk2⟩
end Go.Proofs.YtomjnjpehokjbaaGreatDoor
