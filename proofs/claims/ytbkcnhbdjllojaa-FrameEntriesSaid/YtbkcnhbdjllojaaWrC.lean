/- The writer's code of a residual: the walk. -/
import Derived.Test.YtbkcnhbdjllojaaWr
namespace Go.Proofs.Ytbkcnhbdjllojaa
open Go.RowKit Go.Shelf

theorem and_one (a : Nat) (ha : a < 4294967296) : bits .and .i64 (a : Int) 1 = ((a % 2 : Nat) : Int) := by
  have h1 : (BitVec.ofInt 64 (a : Int)).toNat = a := by rw [BitVec.toNat_ofInt]; omega
  have h2 : (BitVec.ofInt 64 (1 : Int)).toNat = 1 := rfl
  show IntKind.i64.wrap ((BitVec.ofInt 64 (a : Int) &&& BitVec.ofInt 64 (1 : Int)).toNat : Int) = _
  rw [BitVec.toNat_and, h1, h2, Nat.and_one_is_mod]
  exact IntWalk.i64_in _ (by omega)
theorem replicate_snoc {α : Type} (n : Nat) (a : α) : List.replicate (n + 1) a = List.replicate n a ++ [a] := by
  rw [List.replicate_succ']
set_option maxRecDepth 100000 in
set_option maxHeartbeats 1000000 in
theorem wcode_any {w : World} {bw : Nat} {bs : List Bool} (h : WrSt w bw bs) (hl : bs.length ≤ 5000000) (v k : Nat) (hv : v ≤ 65535) (hk : k ≤ 16) :
    Calls Try.prog 56 #[.pointer (some ⟨bw, 0, none⟩), .int .i64 (v : Nat), .int .i64 (k : Nat)] w fun e w' => (∃ v, e = .returned v) ∧ WrSt w' bw (bs ++ codeB k v) ∧ Below bw w w' := by
  have HW := Lib.hid h
  have hvI : (v : Int) ≤ 65535 := by omega
  have hkI : (k : Int) ≤ 16 := by omega
  have hd : v / 2 ^ k ≤ v := Nat.div_le_self _ _
  obtain ⟨q, hq⟩ : ∃ q, v / 2 ^ k = q := ⟨_, rfl⟩
  have eq : (v : Int) / 2 ^ k = (q : Int) := by rw [← hq]; push_cast; rfl
  have HC : Hid (codeB k v = List.replicate q true ++ false :: lowB k v) := Lib.hid (by rw [codeB, hq])
  rw [hq] at hd
  have hqI : (q : Int) ≤ 65535 := by omega
  clear hq h
  go_enter Try.func56, Try.ntmps56
  go_wp2
  clear eq hd
  go_loopw [10] (fun i wr => ∃ j : Nat, j ≤ q ∧ i = .int .i64 (j : Nat) ∧ Hid (WrSt wr bw (bs ++ List.replicate j true)) ∧ Below bw w wr) (fun i _ => q - (intOf i).toNat)
  case atStart => exact ⟨0, Nat.zero_le _, rfl, Lib.hid (by simpa using HW.out), Below.refl _ _⟩
  case round =>
    obtain ⟨j, hj, rfl, HB, hk1⟩ := hrel
    by_cases hlt : j < q
    · have hjI : (j : Int) < q := by omega
      go_wp2_with fail
      refine (wbit_any HB.out (by simp; omega) true).mono ?_
      rintro e w1 ⟨⟨u, rfl⟩, hst, hb1⟩
      have HST : Hid (WrSt w1 bw (bs ++ List.replicate (j + 1) true)) := Lib.hid (by rw [replicate_snoc, ← List.append_assoc]; exact hst)
      go_wp2
      go_roundw
      case rel => exact ⟨j + 1, by omega, by go_num, HST, hk1.trans hb1⟩
      case measure => simp [intOf]; omega
    · obtain rfl : j = q := by omega
      go_wp2_with fail
      refine (wbit_any HB.out (by simp; omega) false).mono ?_
      rintro e w1 ⟨⟨u, rfl⟩, hst, hb1⟩
      have HST := Lib.hid hst
      clear hst
      have hk2 := hk1.trans hb1
      clear hk1 hb1
      go_wp2
      go_loopw [6] (fun i wr => ∃ (r : Nat) (pre : List Bool), r ≤ k ∧ i = .int .i64 ((r : Int) - 1) ∧ Hid (pre ++ lowB r v = lowB k v) ∧ Hid (pre.length ≤ k) ∧ Hid (WrSt wr bw (bs ++ List.replicate j true ++ [false] ++ pre)) ∧ Below bw w wr) (fun i _ => (intOf i + 1).toNat)
      case atStart => exact ⟨k, [], Nat.le_refl _, rfl, Lib.hid rfl, Lib.hid (by simp), Lib.hid (by simpa using HST.out), hk2⟩
      case round =>
        obtain ⟨r, pre, hr, rfl, HL, HPL, HB, hk3⟩ := hrel
        by_cases hr0 : 0 < r
        · obtain ⟨i, rfl⟩ : ∃ i, r = i + 1 := ⟨r - 1, by omega⟩
          have e1 : ((i + 1 : Nat) : Int) - 1 = (i : Nat) := by omega
          rw [e1]
          have hiI : (0 : Int) ≤ i ∧ (i : Int) ≤ 16 := by omega
          obtain ⟨p, hp⟩ : ∃ p, v / 2 ^ i = p := ⟨_, rfl⟩
          have eq : (v : Int) / 2 ^ i = (p : Int) := by rw [← hp]; push_cast; rfl
          have hpv : p ≤ v := by rw [← hp]; exact Nat.div_le_self _ _
          have hand := and_one p (by omega)
          have hpl := HPL.out
          have HT : Hid (v.testBit i = decide (p % 2 = 1)) := Lib.hid (by rw [Nat.testBit_eq_decide_div_mod_eq, hp])
          have hL : pre ++ [v.testBit i] ++ lowB i v = lowB k v := by rw [← HL.out, lowB, List.append_assoc]; rfl
          have hlen : (pre ++ [v.testBit i]).length ≤ k := by
            have := congrArg List.length hL
            rw [List.length_append, lowB_length, lowB_length] at this
            omega
          have HL2 := Lib.hid hL
          have HPL2 := Lib.hid hlen
          clear hp hL hlen
          have hsz : (bs ++ List.replicate j true ++ [false] ++ pre).length ≤ 10000000 := by simp; omega
          have HBIT := fun b => Lib.hid (wbit_any HB.out hsz b)
          clear hsz hpl
          by_cases hb : p % 2 = 1
          · have ht : v.testBit i = true := by rw [HT.out]; simp [hb]
            have hx : ((p : Int) % 2 == 1) = true := by simp; omega
            rw [ht] at HL2 HPL2
            clear ht
            go_wp2_with fail
            (with_reducible refine (HBIT true).out.mono ?_)
            rintro e w2 ⟨⟨u, rfl⟩, hst, hb2⟩
            have HST2 : Hid (WrSt w2 bw (bs ++ List.replicate j true ++ [false] ++ (pre ++ [true]))) := Lib.hid (by rw [← List.append_assoc]; exact hst)
            clear hst eq hand hx
            go_wp2
            go_roundw
            case rel => exact ⟨i, _, by omega, by go_num, HL2, HPL2, HST2, hk3.trans hb2⟩
            case measure => simp [intOf]
          · have ht : v.testBit i = false := by rw [HT.out]; simp [hb]
            have hx : ((p : Int) % 2 == 1) = false := by simp; omega
            rw [ht] at HL2 HPL2
            clear ht
            go_wp2_with fail
            (with_reducible refine (HBIT false).out.mono ?_)
            rintro e w2 ⟨⟨u, rfl⟩, hst, hb2⟩
            have HST2 : Hid (WrSt w2 bw (bs ++ List.replicate j true ++ [false] ++ (pre ++ [false]))) := Lib.hid (by rw [← List.append_assoc]; exact hst)
            clear hst eq hand hx
            go_wp2
            go_roundw
            case rel => exact ⟨i, _, by omega, by go_num, HL2, HPL2, HST2, hk3.trans hb2⟩
            case measure => simp [intOf]
        · obtain rfl : r = 0 := by omega
          have e1 : ((0 : Nat) : Int) - 1 = -1 := rfl
          rw [e1]
          go_wp2
          go_end0
          have := HB.out
          rw [show bs ++ List.replicate j true ++ [false] ++ pre = bs ++ codeB k v by rw [HC.out, ← HL.out, lowB]; simp] at this
          exact ⟨⟨_, rfl⟩, this, hk3⟩
end Go.Proofs.Ytbkcnhbdjllojaa
