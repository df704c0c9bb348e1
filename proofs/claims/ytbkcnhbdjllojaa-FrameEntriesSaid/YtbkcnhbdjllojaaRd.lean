/- The reader of bits: bit and code, the walks. -/
import Derived.Test.YtbkcnhbdjllojaaWrC
namespace Go.Proofs.Ytbkcnhbdjllojaa
open Go.RowKit Go.Shelf

/-- the j-th of some bytes -/
def bv (xs : List Nat) (j : Nat) : Value := .int .u8 (xs.getD j 0 : Nat)
abbrev BRow (w : World) (A : Option Addr) (xs : List Nat) : Prop := Row w A xs.length (bv xs)
theorem BRow.at {w : World} {A : Option Addr} {xs : List Nat} (h : BRow w A xs) {j : Nat} (hj : j < xs.length) : ∃ b o, A = some ⟨b, o, none⟩ ∧ w.cell? ⟨b, o + j, none⟩ = some (.int .u8 (xs.getD j 0 : Nat)) := by
  obtain ⟨b, o, e, -, hc⟩ := h (by omega)
  exact ⟨b, o, e, hc j hj⟩
/-- all of them bytes -/
def Oct (xs : List Nat) : Prop := ∀ x ∈ xs, x < 256
theorem Oct.get {xs : List Nat} (h : Oct xs) (j : Nat) : xs.getD j 0 < 256 := by
  rw [List.getD_eq_getElem?_getD]
  cases hj : xs[j]? with
  | none => simp
  | some x => simpa using h x (List.mem_of_getElem? hj)
theorem tb {br : Nat} {w w' : World} (h : Turn [br] w w') (hb : br < w.heap.size) : Below br w w' := h.below (by simp) (by omega)
/-- a reader at block br -/
abbrev RdSt (w : World) (br : Nat) (A : Option Addr) (c : Nat) (xs : List Nat) (at_ : Nat) (fl : Bool) : Prop :=
  Own w br 118 [.slice A xs.length c, .int .i64 (at_ : Nat), .bool fl]
/-- the row of bytes lies below the block br -/
def Under (br : Nat) (A : Option Addr) : Prop := ∀ b o, A = some ⟨b, o, none⟩ → b < br
theorem BRow.under {w w' : World} {br : Nat} {A : Option Addr} {xs : List Nat} (h : BRow w A xs) (hu : 0 < xs.length → Under br A) (hk : Below br w w') : BRow w' A xs := fun hn => by
  obtain ⟨b, o, rfl, hlt, hc⟩ := h hn
  have := hu hn b o rfl
  exact ⟨b, o, rfl, Nat.lt_of_lt_of_le hlt hk.size, fun j hj => (hk.cell (p := ⟨b, o + j, none⟩) this).trans (hc j hj)⟩
def rbit (xs : List Nat) (s : Nat × Bool) : Nat × Nat × Bool := if s.1 < 8 * xs.length then (bitN xs s.1, s.1 + 1, s.2) else (0, s.1, true)
theorem and_one8 (a : Nat) (ha : a < 256) : bits .and .u8 (a : Int) 1 = ((a % 2 : Nat) : Int) := by
  have h1 : (BitVec.ofInt 8 (a : Int)).toNat = a := by rw [BitVec.toNat_ofInt]; omega
  have h2 : (BitVec.ofInt 8 (1 : Int)).toNat = 1 := rfl
  show IntKind.u8.wrap ((BitVec.ofInt 8 (a : Int) &&& BitVec.ofInt 8 (1 : Int)).toNat : Int) = _
  rw [BitVec.toNat_and, h1, h2, Nat.and_one_is_mod]
  exact IntWalk.u8_in _ (by omega)
set_option maxRecDepth 100000 in
set_option maxHeartbeats 1000000 in
theorem rbit_any {w : World} {br c at_ : Nat} {A : Option Addr} {xs : List Nat} {fl : Bool} (h : RdSt w br A c xs at_ fl) (hr : BRow w A xs) (ho : Oct xs) (hl : xs.length ≤ 2000000) (ha : at_ ≤ 8 * xs.length) :
    Calls Try.prog 86 #[.pointer (some ⟨br, 0, none⟩)] w fun e w' => e = .returned (.int .i64 ((rbit xs (at_, fl)).1 : Nat)) ∧ RdSt w' br A c xs (rbit xs (at_, fl)).2.1 (rbit xs (at_, fl)).2.2 ∧ Turn [br] w w' := by
  have c0 := h.cell 0
  have c1 := h.cell 1
  have c2 := h.cell 2
  have f1 := h.frozen 1
  have f2 := h.frozen 2
  simp only [List.getElem?_cons_zero, List.getElem?_cons_succ] at c0 c1 c2
  have hlI : (xs.length : Int) ≤ 2000000 := by omega
  have haI : (at_ : Int) ≤ 16000000 := by omega
  have hw1 : IntKind.i64.wrap (8 * (xs.length : Int)) = 8 * xs.length := IntWalk.i64_in _ (by omega)
  by_cases hlt : at_ < 8 * xs.length
  · have HR : Hid (rbit xs (at_, fl) = (bitN xs at_, at_ + 1, fl)) := Lib.hid (by rw [rbit, if_pos hlt])
    obtain ⟨q, hq⟩ : ∃ q, at_ / 8 = q := ⟨_, rfl⟩
    obtain ⟨r, hr8⟩ : ∃ r, at_ % 8 = r := ⟨_, rfl⟩
    obtain ⟨s, hs⟩ : ∃ s : Nat, 7 - r = s := ⟨_, rfl⟩
    have hrl : r < 8 := by omega
    obtain ⟨b, o, rfl, cx⟩ := hr.at (j := q) (by omega)
    have hx := ho.get q
    have hB : bitN xs at_ = xs.getD q 0 / 2 ^ s % 2 := by rw [bitN, hq, hr8, hs]
    generalize xs.getD q 0 = x at *
    have e1 : (at_ : Int).tdiv 8 = (q : Int) := by rw [Int.tdiv_eq_ediv_of_nonneg (by omega)]; omega
    have e2 : (at_ : Int).tmod 8 = (r : Int) := by rw [Int.tmod_eq_emod_of_nonneg (by omega)]; omega
    have e3 : 7 - (r : Int) = (s : Int) := by omega
    have hqI : (q : Int) < xs.length := by omega
    have hsI : (s : Int) ≤ 7 := by omega
    have hw2 : IntKind.i64.wrap (s : Int) = s := IntWalk.i64_in _ (by omega)
    have hw3 : IntKind.i64.wrap (q : Int) = q := IntWalk.i64_in _ (by omega)
    obtain ⟨p, hp⟩ : ∃ p, x / 2 ^ s = p := ⟨_, rfl⟩
    have e4 : (x : Int) / 2 ^ s = (p : Int) := by rw [← hp]; push_cast; rfl
    have hpx : p ≤ x := by rw [← hp]; exact Nat.div_le_self _ _
    rw [hp] at hB
    have hand := and_one8 p (by omega)
    have HB := Lib.hid hB
    have dlt : decide ((8 : Int) * xs.length ≤ at_) = false := by simp; omega
    have HS := Lib.hid h
    clear hq hr8 hs hB hp hr h
    go_enter Try.func86, Try.ntmps86
    go_wp2
    go_quiet (fail)
    go_wp2
    go_quiet (fail)
    go_wp2
    go_ret
    rw [HR.out]
    exact ⟨by rw [HB.out]; rfl, (HS.out.drewN _).set 1 _, ((Turn.refl w).drewN _).set (T := [br]) (p := ⟨br, 1, none⟩) (by simp) _⟩
  · have HR : Hid (rbit xs (at_, fl) = (0, at_, true)) := Lib.hid (by rw [rbit, if_neg hlt])
    have dlt : decide ((8 : Int) * xs.length ≤ at_) = true := by simp; omega
    have HS := Lib.hid h
    clear hr h
    go_enter Try.func86, Try.ntmps86
    go_wp2
    go_quiet (fail)
    go_wp2
    go_ret
    rw [HR.out]
    exact ⟨rfl, (HS.out.drewN _).set 2 _, ((Turn.refl w).drewN _).set (T := [br]) (p := ⟨br, 2, none⟩) (by simp) _⟩
theorem rbit_le {xs : List Nat} {s : Nat × Bool} (h : s.1 ≤ 8 * xs.length) : (rbit xs s).2.1 ≤ 8 * xs.length ∧ (rbit xs s).1 ≤ 1 := by
  unfold rbit
  split
  · have : bitN xs s.1 ≤ 1 := by unfold bitN; omega
    exact ⟨by simp; omega, this⟩
  · exact ⟨h, by simp⟩
/-- the ones ahead -/
def rones (xs : List Nat) : Nat → Nat × Bool → Nat × Nat × Bool
  | 0, s => (0, s)
  | n + 1, s => if (rbit xs s).1 = 1 then ((rones xs n (rbit xs s).2).1 + 1, (rones xs n (rbit xs s).2).2) else (0, (rbit xs s).2)
/-- k bits more -/
def rbits (xs : List Nat) : Nat → Nat → Nat × Bool → Nat × Nat × Bool
  | 0, v, s => (v, s)
  | k + 1, v, s => rbits xs k (2 * v + (rbit xs s).1) (rbit xs s).2
def rfuel (xs : List Nat) (s : Nat × Bool) : Nat := 8 * xs.length - s.1 + 1
def rcode (xs : List Nat) (k : Nat) (s : Nat × Bool) : Nat × Nat × Bool := rbits xs k (rones xs (rfuel xs s) s).1 (rones xs (rfuel xs s) s).2
theorem rbit_one {xs : List Nat} {s : Nat × Bool} (h : (rbit xs s).1 = 1) : s.1 < 8 * xs.length ∧ (rbit xs s).2.1 = s.1 + 1 := by
  unfold rbit at *
  split at h
  · rename_i h1; rw [if_pos h1]; exact ⟨h1, rfl⟩
  · cases h
theorem shl_or {v b : Nat} (hv : v < 1099511627776) (hb : b ≤ 1) : bits .or .i64 (2 * (v : Int)) (b : Int) = ((2 * v + b : Nat) : Int) := by
  have h1 : (BitVec.ofInt 64 (2 * (v : Int))).toNat = 2 * v := by rw [BitVec.toNat_ofInt]; omega
  have h2 : (BitVec.ofInt 64 (b : Int)).toNat = b := by rw [BitVec.toNat_ofInt]; omega
  show IntKind.i64.wrap ((BitVec.ofInt 64 (2 * (v : Int)) ||| BitVec.ofInt 64 (b : Int)).toNat : Int) = _
  rw [BitVec.toNat_or, h1, h2]
  have h3 : 2 * v ||| b = 2 * v + b := by
    have := Nat.two_pow_add_eq_or_of_lt (i := 1) (b := b) (by omega) v
    simpa using this.symm
  rw [h3]
  exact IntWalk.i64_in _ (by omega)
set_option maxRecDepth 100000 in
set_option maxHeartbeats 1000000 in
theorem rcode_any {w : World} {br c at_ : Nat} {A : Option Addr} {xs : List Nat} {fl : Bool} (h : RdSt w br A c xs at_ fl) (hr : BRow w A xs) (hu : 0 < xs.length → Under br A) (ho : Oct xs) (hl : xs.length ≤ 2000000) (ha : at_ ≤ 8 * xs.length) (k : Nat) (hk : k ≤ 16) :
    Calls Try.prog 78 #[.pointer (some ⟨br, 0, none⟩), .int .i64 (k : Nat)] w fun e w' => e = .returned (.int .i64 ((rcode xs k (at_, fl)).1 : Nat)) ∧ RdSt w' br A c xs (rcode xs k (at_, fl)).2.1 (rcode xs k (at_, fl)).2.2 ∧ Turn [br] w w' := by
  have hkI : (k : Int) ≤ 16 := by omega
  have HR := Lib.hid hr
  have HU := Lib.hid hu
  have HO := Lib.hid ho
  have HS := Lib.hid h
  have HA := Lib.hid ha
  obtain ⟨T, hT⟩ : ∃ T, rones xs (rfuel xs (at_, fl)) (at_, fl) = T := ⟨_, rfl⟩
  have HC : Hid (rcode xs k (at_, fl) = rbits xs k T.1 T.2) := Lib.hid (by rw [rcode, hT])
  have HT := Lib.hid hT
  clear h hr hu ho hT ha
  go_enter Try.func78, Try.ntmps78
  go_wp2
  go_loopg [5] (rfuel xs (at_, fl)) (fun n i wr => ∃ (j : Nat) (s : Nat × Bool), n = rfuel xs s ∧ s.1 ≤ 8 * xs.length ∧ j ≤ s.1 ∧ i = .int .i64 (j : Nat) ∧ Hid (T = (j + (rones xs n s).1, (rones xs n s).2)) ∧ RdSt wr br A c xs s.1 s.2 ∧ Turn [br] w wr)
  case atStart => exact ⟨0, (at_, fl), rfl, HA.out, Nat.zero_le _, rfl, Lib.hid (by rw [← HT.out]; simp), HS.out, Turn.refl _⟩
  case round =>
    obtain ⟨j, s, rfl, hs, hjs, rfl, HTT, hst, hk1⟩ := hrel
    have HB := Lib.hid (rbit_any hst (HR.out.under HU.out (tb hk1 HS.out.lt)) HO.out hl hs)
    have hle := rbit_le hs
    have hjI : (j : Int) ≤ 16000000 := by omega
    have hf : rfuel xs s = 8 * xs.length - s.1 + 1 := rfl
    rw [hf, rones] at HTT
    by_cases h1 : (rbit xs s).1 = 1
    · obtain ⟨h2, h3⟩ := rbit_one h1
      rw [if_pos h1] at HTT
      have HTT2 : Hid (T = (j + 1 + (rones xs (8 * xs.length - s.1) (rbit xs s).2).1, (rones xs (8 * xs.length - s.1) (rbit xs s).2).2)) := Lib.hid (by rw [HTT.out]; simp; omega)
      have hs' : s = (s.1, s.2) := rfl
      rw [← hs'] at HB
      rw [h1] at HB
      have hn : 8 * xs.length - s.1 = rfuel xs (rbit xs s).2 := by unfold rfuel; omega
      have hj' : j + 1 ≤ (rbit xs s).2.1 := by omega
      generalize (rbit xs s).2 = s2 at *
      have HN := Lib.hid hn
      have HF := Lib.hid hf
      have HJ := Lib.hid hj'
      clear h1 h3 hn hf hj' hs' HTT
      go_wp2_with fail
      refine HB.out.mono ?_
      rintro e w1 ⟨rfl, hst1, hb1⟩
      go_wp2
      go_roundg (rfuel xs s2)
      case measure => have := HN.out; have := HF.out; omega
      case rel => exact ⟨j + 1, s2, rfl, hle.1, HJ.out, by go_num, by rw [← HN.out]; exact HTT2, hst1, hk1.trans hb1 (fun _ h _ => h)⟩
    · rw [if_neg h1] at HTT
      have hs' : s = (s.1, s.2) := rfl
      rw [← hs'] at HB
      have h0 : (rbit xs s).1 = 0 := by omega
      rw [h0] at HB
      have HTT2 : Hid (T = (j, (rbit xs s).2)) := Lib.hid (by rw [HTT.out]; simp)
      have hj2 : j ≤ 16000000 := by omega
      generalize (rbit xs s).2 = s2 at *
      clear h1 h0 hf hs' HTT
      go_wp2_with fail
      refine HB.out.mono ?_
      rintro e w1 ⟨rfl, hst1, hb1⟩
      have hk2 := hk1.trans hb1 (fun _ h _ => h)
      clear hk1 hb1
      go_wp2
      have HS2 := Lib.hid hle.1
      clear hle hs hjI
      go_loopw [12, 5] (fun i v wr => ∃ (n m : Nat) (s : Nat × Bool), n ≤ k ∧ i = .int .i64 (n : Nat) ∧ v = .int .i64 (m : Nat) ∧ s.1 ≤ 8 * xs.length ∧ m + 1 ≤ 16000001 * 2 ^ n ∧ Hid (rbits xs (k - n) m s = rcode xs k (at_, fl)) ∧ RdSt wr br A c xs s.1 s.2 ∧ Turn [br] w wr) (fun i _ _ => k - (intOf i).toNat)
      case atStart => exact ⟨0, j, s2, Nat.zero_le _, rfl, rfl, HS2.out, by simp; omega, Lib.hid (by rw [HC.out, HTT2.out]; rfl), hst1, hk2⟩
      case round =>
        obtain ⟨n, m, s, hn, rfl, rfl, hs, hm, HRES, hst, hk1⟩ := hrel
        have HB := Lib.hid (rbit_any hst (HR.out.under HU.out (tb hk1 HS.out.lt)) HO.out hl hs)
        have hle := rbit_le hs
        have hpow : 2 ^ n ≤ 65536 := Nat.le_trans (Nat.pow_le_pow_right (by omega) (show n ≤ 16 by omega)) (by omega)
        have hmI : (m : Int) ≤ 1048576065535 := by omega
        by_cases hlt : n < k
        · have hnI : (n : Int) < k := by omega
          have HRES2 : Hid (rbits xs (k - (n + 1)) (2 * m + (rbit xs s).1) (rbit xs s).2 = rcode xs k (at_, fl)) := Lib.hid (by
            rw [← HRES.out, show k - n = (k - (n + 1)) + 1 by omega, rbits])
          have hs' : s = (s.1, s.2) := rfl
          rw [← hs'] at HB
          obtain ⟨b, hb⟩ : ∃ b, (rbit xs s).1 = b := ⟨_, rfl⟩
          rw [hb] at HB hle HRES2
          have hor := shl_or (v := m) (b := b) (by omega) hle.2
          have hor2 : bits .or .i64 ((m : Int) * 2) (b : Int) = ((2 * m + b : Nat) : Int) := by rw [Int.mul_comm]; exact hor
          have HM : Hid (2 * m + b + 1 ≤ 16000001 * 2 ^ (n + 1)) := Lib.hid (by rw [Nat.pow_succ]; omega)
          generalize (rbit xs s).2 = s3 at *
          have HS3 := Lib.hid hle.1
          have hbI : (b : Int) ≤ 1 := by omega
          clear hb hs' hpow hm hle
          go_wp2_with fail
          refine HB.out.mono ?_
          rintro e w2 ⟨rfl, hst2, hb2⟩
          go_wp2
          go_roundw
          case rel => exact ⟨n + 1, 2 * m + b, s3, by omega, by go_num, rfl, HS3.out, HM.out, HRES2, hst2, hk1.trans hb2 (fun _ h _ => h)⟩
          case measure => simp [intOf]; omega
        · obtain rfl : n = k := by omega
          have HE : Hid (rcode xs n (at_, fl) = (m, s)) := Lib.hid (by rw [← HRES.out, Nat.sub_self, rbits])
          clear hpow hm
          go_wp2
          go_ret
          rw [HE.out]
          exact ⟨rfl, hst, hk1⟩
end Go.Proofs.Ytbkcnhbdjllojaa
