/- The walk of the reference's short. -/
import Derived.Test.YthgbgoidnnfapaaDoorRefD
import Derived.Test.YthgbgoidnnfapaaDoorShortNum
namespace Go.Proofs.YthgbgoidnnfapaaDoor
open Go.RowKit Go.Shelf

set_option maxRecDepth 100000 in
set_option maxHeartbeats 400000 in
theorem rshort_any (v : Value) (m d : Nat) (w : World) (h : U32 w v (dig m)) (hl : (dig m).length ≤ 1000000) (hd : 0 < d) (hdb : d ≤ 1000000000) :
    Calls Tryd.prog 71 #[v, .int .u64 (d : Nat)] w fun e w' => ∃ v', e = .returned (.tuple #[v', .int .u64 ((m % d : Nat) : Int)]) ∧ U32 w' v' (dig (m / d)) ∧ Keeps w w' := by
  obtain ⟨A, n, c, rfl, e1, hc, -, h0, hr⟩ := h.open_
  have hn : n ≤ 1000000 := by omega
  have hmk := make_u32 n n rfl (by omega)
  have hown := Own.new w 48 (u32s (List.replicate n 0))
  have hk : Keeps w (w.alloc (.cells (u32s (List.replicate n 0)).toArray 48)) := (Below.refl _ _).alloc (Nat.le_refl _) _
  have hdI : (0 : Int) < (d : Int) := by omega
  have hdB : (d : Int) ≤ 1000000000 := by omega
  have HE := Lib.hid e1
  clear e1 h
  go_enter Tryd.func71, Tryd.ntmps71
  go_wp2
  go_loopw [7, 8, 9] (fun r i _ wr => ∃ (k rr : Nat) (out : List Nat), k ≤ n ∧ i = .int .i64 ((n : Int) - 1 - (k : Nat)) ∧ r = .int .u64 (rr : Nat) ∧ rr = val ((dig m).drop (n - k)) % d ∧ out.length = n ∧ AllB out ∧ val (out.drop (n - k)) = val ((dig m).drop (n - k)) / d ∧
      Own wr w.heap.size 48 (u32s out) ∧ Keeps w wr)
    (fun _ i _ _ => (intOf i + 1).toNat)
  case atStart => exact ⟨0, 0, List.replicate n 0, by omega, by go_num, rfl, by rw [List.drop_of_length_le (by rw [HE.out]; omega)]; simp [val], by simp, AllB.replicate n, by rw [List.drop_of_length_le (by simp), List.drop_of_length_le (by rw [HE.out]; omega)]; simp [val], hown, hk⟩
  case round =>
    obtain ⟨k, rr, out, hkn, rfl, rfl, hrr, hol, hob, hval, hown1, hk1⟩ := hrel
    by_cases hlt : k < n
    · obtain ⟨q, hq⟩ : ∃ q, n - 1 - k = q := ⟨_, rfl⟩
      have e : (n : Int) - 1 - (k : Int) = (q : Int) := by omega
      rw [e]
      clear e
      rw [show n - k = q + 1 by omega] at hrr hval
      have hqn : q < n := by omega
      have h00 : (0 : Int) ≤ (q : Int) := by omega
      have h01 : (q : Int) < (n : Int) := by omega
      have hsv := short_val hd HE.out hol hqn hrr hval
      have hrd : rr < d := by rw [hrr]; exact Nat.mod_lt _ hd
      have hxb := (AllB.dig m).ix q
      have hsl := short_lt rr d (ix (dig m) q) hrd hxb
      obtain ⟨b1, o1, rfl, hb1, hcell⟩ := (hr.below hk1) (by omega)
      have hx : wr.cell? ⟨b1, o1 + q, none⟩ = some (.int .u32 (ix (dig m) q : Nat)) := hcell q hqn
      have hc0 := hown1.u32cell (i := q) (by rw [hol]; exact hqn)
      have hf0 := hown1.frozen q
      clear hcell
      generalize ix (dig m) q = x at *
      have hI1 : (rr : Int) ≤ 1000000000 := by omega
      have hI2 : (x : Int) < 1000000000 := by omega
      have hI3 : ((rr : Int) * 1000000000 + (x : Int)) / (d : Int) < 1000000000 := by rw [cast_dv]; exact Int.ofNat_lt.2 hsl
      have hI4 : 0 ≤ ((rr : Int) * 1000000000 + (x : Int)) / (d : Int) := by rw [cast_dv]; exact Int.natCast_nonneg _
      have HQ := Lib.hid hq
      have HV := Lib.hid hval
      have HL := Lib.hid hol
      have HS := Lib.hid hsv
      have HB := Lib.hid hsl
      clear hq hrr hval hol hsv hsl hrd hxb
      go_wp2
      go_roundw
      case rel => exact ⟨k + 1, (rr * 1000000000 + x) % d, out.set q ((rr * 1000000000 + x) / d), by omega, by have := HQ.out; congr 1; omega, congrArg (Value.int .u64) (cast_md rr x d), by rw [show n - (k + 1) = q by have := HQ.out; omega]; exact HS.out.1, by rw [List.length_set]; exact HL.out,
        hob.set _ _ HB.out, by rw [show n - (k + 1) = q by have := HQ.out; omega]; exact HS.out.2, hown1.put q _ (cast_dv rr x d), hk1.setCell (Nat.le_refl _) _⟩
      case measure => have := HQ.out; simp [intOf]
    · obtain rfl : k = n := by omega
      rw [Nat.sub_self, List.drop_zero] at hrr hval
      rw [List.drop_zero] at hval
      rw [val_dig] at hrr hval
      have HR := Lib.hid hrr
      have HV := Lib.hid hval
      have HL := Lib.hid hol
      clear hrr hval hol
      go_wp2_with fail
      refine (rmade_u false _ out _ (by rw [← HL.out]; exact U32.mk hown1.row (Nat.le_refl _) (by rw [HL.out]; simp only [maxLen]; omega) (by intro e; cases e)) hob (by rw [HL.out]; omega)).mono ?_
      rintro e w3 ⟨V3, rfl, hr3, hk3⟩
      obtain ⟨A3, n3, c3, rfl, hv3⟩ := hr3.open_
      have hfd := field_groups (.bool (decide (sgn false (val out) < 0))) (.slice A3 n3 c3)
      go_wp2
      go_ret2
      rw [sgn_natAbs, HV.out] at hv3
      exact ⟨_, by rw [← HR.out]; rfl, hv3, hk1.trans' hk3⟩
end Go.Proofs.YthgbgoidnnfapaaDoor
