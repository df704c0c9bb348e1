/- The walks of the reference's Same, group, size. -/
import Derived.Test.YthgbgoidnnfapaaDoorRefA
namespace Go.Proofs.YthgbgoidnnfapaaDoor
open Go.RowKit Go.Shelf

theorem group_any (v : Value) (xs : List Nat) (i : Nat) (w : World) (h : U32 w v xs) (ha : AllB xs) (hm : xs.length ≤ 1000000000) (hi : i ≤ 1000000000) :
    Calls Tryd.prog 72 #[v, .int .i64 (i : Nat)] w fun e w' => e = .returned (.int .u64 (ix xs i : Nat)) ∧ w = w' := by
  obtain ⟨A, n, c, rfl, e, -, -, -, hr⟩ := h.open_
  by_cases hlt : i < n
  · obtain ⟨b, o, rfl, hb, hcell⟩ := hr (by omega)
    have hx : w.cell? ⟨b, o + i, none⟩ = some (.int .u32 (ix xs i : Nat)) := hcell i hlt
    have hxb : (ix xs i : Int) < 1000000000 := by have := ha.ix i; omega
    clear hcell e
    go_enter Tryd.func72, Tryd.ntmps72
    go_wp2
    go_ret
    exact ⟨rfl, rfl⟩
  · have HZ := Lib.hid (ix_past xs i (by omega))
    clear e
    go_enter Tryd.func72, Tryd.ntmps72
    go_wp2
    go_ret
    exact ⟨by rw [HZ.out]; rfl, rfl⟩

/-- Same, of two equal integers -/
def sameB (n1 n2 : Bool) (xs ys : List Nat) : Bool := decide (n1 = n2 ∧ xs = ys)
set_option maxRecDepth 100000 in
set_option maxHeartbeats 400000 in
theorem same_eq (V1 V2 : Value) (z : Int) (w : World) (h1 : IntRep w V1 z) (h2 : IntRep w V2 z) (hm : (dig z.natAbs).length ≤ 1000000) :
    Calls Tryd.prog 54 #[V1, V2] w fun e w' => e = .returned (.bool true) ∧ Keeps w w' := by
  obtain ⟨A, n, c, rfl, hv1⟩ := h1.open_
  obtain ⟨D, m, d, rfl, hv2⟩ := h2.open_
  obtain ⟨A', n', c', e', e1, -, -, -, r1⟩ := hv1.open_
  cases e'
  obtain ⟨D', m', d', e', e2, -, -, -, r2⟩ := hv2.open_
  cases e'
  obtain rfl : n = m := by omega
  generalize decide (z < 0) = neg at *
  generalize dig z.natAbs = xs at *
  have hkk := keep2 w (.cells #[.bool neg, .slice A n c] 24) (.cells #[.bool neg, .slice D n d] 24)
  have hA := (Own.new w 24 [.bool neg, .slice A n c]).alloc (.cells #[.bool neg, .slice D n d] 24)
  have hB := own2 w (.cells #[.bool neg, .slice A n c] 24) 24 [.bool neg, .slice D n d]
  have g1 := r1.below hkk
  have g2 := r2.below hkk
  have hbn : (neg != neg) = false := by simp
  have hnn : ((n : Int) != n) = false := by simp
  have hn1 : n ≤ 1000000 := by omega
  have HE := Lib.hid e1
  have HW : Hid (Keeps w ((w.alloc (.cells #[.bool neg, .slice A n c] 24)).alloc (.cells #[.bool neg, .slice D n d] 24))) := Lib.hid hkk
  clear e1 e2 h1 h2 hv1 hv2 r1 r2 hkk
  go_enter Tryd.func54, Tryd.ntmps54
  go_wp2
  generalize (w.alloc (.cells #[.bool neg, .slice A n c] 24)).alloc (.cells #[.bool neg, .slice D n d] 24) = W at *
  go_loopw [5] (fun i wr => ∃ k : Nat, k ≤ n ∧ i = .int .i64 (k : Nat) ∧ Below W.heap.size W wr) (fun i _ => n - (intOf i).toNat)
  case atStart => exact ⟨0, by omega, rfl, Below.refl _ _⟩
  case round =>
    obtain ⟨k, hk, rfl, hkr⟩ := hrel
    have hA' := hA.below hkr
    have hB' := hB.below hkr
    have a1 := hA'.c1
    have b1 := hB'.c1
    by_cases hlt : k < n
    · obtain ⟨b, o, rfl, hb, hcell⟩ := (g1.below hkr) (by omega)
      obtain ⟨b2, o2, rfl, hb2, hcell2⟩ := (g2.below hkr) (by omega)
      have hx : wr.cell? ⟨b, o + k, none⟩ = some (.int .u32 (ix xs k : Nat)) := hcell k hlt
      have hy : wr.cell? ⟨b2, o2 + k, none⟩ = some (.int .u32 (ix xs k : Nat)) := hcell2 k hlt
      have h00 : (0 : Int) ≤ (k : Int) := by omega
      have h01 : (k : Int) < (n : Int) := by omega
      have hne : (((ix xs k : Nat) : Int) != ((ix xs k : Nat) : Int)) = false := by simp
      clear hcell hcell2
      go_wp2
      go_quiet (fail)
      go_wp2
      go_roundw
      case rel => exact ⟨k + 1, by omega, by go_num, below_drewN hkr _⟩
      case measure => simp [intOf]; omega
    · obtain rfl : k = n := by omega
      go_wp2
      go_ret
      exact ⟨rfl, HW.out.trans' hkr⟩
end Go.Proofs.YthgbgoidnnfapaaDoor
