/- The walks of the reference's Neg, Abs, Of. -/
import Derived.Test.YthgbgoidnnfapaaDoorRefD
namespace Go.Proofs.YthgbgoidnnfapaaDoor
open Go.RowKit Go.Shelf

theorem field_neg (x y : Value) : ∀ w : World, (Instr.field 24 (.agg #[x, y]) 1).run Tryd.prog w = .ok y w := field_groups x y

set_option maxRecDepth 100000 in
set_option maxHeartbeats 400000 in
theorem rneg_any (neg : Bool) (xs : List Nat) (V : Value) (w : World) (h : IntArg w V neg xs) (hm : xs.length ≤ 1000000) :
    Calls Tryd.prog 32 #[V] w fun e w' => ∃ V, e = .returned V ∧ IntRep w' V (-cnt neg xs) ∧ Keeps w w' := by
  obtain ⟨v, rfl, hv⟩ := h
  have hml := mag_length neg xs
  rw [← cnt_abs] at hml
  have hkk := keep2 w (.cells #[.bool neg, v] 24) (.cells #[.bool false, .slice none 0 0] 24)
  have hB := (Own.new w 24 [.bool neg, v]).alloc (.cells #[.bool false, .slice none 0 0] 24)
  have hR := own2 w (.cells #[.bool neg, v] 24) 24 [.bool false, .slice none 0 0]
  have hG := Lib.hid (rvalue_any neg xs (.agg #[.bool neg, v]) _ ⟨v, rfl, hv.below hkk⟩ hm)
  generalize cnt neg xs = z at hG hml ⊢
  go_enter Tryd.func32, Tryd.ntmps32
  go_wp2_with fail
  refine hG.out.mono ?_
  rintro e w1 ⟨V3, rfl, hr3, hk1⟩
  obtain ⟨A3, n3, c3, rfl, hv3⟩ := hr3.open_
  have hB1 := hB.below hk1
  have hR1 := hR.below hk1
  have r0 := hB1.c0
  have r1 := hB1.c1
  have f0 := hB1.frozen 0
  have f1 := hB1.frozen 1
  have hk := hkk.trans' hk1
  have hB2 := hB1.two (.bool (decide (z < 0))) (.slice A3 n3 c3)
  have hR2 := hR1.far2 (R := w.heap.size) (by omega) (x := .bool (decide (z < 0))) (y := .slice A3 n3 c3)
  have s0 := hB2.c0
  have s1 := hB2.c1
  have hkm := ((hk.set (p := ⟨w.heap.size, 0, none⟩) (by simp) (.bool (decide (z < 0)))).set (p := ⟨w.heap.size, 1, none⟩) (by simp) (.slice A3 n3 c3))
  have hv4 : U32 ((w1.setCell ⟨w.heap.size, 0, none⟩ (.bool (decide (z < 0)))).setCell ⟨w.heap.size, 1, none⟩ (.slice A3 n3 c3)) (.slice A3 n3 c3) (dig z.natAbs) := by
    obtain ⟨v', e', h'⟩ := hr3.two (R := w.heap.size) (x' := .bool (decide (z < 0))) (y' := .slice A3 n3 c3) hB1 rfl (by obtain ⟨A', n', c', rfl, -⟩ := hv.open_; rfl) rfl
    cases e'
    exact h'
  go_wp2_with fail
  refine (rmade_d (!(decide (z < 0))) _ _ _ hv4 (by omega)).mono ?_
  rintro e w5 ⟨V5, rfl, hr5, hk5⟩
  obtain ⟨A5, n5, c5, rfl, hv5⟩ := hr5.open_
  have hR5 := hR2.below hk5
  have hk6 := Keeps.trans' hkm hk5
  have t0 := hR5.c0
  have t1 := hR5.c1
  have g0 := hR5.frozen 0
  have g1 := hR5.frozen 1
  obtain ⟨y, hy⟩ : ∃ y, sgn (!decide (z < 0)) z.natAbs = y := ⟨_, rfl⟩
  rw [hy] at hr5 hv5
  simp only [hy]
  have HY := Lib.hid hy
  clear hy
  go_wp2
  have hR6 := hR5.two (.bool (decide (y < 0))) (.slice A5 n5 c5)
  refine bodyPost_ret (v := .agg #[.bool (decide (y < 0)), .slice A5 n5 c5]) (by simp [results, Tryd.results32, go_sem, hR6.c0, hR6.c1]) rfl ?_
  refine ⟨_, rfl, ?_, (hk6.set (by simp) _).set (by simp) _⟩
  rw [show -z = y by rw [← HY.out, sgn_neg, sgn_of_rep]]
  exact hr5.two hR5 rfl rfl rfl

set_option maxRecDepth 100000 in
set_option maxHeartbeats 400000 in
theorem rabs_any (neg : Bool) (xs : List Nat) (V : Value) (w : World) (h : IntArg w V neg xs) (hm : xs.length ≤ 1000000) :
    Calls Tryd.prog 34 #[V] w fun e w' => ∃ V, e = .returned V ∧ IntRep w' V (cnt neg xs).natAbs ∧ Keeps w w' := by
  obtain ⟨v, rfl, hv⟩ := h
  have hml := mag_length neg xs
  rw [← cnt_abs] at hml
  have hkk := keep2 w (.cells #[.bool neg, v] 24) (.cells #[.bool false, .slice none 0 0] 24)
  have hR := own2 w (.cells #[.bool neg, v] 24) 24 [.bool false, .slice none 0 0]
  have hG := Lib.hid (rvalue_any neg xs (.agg #[.bool neg, v]) _ ⟨v, rfl, hv.below hkk⟩ hm)
  generalize cnt neg xs = z at hG hml ⊢
  go_enter Tryd.func34, Tryd.ntmps34
  go_wp2_with fail
  refine hG.out.mono ?_
  rintro e w1 ⟨V3, rfl, hr3, hk1⟩
  obtain ⟨A3, n3, c3, rfl, hv3⟩ := hr3.open_
  have hR1 := hR.below hk1
  have hk := hkk.trans' hk1
  have hfd := field_groups (.bool (decide (z < 0))) (.slice A3 n3 c3)
  go_wp2_with fail
  refine (rmade_d false _ _ _ hv3 (by omega)).mono ?_
  rintro e w5 ⟨V5, rfl, hr5, hk5⟩
  obtain ⟨A5, n5, c5, rfl, hv5⟩ := hr5.open_
  have hR5 := hR1.below hk5
  have hk6 := Keeps.trans' hk hk5
  have t0 := hR5.c0
  have t1 := hR5.c1
  have g0 := hR5.frozen 0
  have g1 := hR5.frozen 1
  obtain ⟨y, hy⟩ : ∃ y, sgn false z.natAbs = y := ⟨_, rfl⟩
  rw [hy] at hr5 hv5
  simp only [hy]
  have HY := Lib.hid hy
  clear hy
  go_wp2
  have hR6 := hR5.two (.bool (decide (y < 0))) (.slice A5 n5 c5)
  refine bodyPost_ret (v := .agg #[.bool (decide (y < 0)), .slice A5 n5 c5]) (by simp [results, Tryd.results34, go_sem, hR6.c0, hR6.c1]) rfl ?_
  refine ⟨_, rfl, ?_, (hk6.set (by simp) _).set (by simp) _⟩
  rw [show ((z.natAbs : Nat) : Int) = y by rw [← HY.out]; simp [sgn]]
  exact hr5.two hR5 rfl rfl rfl
end Go.Proofs.YthgbgoidnnfapaaDoor
