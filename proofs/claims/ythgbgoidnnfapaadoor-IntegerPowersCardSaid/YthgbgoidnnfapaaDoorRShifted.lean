/- The walk of the reference's shifted: a magnitude times the base, plus a group. -/
import Derived.Test.YthgbgoidnnfapaaDoorRScaled
namespace Go.Proofs.YthgbgoidnnfapaaDoor
open Go.RowKit Go.Shelf

theorem val_shift (a d : Nat) : val (d :: dig a) = a * 1000000000 + d := by
  show d + 1000000000 * val (dig a) = _
  rw [val_dig]; omega
theorem made_one (w : World) (t : TypeId) (x : Nat) : (w.alloc (.cells #[.int .u32 (x : Nat)] t)).ownsRow w.heap.size t 1 (.slice (some ⟨w.heap.size, 0, none⟩) 1 1) 1 (u32s [x]) :=
  ⟨by simp [u32s], .inr ⟨w.heap.size, 1, #[.int .u32 (x : Nat)], rfl, Nat.le_refl _, heap_alloc_new w _, by omega, by simp [maxLen], by simp, by simp [u32s]⟩⟩

set_option maxRecDepth 100000 in
set_option maxHeartbeats 1000000 in
theorem rshifted_any (v : Value) (a d : Nat) (w : World) (h : U32 w v (dig a)) (hm : (dig a).length ≤ 1000000) (hd : d < 1000000000) :
    Calls Tryd.prog 94 #[v, .int .u32 (d : Nat)] w fun e w' => ∃ v', e = .returned v' ∧ U32 w' v' (dig (a * 1000000000 + d)) ∧ Keeps w w' := by
  obtain ⟨i0, hi, hz0, hz1, hz2⟩ := info_parts info_u32
  obtain ⟨A, n, c, rfl, e1, hc, -, h0, r1⟩ := h.open_
  have hn : n ≤ 1000000 := by omega
  have HE := Lib.hid e1
  clear e1
  go_enter Tryd.func94, Tryd.ntmps94
  go_wp2_with (at_builtin; refine wpList_append_row rfl _ _ 22 rfl w.heap.size 48 i0 (.int .u32 0) 4 Tryd.underlying22 hi hz0 hz1 hz2 rfl (.slice (some ⟨w.heap.size, 0, none⟩) 1 1) 1 (u32s [d]) rfl (made_one w 48 d) A n c (u32 (dig a)) rfl h0 hc (r1.below (box2 _ _)) (fun j => rfl) (by simp only [maxLen]; omega) (by omega) (by simp) ?_; intro v' w1 hown' hgrow)
  rw [show u32s [d] ++ (List.range n).map (u32 (dig a)) = u32s (d :: dig a) by rw [← HE.out, u32s_range]; simp [u32s]] at hown'
  have hk2 : Keeps w w1 := (box2 w _).grown hgrow (by simp) (fun b e => by cases e; exact Nat.le_refl _)
  refine (rmade_u false v' (d :: dig a) _ (U32.of_own hown') (AllB.cons hd (AllB.dig a)) (by simp; omega)).mono ?_
  rintro e w3 ⟨V3, rfl, hr3, hk3⟩
  obtain ⟨A3, n3, c3, rfl, hv3⟩ := hr3.open_
  have hfd := field_groups (.bool (decide (sgn false (val (d :: dig a)) < 0))) (.slice A3 n3 c3)
  go_wp2
  go_ret
  refine ⟨_, rfl, ?_, hk2.trans' hk3⟩
  rw [sgn_natAbs, val_shift] at hv3
  exact hv3
end Go.Proofs.YthgbgoidnnfapaaDoor
