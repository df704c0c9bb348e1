/- Regions that draw their order: reads are taken first under a condition that need not hold behind the last operation; there, and in a round of a range over a function. No program in sight. -/
import Derived.Test.YtbkcnhbdjllojaaRound
import Derived.OrdersHeld
import Derived.Deep.RegionHeld3
namespace Go.Proofs.Ytbkcnhbdjllojaa
open Go.RowKit

section
variable {P : Program} {ops : Array Oper} {Q : Exit → Act → World → Prop} {S : World → Prop} {z : Nat}
/-- whatever order is picked; S holds behind all but operation z -/
def wpAnyT (P : Program) (ops : Array Oper) (Q : Exit → Act → World → Prop) (S : World → Prop) (z : Nat) : Nat → Array Bool → Act → World → Prop
  | 0, listed, a, w => Region.ready .any ops listed = [] ∧ Q .normal a w
  | fuel + 1, listed, a, w => (Region.ready .any ops listed = [] → Q .normal a w) ∧
    ∀ i ∈ Region.ready .any ops listed, wpOp P ops Q i (fun a' w' => (i = z ∨ S w') ∧ wpAnyT P ops Q S z fuel (listed.setIfInBounds i true) a' w') a w
theorem wpAny_of_T : ∀ (fuel : Nat) (listed : Array Bool) (a : Act) (w : World), wpAnyT P ops Q S z fuel listed a w → wpAny P .any ops Q fuel listed a w
  | 0, _, _, _, h => h
  | fuel + 1, _, _, _, h => ⟨h.1, fun i hi => wpOp_mono (fun a' w' h' => wpAny_of_T fuel _ a' w' h'.2) (h.2 i hi)⟩
/-- operation z waits for operation i -/
def waits (ops : Array Oper) (z i : Nat) : Bool := match ops[z]? with
  | some o => o.after.any fun e => Region.binds .any e && e.on == i
  | none => false
theorem waits_spec {i : Nat} (h : waits ops z i = true) : ∃ o, ops[z]? = some o ∧ ∃ e ∈ o.after, Region.binds .any e = true ∧ e.on = i := by
  unfold waits at h
  cases ho : ops[z]? with
  | none => simp [ho] at h
  | some o =>
    simp only [ho] at h
    obtain ⟨e, he, hb⟩ := Array.any_eq_true'.1 h
    simp only [Bool.and_eq_true, beq_iff_eq] at hb
    exact ⟨o, rfl, e, he, hb.1, hb.2⟩
theorem wpAnyT_first {i : Nat} {oi : Oper} {v : Value} (hi : ops[i]? = some oi) (hsel : ∀ (j : Nat) (o : Oper) cs b, ops[j]? = some o → o.op ≠ .select cs b) (hz : waits ops z i = true)
    (hQ : ∀ c a w, Q (.panic c) (a.put oi.dst v) w → Q (.panic c) a w) :
    ∀ (fuel : Nat) (listed : Array Bool) (a : Act) (w : World),
      (∀ j oj, ops[j]? = some oj → j ≠ i → listed.getD j true = false → (∀ e ∈ oj.after, Region.binds .any e = true → e.on ≠ i) → oi.apart ops oj = true) →
      i ∈ Region.ready .any ops listed → YieldsIf P ops S oi v a → S w →
      wpAnyT P ops Q S z fuel (listed.setIfInBounds i true) (a.put oi.dst v) w → wpAnyT P ops Q S z (fuel + 1) listed a w := by
  intro fuel
  induction fuel with
  | zero =>
    intro listed a w _ hr hy hS H
    refine ⟨fun h => (by rw [h] at hr; cases hr), fun j hj => ?_⟩
    rcases Decidable.em (j = i) with rfl | hji
    · exact hy.wpOp hi hS ⟨.inr hS, H⟩
    · have hmore := ready_mono hj hji
      rw [H.1] at hmore
      cases hmore
  | succ fuel ih =>
    intro listed a w hap hr hy hS H
    refine ⟨fun h => (by rw [h] at hr; cases hr), fun j hj => ?_⟩
    rcases Decidable.em (j = i) with rfl | hji
    · exact hy.wpOp hi hS ⟨.inr hS, H⟩
    obtain ⟨hun, oj, hoj, hall⟩ := mem_ready.1 hj
    have hnot : ∀ e ∈ oj.after, Region.binds .any e = true → e.on ≠ i := fun e he hb hon => by
      have hin := hall e he hb
      have hout := (mem_ready.1 hr).1
      rw [hon] at hin
      rcases Nat.lt_or_ge i listed.size with hlt | hge
      · simp [hlt] at hin hout; rw [hout] at hin; cases hin
      · simp [Array.getElem?_eq_none hge] at hin
    have hjz : j ≠ z := fun e => by
      subst e
      obtain ⟨o, ho, e, he, hb, hon⟩ := waits_spec hz
      rw [hoj] at ho
      cases ho
      exact hnot e he hb hon
    have hstep := wpOp_putIf hoj (hap j oj hoj hji hun hnot) (fun cs b => hsel i oi cs b hi) (fun cs b => hsel j oj cs b hoj) hQ hy (H.2 j (ready_mono hj hji))
    refine wpOp_mono (fun a' w' h3 => ?_) hstep
    have hS' : S w' := h3.2.1.resolve_left hjz
    refine ⟨.inr hS', ih (listed.setIfInBounds j true) a' w' (fun k ok hk hki hkun hno => hap k ok hk hki ?_ hno) (ready_mono hr (Ne.symm hji)) h3.1 hS' ?_⟩
    · rcases Decidable.em (j = k) with rfl | hjk
      · exact hun
      · rw [getD_set_ne true hjk] at hkun
        exact hkun
    · rw [Array.setIfInBounds_comm _ _ hji]
      exact h3.2.2
theorem wpAnyT_take (i : Nat) (v : Value) {oi : Oper} {fuel : Nat} {listed : Array Bool} {a : Act} {w : World} (hi : ops[i]? = some oi)
    (hs : Region.noSelect ops = true) (hf : Region.free .any ops listed i = true) (hr : (Region.ready .any ops listed).contains i = true) (hz : waits ops z i = true)
    (hQ : ∀ c a w, Q (.panic c) (a.put oi.dst v) w → Q (.panic c) a w) (hw : Region.wanted oi (yielded ops a.tmps) = true) (hy : ∀ w, S w → (execOp a.eval oi).run P w = .ok (.value v) w) (hS : S w)
    (h : wpAnyT P ops Q S z fuel (listed.setIfInBounds i true) (a.put oi.dst v) w) : wpAnyT P ops Q S z (fuel + 1) listed a w :=
  wpAnyT_first hi (Region.noSelect_spec hs) hz hQ fuel listed a w (Region.free_spec hi hf) (by simpa using hr) (.inl ⟨hw, hy⟩) hS h
/-- the one operation that may come up -/
theorem wpAnyT_op (i : Nat) {o : Oper} {fuel : Nat} {listed : Array Bool} {a : Act} {w : World} (hr : Region.ready .any ops listed = [i]) (hi : ops[i]? = some o) (hw : Region.wanted o (yielded ops a.tmps) = true)
    (h : ∀ K : Act → World → Prop, (∀ a w, (i = z ∨ S w) → wpAnyT P ops Q S z fuel (listed.setIfInBounds i true) a w → K a w) → o.wp P a w K Q) : wpAnyT P ops Q S z (fuel + 1) listed a w := by
  refine ⟨fun h0 => (by rw [hr] at h0; cases h0), fun j hj => ?_⟩
  rw [hr, List.mem_singleton] at hj
  subst hj
  unfold wpOp
  simp only [hi, hw, if_true]
  exact .inl (h _ fun a w hS hh => ⟨hS, hh⟩)
theorem wpAnyT_done {listed : Array Bool} {a : Act} {w : World} (hr : Region.ready .any ops listed = []) (h : Q .normal a w) : ∀ fuel, wpAnyT P ops Q S z fuel listed a w
  | 0 => ⟨hr, h⟩
  | _ + 1 => ⟨fun _ => h, by rw [hr]; simp⟩
/-- the beginning -/
theorem wp_region_mix (z : Nat) (S : World → Prop) {id : Nat} {a : Act} {w : World} (hm : P.follows .mixedOrders = true) (h : wpAnyT P ops Q S z ops.size (Array.replicate ops.size false) a w.drew) : (Code.region id ops true).wp P Q a w :=
  wp_region_any hm (wpAny_of_T _ _ _ _ h)
theorem wpIn_region_mix (z : Nat) (S : World → Prop) {id l n : Nat} {a : Act} {w : World} (hm : P.follows .mixedOrders = true) (hnd : noDefer ops = true) (h : wpAnyT P ops (onlyN Q) S z ops.size (Array.replicate ops.size false) a w.drew) :
    (Code.region id ops true).wpIn (Fence.wide.inRound l) n P Q a w :=
  wpIn_region_any hm (wpAnyIn_of (noDefer_spec hnd) _ _ _ _ (wpAny_of_T _ _ _ _ h))
end
end Go.Proofs.Ytbkcnhbdjllojaa
