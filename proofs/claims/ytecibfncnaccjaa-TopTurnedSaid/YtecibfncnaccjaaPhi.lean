/- The law for regions that draw their order once more, each step behind a word that no elaborator looks into; a step whose guard may say no. No program in sight. -/
import Derived.Test.YtecibfncnaccjaaRegion
namespace Go.Proofs.Ytecibfncnaccjaa
open Go.RowKit

section
variable {P : Program} {ops : Array Oper} {Q : Exit → Act → World → Prop} {vs : Nat → Value} {a : Act} {m i : Nat} {o : Oper} {Φ : Nat → Value → World → Prop} {own : List Nat} {w : World}
/-- what one operation must do -/
structure Step (P : Program) (ops : Array Oper) (Φ : Nat → Value → World → Prop) (own : List Nat) (m i : Nat) (vs : Nat → Value) (a : Act) (w : World) : Prop where
  go : ∀ K : Act → World → Prop, (∀ v w', Hands Φ own i w v w' → K ((fr ops vs a (depsOf ops m i)).put (dstOf ops i) v) w') → wpOp P ops (fun _ _ _ => False) i K (fr ops vs a (depsOf ops m i)) w
theorem step_yes (ds : List (Nat × Option Tmp)) (hi : ops[i]? = some o) (hl : (depsOf ops m i).map (fun j => (j, dstOf ops j)) = ds)
    (h : ∀ K : Act → World → Prop, (∀ v w', Hands Φ own i w v w' → K ((frD vs a ds).put o.dst v) w') → Region.wanted o (yielded ops (frD vs a ds).tmps) = true ∧ Oper.wp P o (frD vs a ds) w K (fun _ _ _ => False)) :
    Step P ops Φ own m i vs a w := by
  have hd : dstOf ops i = o.dst := by simp [dstOf, hi]
  refine ⟨?_⟩
  rw [fr_frD, hl, hd]
  intro K hK
  obtain ⟨hw, hh⟩ := h K hK
  unfold wpOp
  simp only [hi, hw, if_true]
  exact .inl hh
theorem step_no (ds : List (Nat × Option Tmp)) (hi : ops[i]? = some o) (hl : (depsOf ops m i).map (fun j => (j, dstOf ops j)) = ds)
    (h : Region.wanted o (yielded ops (frD vs a ds).tmps) = false) (hΦ : Φ i undef w) (ho : i ∉ own) :
    Step P ops Φ own m i vs a w := by
  have hd : dstOf ops i = o.dst := by simp [dstOf, hi]
  refine ⟨?_⟩
  rw [fr_frD, hl, hd]
  intro K hK
  unfold wpOp
  simp only [hi, h, Bool.false_eq_true, if_false]
  exact hK _ _ ⟨Below.refl _ _, hΦ, fun h => absurd h ho⟩
theorem wp_region_steps {id : Nat} {w0 : World} (hm : P.follows .mixedOrders = true) (hok : regionOk ops m = true) (Φ : Nat → Value → World → Prop) (own : List Nat)
    (hΦ : ∀ i v w w', i < m → Φ i v w → Keeps w w' → Φ i v w')
    (hstep : ∀ i, i < m → ∀ vs w, Keeps w0.drew w → (∀ j ∈ depsOf ops m i, Φ j (vs j) w) → Step P ops Φ own m i vs a w)
    (htail : ∀ vs w, Keeps w0.drew w → (∀ i, i < m → Φ i (vs i) w) → (∀ i j, i < m → j < m → i ∈ own → j ∈ own → i ≠ j → vs i ≠ vs j) → wpList P ops Q (ops.toList.drop m) (fr ops vs a (List.range m)) w) :
    (Code.region id ops true).wp P Q a w0 :=
  wp_region_phi hm hok Φ own hΦ (fun i hi vs w hk hd => (hstep i hi vs w hk hd).go) htail
end
end Go.Proofs.Ytecibfncnaccjaa
