/- A region that draws its order in the body of a range over a function: the law by predicates, there too. No program in sight. -/
import Derived.Test.YtgcigdahjabimaaGreatDoorPr9
import Derived.Test.YtgcigdahjabimaaGreatDoorPr1
namespace Go.Proofs.YtgcigdahjabimaaGreatDoor
open Go.RowKit Go.Shelf

def onlyN (Q : Exit → Act → World → Prop) : Exit → Act → World → Prop
 | .normal, a, w => Q .normal a w
 | _, _, _ => False
theorem onlyN_out (Q : Exit → Act → World → Prop) : ¬ LetsOut (onlyN Q) := fun ⟨_, _, h⟩ => h
section
variable {P : Program} {ops : Array Oper} {Q : Exit → Act → World → Prop} {l n : Nat}
theorem rowsIn_wide {row : String} {args : Array Value} {w : World} {R : Value → World → Prop} (h : Rows P row args w R) : RowsIn (Fence.wide.inRound l) n P row args w R :=
 fun c cs _ => let ⟨v, w', r, s⟩ := h c cs; ⟨v, w', r, stepsIn_wide.2 s⟩
theorem uponIn_of_upon {o : Oper} {a : Act} {K : Act → World → Prop} {Q' : Exit → Act → World → Prop} (hp : ∀ c a w, ¬ Q' (.panic c) a w) (ho : ¬ LetsOut Q') : ∀ {r : Result Next}, o.upon P a K Q' r → o.uponIn (Fence.wide.inRound l) n P a K Q r
 | .ok (.value v) w', h => h
 | .ok .skip w', h => h
 | .ok (.defer d) w', h => h
 | .ok (.enter f args) w', h => by
  refine ⟨(fun h => by cases h), CallsIn.mono (F := Fence.wide.inRound l) (callsIn_wide (n := n - 1).2 h) fun e w'' h => ?_⟩
  cases e with
  | returned v => exact h
  | panicked c => exact (hp _ _ _ h).elim
  | outgrown => exact (ho h).elim
 | .ok (.row row args) w', h => ⟨(fun h => by cases h), rowsIn_wide h⟩
 | .halt (.panic v) w', h => (hp _ _ _ h).elim
theorem wpOpIn_of {i : Nat} {K K' : Act → World → Prop} {a : Act} {w : World} (hnd : ∀ (j : Nat) (o : Oper), ops[j]? = some o → ∀ c, o.op ≠ .defer c) (hK : ∀ a w, K a w → K' a w) (h : wpOp P ops (onlyN Q) i K a w) : wpOpIn (Fence.wide.inRound l) n P ops Q i K' a w := by
 unfold wpOp at h
 unfold wpOpIn
 split
 ·rename_i ho
  simp only [ho] at h
  exact hK _ _ h
 ·rename_i o ho
  simp only [ho] at h
  split
  ·rename_i hw
   simp only [hw, if_true] at h
   rcases h with h | ⟨_, h⟩
   ·refine ⟨fun _ _ => trivial, ?_⟩
    rw [Oper.semAt_eq _ _ _ (hnd i o ho)]
    exact uponIn_of_upon (fun _ _ _ h => h) (onlyN_out Q) (Oper.wp_mono hK h)
   ·exact (onlyN_out Q h).elim
  ·rename_i hw
   simp only [hw] at h
   exact ⟨fun _ _ => trivial, hK _ _ h⟩
theorem wpAnyIn_of {md : Region.Mode} (hnd : ∀ (j : Nat) (o : Oper), ops[j]? = some o → ∀ c, o.op ≠ .defer c) : ∀ (fuel : Nat) (listed : Array Bool) (a : Act) (w : World), wpAny P md ops (onlyN Q) fuel listed a w → wpAnyIn (Fence.wide.inRound l) n P md ops Q fuel listed a w
 | 0, _, _, _, h => h
 | fuel + 1, _, _, _, h => ⟨fun hr => h.1 hr, fun i hi => wpOpIn_of hnd (fun a w hk => wpAnyIn_of hnd fuel _ a w hk) (h.2 i hi)⟩
def noDefer (ops : Array Oper) : Bool := ops.all fun o => match o.op with | .defer _ => false | _ => true
theorem noDefer_spec (h : noDefer ops = true) : ∀ (j : Nat) (o : Oper), ops[j]? = some o → ∀ c, o.op ≠ .defer c := fun j o ho c e => by
 unfold noDefer at h
 rw [Array.all_eq_true_iff_forall_mem] at h
 have := h o (Array.mem_of_getElem? ho)
 rw [e] at this
 cases this
end
end Go.Proofs.YtgcigdahjabimaaGreatDoor
