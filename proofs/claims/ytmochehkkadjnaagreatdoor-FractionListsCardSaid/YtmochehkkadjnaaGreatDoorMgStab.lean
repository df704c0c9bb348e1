/- What a region's values may be said to be, and that it lasts: for the walks that walk.py prints. No program in sight. What FractionField asks, of core's fractions; the helper eq. Rounding to multiples of 1/P: it encloses, it is monotone, it is idempotent; the nearest is one of the two. No program in sight. -/
import Derived.Test.YtmochehkkadjnaaGreatDoorMgSt2
import Derived.Test.YtmochehkkadjnaaGreatDoorGRest
import Derived.Test.YtmochehkkadjnaaGreatDoorMgNums
namespace Go.Proofs.YtmochehkkadjnaaGreatDoor
open Go.RowKit

def StabL : List (Value → World → Prop) → Prop
  | [] => True
  | φ :: l => (∀ v w w', φ v w → Keeps w w' → φ v w') ∧ StabL l
theorem stab_nil : StabL [] := trivial
theorem stab_cons {φ : Value → World → Prop} {l : List (Value → World → Prop)} (h : ∀ v w w', φ v w → Keeps w w' → φ v w') (hl : StabL l) : StabL (φ :: l) := ⟨h, hl⟩
theorem stabL_get : ∀ {l : List (Value → World → Prop)}, StabL l → ∀ (i : Nat) (v : Value) (w w' : World), (List.getD l i (fun _ _ => True)) v w → Keeps w w' → (List.getD l i (fun _ _ => True)) v w'
  | [], _, _, _, _, _, _, _ => trivial
  | _ :: _, h, 0, v, w, w', hp, hk => h.1 v w w' hp hk
  | _ :: l, h, i + 1, v, w, w', hp, hk => stabL_get (l := l) h.2 i v w w' hp hk
theorem st_e {c : Value} (v : Value) (w w' : World) (h : v = c) (_ : Keeps w w') : v = c := h
theorem st_q {q : Rat} (v : Value) (w w' : World) (h : RatRep w v q) (hk : Keeps w w') : RatRep w' v q := h.below hk
section
variable {P : Program} {ops : Array Oper} {Φ : Nat → Value → World → Prop} {own : List Nat} {m i : Nat} {vs : Nat → Value} {a : Act} {w : World} {o : Oper}
theorem step_val (ds : List (Nat × Option Tmp)) (φ : Value → World → Prop) (hi : ops[i]? = some o) (hl : (depsOf ops m i).map (fun j => (j, dstOf ops j)) = ds) (hφ : ∀ v w, φ v w → Φ i v w) (ho : own.contains i = false)
    (h : ∀ K : Act → World → Prop, (∀ v w', Keeps w w' → φ v w' → K ((frD vs a ds).put o.dst v) w') → Region.wanted o (yielded ops (frD vs a ds).tmps) = true ∧ Oper.wp P o (frD vs a ds) w K (fun _ _ _ => False)) : Step P ops Φ own m i vs a w :=
  step_yes ds hi hl fun K hK => h K fun v w' hk hp => hK v w' ⟨hk, hφ _ _ hp, fun hc => by rw [List.contains_iff_mem.2 hc] at ho; cases ho⟩
theorem step_val0 (ds : List (Nat × Option Tmp)) (φ : Value → World → Prop) (hi : ops[i]? = some o) (hl : (depsOf ops m i).map (fun j => (j, dstOf ops j)) = ds) (hg : o.guard = none) (hφ : ∀ v w, φ v w → Φ i v w) (ho : own.contains i = false)
    (h : ∀ K : Act → World → Prop, (∀ v w', Keeps w w' → φ v w' → K ((frD vs a ds).put o.dst v) w') → Oper.wp P o (frD vs a ds) w K (fun _ _ _ => False)) : Step P ops Φ own m i vs a w :=
  step_val ds φ hi hl hφ ho fun K hK => ⟨by simp [Region.wanted, hg], h K hK⟩
end
theorem exec_call {P : Program} {o : Oper} {ρ : Operand → Value} {w : World} {c : Call} {x : Operand} {F : FuncId} {fn : Func} {A : Array Value} (hop : o.op = .call c) (hc : c.callee = .value x) (hx : ρ x = .func (.func F) #[] #[]) (hA : c.args.map ρ = A)
    (hf : P.funcs[F]? = some fn) (hn : (fn.name == "runtime.NumGoroutine") = false) (hb : fn.body.isNone = false) : (execOp ρ o).run P w = .ok (.enter F A) w := by
  have hn' : ¬ fn.name = "runtime.NumGoroutine" := by simpa using hn
  have hb' : ¬ fn.body = none := fun e => by rw [e] at hb; cases hb
  simp [execOp, hop, resolve, hc, hx, hA, Deferred.ofValue, invoke, callFunc, hf, hn', hb', go_sem]
theorem wp_call_fn {P : Program} {o : Oper} {a : Act} {w : World} {K : Act → World → Prop} {Q : Exit → Act → World → Prop} {c : Call} {x : Operand} {F : FuncId} {fn : Func} {X : Value} {A B : Array Value} (hop : o.op = .call c) (hc : c.callee = .value x)
    (hx : a.eval x = X) (hX : X = .func (.func F) #[] #[]) (hA : c.args.map a.eval = A) (hB : A = B) (hf : P.funcs[F]? = some fn) (hn : (fn.name == "runtime.NumGoroutine") = false) (hb : fn.body.isNone = false)
    (h : Calls P F B w (fun e w' => ∃ v, e = .returned v ∧ K (a.put o.dst v) w')) : Oper.wp P o a w K Q := by
  subst hX hB
  unfold Oper.wp
  rw [exec_call hop hc hx hA hf hn hb, Oper.upon_enter]
  refine h.mono ?_
  rintro e w' ⟨v, rfl, hK⟩
  exact hK
theorem wanted_none {ops : Array Oper} {o : Oper} {ts : Array Value} (hg : o.guard = none) : Region.wanted o (yielded ops ts) = true := by simp [Region.wanted, hg]
theorem step_call {P : Program} {ops : Array Oper} {Φ : Nat → Value → World → Prop} {own : List Nat} {m i : Nat} {vs : Nat → Value} {a : Act} {w : World} {o : Oper} {c : Call} {x : Operand} {F : FuncId} {fn : Func} {X : Value} {A B : Array Value}
    (ds : List (Nat × Option Tmp)) (φ : Value → World → Prop) (hi : ops[i]? = some o) (hl : (depsOf ops m i).map (fun j => (j, dstOf ops j)) = ds) (hφ : ∀ v w, φ v w → Φ i v w) (ho : own.contains i = false)
    (hw : Region.wanted o (yielded ops (frD vs a ds).tmps) = true) (hop : o.op = .call c) (hc : c.callee = .value x) (hx : (frD vs a ds).eval x = X) (hX : X = .func (.func F) #[] #[]) (hA : c.args.map (frD vs a ds).eval = A) (hB : A = B)
    (hf : P.funcs[F]? = some fn) (hn : (fn.name == "runtime.NumGoroutine") = false) (hb : fn.body.isNone = false) (h : Calls P F B w (fun e w' => ∃ v, e = .returned v ∧ Keeps w w' ∧ φ v w')) : Step P ops Φ own m i vs a w :=
  step_val ds φ hi hl hφ ho fun _ hK => ⟨hw, wp_call_fn hop hc hx hX hA hB hf hn hb (h.mono fun _ w' ⟨v, e1, h1, h2⟩ => ⟨v, e1, hK v w' h1 h2⟩)⟩
end Go.Proofs.YtmochehkkadjnaaGreatDoor

namespace Go.Proofs.YtmochehkkadjnaaGreatDoor
open Go.RowKit Go.Shelf

end Go.Proofs.YtmochehkkadjnaaGreatDoor

namespace Go.Proofs.YtmochehkkadjnaaGreatDoor
open Go.RowKit

section
variable {x y h : Rat} {P : Int}
end
end Go.Proofs.YtmochehkkadjnaaGreatDoor
