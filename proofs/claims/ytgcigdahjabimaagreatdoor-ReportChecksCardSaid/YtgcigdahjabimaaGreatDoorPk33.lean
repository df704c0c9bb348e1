/- The walk of the laws' helpers of and known. The laws' helpers short, same, Zero; the reference's Abs, Divide. The walk of fraction.Abs. The walks of the reference's Abs, Divide, Floor, Ceil, Zero; of the laws' helper same. What a region's values may be said to be, and that it lasts: for the walks that walk.py prints. No program in sight. -/
import Derived.Test.YtgcigdahjabimaaGreatDoorPk28
import Derived.Test.YtgcigdahjabimaaGreatDoorPk30
import Derived.Test.YtgcigdahjabimaaGreatDoorPk32
import Derived.Test.YtgcigdahjabimaaGreatDoorPk29
import Derived.Test.YtgcigdahjabimaaGreatDoorPk27
namespace Go.Proofs.YtgcigdahjabimaaGreatDoor
open Go.RowKit Go.Shelf

theorem dd_one (n : Nat) (h : n < 10) : Lib.decDigits n = [UInt8.ofNat (48 + n)] := by rw [Lib.decDigits, dif_pos h]
theorem RatArg.open2 {w : World} {V : Value} {n1 n2 : Bool} {xs ys : List Nat} (h : RatArg w V n1 xs n2 ys) : ∃ A c B d, V = .agg #[.bool n1, .slice A xs.length c, .bool n2, .slice B ys.length d] := by
 obtain ⟨x, v, y, u, rfl, ⟨v1, e1, h1⟩, ⟨v2, e2, h2⟩⟩ := h
 cases e1; cases e2
 obtain ⟨A, n, c, rfl, rfl, -⟩ := h1.open_
 obtain ⟨B, m, d, rfl, rfl, -⟩ := h2.open_
 exact ⟨A, c, B, d, rfl⟩
def RatS (w : World) (V : Value) (q : Rat) (b : Bool) : Prop :=
 ∃ n1 xs n2 ys, RatArg w V n1 xs n2 ys ∧ rcnt n1 xs n2 ys = q ∧ decide (xs.length + ys.length ≤ 8) = b ∧ xs.length ≤ 35184372088832 ∧ ys.length ≤ 35184372088832
section
variable {w w' w0 : World} {V : Value} {q : Rat} {b : Bool} {bs : List Bx} {ps : List (World → Prop)}
theorem RatArg.map {n1 n2 : Bool} {xs ys : List Nat} (h : RatArg w V n1 xs n2 ys) (hs : Same32 w w') : RatArg w' V n1 xs n2 ys := by
 obtain ⟨x, v, y, u, rfl, ⟨v1, e1, h1⟩, ⟨v2, e2, h2⟩⟩ := h
 exact ⟨_, _, _, _, rfl, ⟨v1, e1, hs _ _ h1⟩, ⟨v2, e2, hs _ _ h2⟩⟩
theorem RatS.map (h : RatS w V q b) (hs : Same32 w w') : RatS w' V q b := by
 obtain ⟨n1, xs, n2, ys, h, r⟩ := h
 exact ⟨n1, xs, n2, ys, h.map hs, r⟩
theorem RatS.num (h : RatS w V q true) : RatNum w V q := by
 obtain ⟨n1, xs, n2, ys, h, e, hb, -, -⟩ := h
 have := of_decide_eq_true hb
 exact ⟨n1, xs, n2, ys, h, e, by omega, by omega⟩
theorem RatS.sz (h : RatS w V q true) : szR q ≤ 8 := by
 obtain ⟨n1, xs, n2, ys, h, rfl, hb, -, -⟩ := h
 have := of_decide_eq_true hb
 have := szR_rcnt (n1 := n1) (xs := xs) (n2 := n2) (ys := ys)
 omega
theorem RatS.open_ (h : RatS w V q b) : ∃ b A n c d B m e, V = .agg #[.bool b, .slice A n c, .bool d, .slice B m e] := by
 obtain ⟨n1, xs, n2, ys, h, -⟩ := h
 obtain ⟨A, c, B, d, rfl⟩ := h.open2
 exact ⟨_, _, _, _, _, _, _, _, rfl⟩
end
set_option maxRecDepth 100000 in
theorem rdigs_any {w : World} {b d : Bool} {A B : Option Addr} {n m c e : Nat} (hn : n ≤ 35184372088832) (hm : m ≤ 35184372088832) :
 Calls Tryz.prog 21 #[.agg #[.bool b, .slice A n c, .bool d, .slice B m e]] w fun e w' => e = .returned (.int .i64 ((n : Int) + (m : Int))) ∧ Keeps w w' := by
 have S := (St.start w).alloc 31 [.bool b, .slice A n c, .bool d, .slice B m e]
 go_enter Tryz.func21, Tryz.ntmps21
 go_upto_region 1 with fail
 obtain ⟨W1, eW, S⟩ := S.pack
 rw [eW]
 clear eW
 have r0_1 := S.c 0 1 rfl rfl
 have r0_3 := S.c 0 3 rfl rfl
 go_wp2
 go_ret
 exact ⟨rfl, S.k⟩
set_option maxRecDepth 100000 in
theorem gzero_s {w : World} : Calls Tryz.prog 13 #[.agg #[.bool false, .slice none 0 0, .bool false, .slice none 0 0]] w fun e w' => e = .returned (.bool true) ∧ Keeps w w' := by
 have S := (St.start w).alloc 31 [.bool false, .slice none 0 0, .bool false, .slice none 0 0]
 go_enter Tryz.func13, Tryz.ntmps13
 go_upto_region 1 with fail
 obtain ⟨W1, eW, S⟩ := S.pack
 rw [eW]
 clear eW
 obtain ⟨r0_0, r0_1, r0_2, r0_3⟩ := S.cc4 0 rfl
 go_wp2
 go_ret
 exact ⟨rfl, S.k⟩
end Go.Proofs.YtgcigdahjabimaaGreatDoor
namespace Go.Proofs.YtgcigdahjabimaaGreatDoor
open Go.RowKit

def StabL : List (Value → World → Prop) → Prop
 | [] => True
 | φ :: l => (∀ v w w', φ v w → Keeps w w' → φ v w') ∧ StabL l
theorem stab_nil : StabL [] := trivial
theorem stab_cons {φ : Value → World → Prop} {l : List (Value → World → Prop)} (h : ∀ v w w', φ v w → Keeps w w' → φ v w') (hl : StabL l) : StabL (φ :: l) := ⟨h, hl⟩
theorem stabL_get : ∀ {l : List (Value → World → Prop)}, StabL l → ∀ (i : Nat) (v : Value) (w w' : World), (List.getD l i (fun _ _ => True)) v w → Keeps w w' → (List.getD l i (fun _ _ => True)) v w'
 | [], _, _, _, _, _, _, _ => trivial
 | _ :: _, h, 0, v, w, w', hp, hk => h.1 v w w' hp hk
 | _ :: l, h, i + 1, v, w, w', hp, hk => stabL_get (l := l) h.2 i v w w' hp hk
theorem st_e {c : Value} (v : Value) (w w' : World) (h : v = c) (_ : Keeps w w') : v = c := h
theorem st_q {q : Rat} (v : Value) (w w' : World) (h : RatRep w v q) (hk : Keeps w w') : RatRep w' v q := h.below hk
theorem st_i {z : Int} (v : Value) (w w' : World) (h : IntRep w v z) (hk : Keeps w w') : IntRep w' v z := h.below hk
theorem st_a {n : Nat} {t : TypeId} {vs : List Value} (v : Value) (w w' : World) (h : ∃ b, v = .pointer (some ⟨b, 0, none⟩) ∧ n ≤ b ∧ Own w b t vs) (hk : Keeps w w') : ∃ b, v = .pointer (some ⟨b, 0, none⟩) ∧ n ≤ b ∧ Own w' b t vs := by
 obtain ⟨b, h1, h2, h3⟩ := h
 exact ⟨b, h1, h2, h3.below hk⟩
section
variable {P : Program} {ops : Array Oper} {Φ : Nat → Value → World → Prop} {own : List Nat} {m i : Nat} {vs : Nat → Value} {a : Act} {w : World} {o : Oper}
theorem step_val (ds : List (Nat × Option Tmp)) (φ : Value → World → Prop) (hi : ops[i]? = some o) (hl : (depsOf ops m i).map (fun j => (j, dstOf ops j)) = ds) (hφ : ∀ v w, φ v w → Φ i v w) (ho : own.contains i = false)
 (h : ∀ K : Act → World → Prop, (∀ v w', Keeps w w' → φ v w' → K ((frD vs a ds).put o.dst v) w') → Region.wanted o (yielded ops (frD vs a ds).tmps) = true ∧ Oper.wp P o (frD vs a ds) w K (fun _ _ _ => False)) : Step P ops Φ own m i vs a w :=
 step_yes ds hi hl fun K hK => h K fun v w' hk hp => hK v w' ⟨hk, hφ _ _ hp, fun hc => by rw [List.contains_iff_mem.2 hc] at ho; cases ho⟩
theorem step_val0 (ds : List (Nat × Option Tmp)) (φ : Value → World → Prop) (hi : ops[i]? = some o) (hl : (depsOf ops m i).map (fun j => (j, dstOf ops j)) = ds) (hg : o.guard = none) (hφ : ∀ v w, φ v w → Φ i v w) (ho : own.contains i = false)
 (h : ∀ K : Act → World → Prop, (∀ v w', Keeps w w' → φ v w' → K ((frD vs a ds).put o.dst v) w') → Oper.wp P o (frD vs a ds) w K (fun _ _ _ => False)) : Step P ops Φ own m i vs a w :=
 step_val ds φ hi hl hφ ho fun K hK => ⟨by simp [Region.wanted, hg], h K hK⟩
end
theorem exec_call {P : Program} {o : Oper} {ρ : Operand → Value} {w : World} {c : Call} {x : Operand} {F : FuncId} {fn : Func} {A : Array Value} (hop : o.op = .call c) (hc : c.callee = .value x) (hx : ρ x = .func (.func F) #[] #[]) (hA : c.args.map ρ = A)
 (hf : P.funcs[F]? = some fn) (hn : (fn.name == "runtime.NumGoroutine") = false) (hb : fn.body.isNone = false) : (execOp ρ o).run P w = .ok (.enter F A) w := by
 have hn' : ¬ fn.name = "runtime.NumGoroutine" := by simpa using hn
 have hb' : ¬ fn.body = none := fun e => by rw [e] at hb; cases hb
 simp [execOp, hop, resolve, hc, hx, hA, Deferred.ofValue, invoke, callFunc, hf, hn', hb', go_sem]
theorem wp_call_fn {P : Program} {o : Oper} {a : Act} {w : World} {K : Act → World → Prop} {Q : Exit → Act → World → Prop} {c : Call} {x : Operand} {F : FuncId} {fn : Func} {X : Value} {A B : Array Value} (hop : o.op = .call c) (hc : c.callee = .value x)
 (hx : a.eval x = X) (hX : X = .func (.func F) #[] #[]) (hA : c.args.map a.eval = A) (hB : A = B) (hf : P.funcs[F]? = some fn) (hn : (fn.name == "runtime.NumGoroutine") = false) (hb : fn.body.isNone = false)
 (h : Calls P F B w (fun e w' => ∃ v, e = .returned v ∧ K (a.put o.dst v) w')) : Oper.wp P o a w K Q := by
 subst hX hB
 unfold Oper.wp
 rw [exec_call hop hc hx hA hf hn hb, Oper.upon_enter]
 refine h.mono ?_
 rintro e w' ⟨v, rfl, hK⟩
 exact hK
theorem wanted_none {ops : Array Oper} {o : Oper} {ts : Array Value} (hg : o.guard = none) : Region.wanted o (yielded ops ts) = true := by simp [Region.wanted, hg]
theorem wanted_some {ops : Array Oper} {o : Oper} {ts : Array Value} {g : Nat} {want : Bool} (t : Tmp) {X : Value} (hg : o.guard = some (g, want)) (hd : (ops[g]?.bind fun x => x.dst) = some t) (hv : ts[t]? = some X) (hX : X = .bool want) : Region.wanted o (yielded ops ts) = true := by
 subst hX
 simp only [Region.wanted, hg, yielded, hd, Option.bind_some, hv]
 simp
theorem step_valg {P : Program} {ops : Array Oper} {Φ : Nat → Value → World → Prop} {own : List Nat} {m i : Nat} {vs : Nat → Value} {a : Act} {w : World} {o : Oper}
 (ds : List (Nat × Option Tmp)) (φ : Value → World → Prop) (hi : ops[i]? = some o) (hl : (depsOf ops m i).map (fun j => (j, dstOf ops j)) = ds) (hφ : ∀ v w, φ v w → Φ i v w) (ho : own.contains i = false)
 (hw : Region.wanted o (yielded ops (frD vs a ds).tmps) = true)
 (h : ∀ K : Act → World → Prop, (∀ v w', Keeps w w' → φ v w' → K ((frD vs a ds).put o.dst v) w') → Oper.wp P o (frD vs a ds) w K (fun _ _ _ => False)) : Step P ops Φ own m i vs a w :=
 step_val ds φ hi hl hφ ho fun K hK => ⟨hw, h K hK⟩
theorem step_call {P : Program} {ops : Array Oper} {Φ : Nat → Value → World → Prop} {own : List Nat} {m i : Nat} {vs : Nat → Value} {a : Act} {w : World} {o : Oper} {c : Call} {x : Operand} {F : FuncId} {fn : Func} {X : Value} {A B : Array Value}
 (ds : List (Nat × Option Tmp)) (φ : Value → World → Prop) (hi : ops[i]? = some o) (hl : (depsOf ops m i).map (fun j => (j, dstOf ops j)) = ds) (hφ : ∀ v w, φ v w → Φ i v w) (ho : own.contains i = false)
 (hw : Region.wanted o (yielded ops (frD vs a ds).tmps) = true) (hop : o.op = .call c) (hc : c.callee = .value x) (hx : (frD vs a ds).eval x = X) (hX : X = .func (.func F) #[] #[]) (hA : c.args.map (frD vs a ds).eval = A) (hB : A = B)
 (hf : P.funcs[F]? = some fn) (hn : (fn.name == "runtime.NumGoroutine") = false) (hb : fn.body.isNone = false) (h : Calls P F B w (fun e w' => ∃ v, e = .returned v ∧ Keeps w w' ∧ φ v w')) : Step P ops Φ own m i vs a w :=
 step_val ds φ hi hl hφ ho fun _ hK => ⟨hw, wp_call_fn hop hc hx hX hA hB hf hn hb (h.mono fun _ w' ⟨v, e1, h1, h2⟩ => ⟨v, e1, hK v w' h1 h2⟩)⟩
abbrev ve (c : Value) : Value → World → Prop := fun v _ => v = c
theorem ws {ops : Array Oper} {o : Oper} {ts : Array Value} {g : Nat} {want : Bool} (t : Tmp) {X : Value} (hX : X = .bool want) (hg : o.guard = some (g, want) := by rfl) (hd : (ops[g]?.bind fun x => x.dst) = some t := by rfl) (hv : ts[t]? = some X := by kernel_rfl) : Region.wanted o (yielded ops ts) = true := wanted_some t hg hd hv hX
theorem sc {P : Program} {ops : Array Oper} {Φ : Nat → Value → World → Prop} {own : List Nat} {m i : Nat} {vs : Nat → Value} {a : Act} {w : World} {o : Oper} {c : Call} {x : Operand} {F : FuncId} {fn : Func} {A B : Array Value}
  (ds : List (Nat × Option Tmp)) (φ : Value → World → Prop) (hi : ops[i]? = some o) (hw : Region.wanted o (yielded ops (frD vs a ds).tmps) = true) (hB : A = B) (hf : P.funcs[F]? = some fn) (h : Calls P F B w (fun e w' => ∃ v, e = .returned v ∧ Keeps w w' ∧ φ v w'))
  (hl : (depsOf ops m i).map (fun j => (j, dstOf ops j)) = ds := by kernel_rfl) (hφ : ∀ v w, φ v w → Φ i v w := by exact fun _ _ h => h) (ho : own.contains i = false := by rfl) (hop : o.op = .call c := by rfl) (hc : c.callee = .value x := by rfl)
  (hx : (frD vs a ds).eval x = .func (.func F) #[] #[] := by kernel_rfl) (hA : c.args.map (frD vs a ds).eval = A := by kernel_rfl) (hn : (fn.name == "runtime.NumGoroutine") = false := by kernel_rfl) (hb : fn.body.isNone = false := by kernel_rfl) : Step P ops Φ own m i vs a w :=
  step_call ds φ hi hl hφ ho hw hop hc hx rfl hA hB hf hn hb h
theorem svg {P : Program} {ops : Array Oper} {Φ : Nat → Value → World → Prop} {own : List Nat} {m i : Nat} {vs : Nat → Value} {a : Act} {w : World} {o : Oper} (ds : List (Nat × Option Tmp)) (φ : Value → World → Prop) (hi : ops[i]? = some o)
  (hw : Region.wanted o (yielded ops (frD vs a ds).tmps) = true) (h : ∀ K : Act → World → Prop, (∀ v w', Keeps w w' → φ v w' → K ((frD vs a ds).put o.dst v) w') → Oper.wp P o (frD vs a ds) w K (fun _ _ _ => False))
  (hl : (depsOf ops m i).map (fun j => (j, dstOf ops j)) = ds := by kernel_rfl) (hφ : ∀ v w, φ v w → Φ i v w := by exact fun _ _ h => h) (ho : own.contains i = false := by rfl) : Step P ops Φ own m i vs a w := step_valg ds φ hi hl hφ ho hw h
theorem hdk {l : List Nat} {P : Nat → Prop} (hd : ∀ j ∈ l, P j) (i : Nat) (h : l.contains i = true := by kernel_rfl) : P i := hd i (cm h)
theorem sv0 {P : Program} {ops : Array Oper} {Φ : Nat → Value → World → Prop} {own : List Nat} {m i : Nat} {vs : Nat → Value} {a : Act} {w : World} {o : Oper} (ds : List (Nat × Option Tmp)) (φ : Value → World → Prop) (hi : ops[i]? = some o)
  (h : ∀ K : Act → World → Prop, (∀ v w', Keeps w w' → φ v w' → K ((frD vs a ds).put o.dst v) w') → Oper.wp P o (frD vs a ds) w K (fun _ _ _ => False))
  (hl : (depsOf ops m i).map (fun j => (j, dstOf ops j)) = ds := by kernel_rfl) (hg : o.guard = none := by rfl) (hφ : ∀ v w, φ v w → Φ i v w := by exact fun _ _ h => h) (ho : own.contains i = false := by rfl) : Step P ops Φ own m i vs a w := step_val0 ds φ hi hl hg hφ ho h
end Go.Proofs.YtgcigdahjabimaaGreatDoor
