/- The walk of the laws' helpers of and known. The laws' helpers short, same, Zero; the reference's Abs, Divide. The walk of fraction.Abs. The walks of the reference's Abs, Divide, Floor, Ceil, Zero; of the laws' helper same. What a region's values may be said to be, and that it lasts: for the walks that walk.py prints. No program in sight. A second box made anywhere in a region. No program in sight. The law FractionMakes: raw fractions; too long arguments. Summaries of adjustments, plainly. No program in sight. The three forms of a fraction's text, read. No program in sight. What report.Parse reads, plainly. No program in sight. -/
import Derived.Test.YtgcigdahjabimaaGreatDoorPr22
import Derived.Test.YtgcigdahjabimaaGreatDoorPr24
import Derived.Test.YtgcigdahjabimaaGreatDoorPr26
import Derived.Test.YtgcigdahjabimaaGreatDoorPr23
import Derived.Test.YtgcigdahjabimaaGreatDoorPr21
import Derived.Test.YtgcigdahjabimaaGreatDoorPr1
import Derived.Lib.AtoiAll
namespace Go.Proofs.YtgcigdahjabimaaGreatDoor
open Go.RowKit Go.Shelf

theorem dd_one (n : Nat) (h : n < 10) : Lib.decDigits n = [UInt8.ofNat (48 + n)] := by rw [Lib.decDigits, dif_pos h]
theorem RatArg.open2 {w : World} {V : Value} {n1 n2 : Bool} {xs ys : List Nat} (h : RatArg w V n1 xs n2 ys) : ∃ A c B d, V = .agg #[.bool n1, .slice A xs.length c, .bool n2, .slice B ys.length d] := by
 obtain ⟨x, v, y, u, rfl, ⟨v1, e1, h1⟩, ⟨v2, e2, h2⟩⟩ := h
 cases e1; cases e2
 obtain ⟨A, n, c, rfl, rfl, -⟩ := h1.open_
 obtain ⟨B, m, d, rfl, rfl, -⟩ := h2.open_
 exact ⟨A, c, B, d, rfl⟩
def RatS (w : World) (V : Value) (q : Rat) (b : Bool) : Prop :=
 ∃ n1 xs n2 ys, RatArg w V n1 xs n2 ys ∧ rcnt n1 xs n2 ys = q ∧ decide (xs.length + ys.length ≤ 8) = b ∧ xs.length ≤ 35184372088832 ∧ ys.length ≤ 35184372088832
section
variable {w w' w0 : World} {V : Value} {q : Rat} {b : Bool} {bs : List Bx} {ps : List (World → Prop)}
theorem RatArg.map {n1 n2 : Bool} {xs ys : List Nat} (h : RatArg w V n1 xs n2 ys) (hs : Same32 w w') : RatArg w' V n1 xs n2 ys := by
 obtain ⟨x, v, y, u, rfl, ⟨v1, e1, h1⟩, ⟨v2, e2, h2⟩⟩ := h
 exact ⟨_, _, _, _, rfl, ⟨v1, e1, hs _ _ h1⟩, ⟨v2, e2, hs _ _ h2⟩⟩
theorem RatS.map (h : RatS w V q b) (hs : Same32 w w') : RatS w' V q b := by
 obtain ⟨n1, xs, n2, ys, h, r⟩ := h
 exact ⟨n1, xs, n2, ys, h.map hs, r⟩
theorem RatS.num (h : RatS w V q true) : RatNum w V q := by
 obtain ⟨n1, xs, n2, ys, h, e, hb, -, -⟩ := h
 have := of_decide_eq_true hb
 exact ⟨n1, xs, n2, ys, h, e, by omega, by omega⟩
theorem RatS.sz (h : RatS w V q true) : szR q ≤ 8 := by
 obtain ⟨n1, xs, n2, ys, h, rfl, hb, -, -⟩ := h
 have := of_decide_eq_true hb
 have := szR_rcnt (n1 := n1) (xs := xs) (n2 := n2) (ys := ys)
 omega
theorem RatS.open_ (h : RatS w V q b) : ∃ b A n c d B m e, V = .agg #[.bool b, .slice A n c, .bool d, .slice B m e] := by
 obtain ⟨n1, xs, n2, ys, h, -⟩ := h
 obtain ⟨A, c, B, d, rfl⟩ := h.open2
 exact ⟨_, _, _, _, _, _, _, _, rfl⟩
end
set_option maxRecDepth 100000 in
theorem rdigs_any {w : World} {b d : Bool} {A B : Option Addr} {n m c e : Nat} (hn : n ≤ 35184372088832) (hm : m ≤ 35184372088832) :
 Calls Tryz.prog 21 #[.agg #[.bool b, .slice A n c, .bool d, .slice B m e]] w fun e w' => e = .returned (.int .i64 ((n : Int) + (m : Int))) ∧ Keeps w w' := by
 have S := (St.start w).alloc 31 [.bool b, .slice A n c, .bool d, .slice B m e]
 go_enter Tryz.func21, Tryz.ntmps21
 go_upto_region 1 with fail
 obtain ⟨W1, eW, S⟩ := S.pack
 rw [eW]
 clear eW
 have r0_1 := S.c 0 1 rfl rfl
 have r0_3 := S.c 0 3 rfl rfl
 go_wp2
 go_ret
 exact ⟨rfl, S.k⟩
set_option maxRecDepth 100000 in
theorem gzero_s {w : World} : Calls Tryz.prog 13 #[.agg #[.bool false, .slice none 0 0, .bool false, .slice none 0 0]] w fun e w' => e = .returned (.bool true) ∧ Keeps w w' := by
 have S := (St.start w).alloc 31 [.bool false, .slice none 0 0, .bool false, .slice none 0 0]
 go_enter Tryz.func13, Tryz.ntmps13
 go_upto_region 1 with fail
 obtain ⟨W1, eW, S⟩ := S.pack
 rw [eW]
 clear eW
 obtain ⟨r0_0, r0_1, r0_2, r0_3⟩ := S.cc4 0 rfl
 go_wp2
 go_ret
 exact ⟨rfl, S.k⟩
end Go.Proofs.YtgcigdahjabimaaGreatDoor
namespace Go.Proofs.YtgcigdahjabimaaGreatDoor
open Go.RowKit

def StabL : List (Value → World → Prop) → Prop
 | [] => True
 | φ :: l => (∀ v w w', φ v w → Keeps w w' → φ v w') ∧ StabL l
theorem stab_nil : StabL [] := trivial
theorem stab_cons {φ : Value → World → Prop} {l : List (Value → World → Prop)} (h : ∀ v w w', φ v w → Keeps w w' → φ v w') (hl : StabL l) : StabL (φ :: l) := ⟨h, hl⟩
theorem stabL_get : ∀ {l : List (Value → World → Prop)}, StabL l → ∀ (i : Nat) (v : Value) (w w' : World), (List.getD l i (fun _ _ => True)) v w → Keeps w w' → (List.getD l i (fun _ _ => True)) v w'
 | [], _, _, _, _, _, _, _ => trivial
 | _ :: _, h, 0, v, w, w', hp, hk => h.1 v w w' hp hk
 | _ :: l, h, i + 1, v, w, w', hp, hk => stabL_get (l := l) h.2 i v w w' hp hk
theorem st_e {c : Value} (v : Value) (w w' : World) (h : v = c) (_ : Keeps w w') : v = c := h
theorem st_q {q : Rat} (v : Value) (w w' : World) (h : RatRep w v q) (hk : Keeps w w') : RatRep w' v q := h.below hk
theorem st_i {z : Int} (v : Value) (w w' : World) (h : IntRep w v z) (hk : Keeps w w') : IntRep w' v z := h.below hk
theorem st_a {n : Nat} {t : TypeId} {vs : List Value} (v : Value) (w w' : World) (h : ∃ b, v = .pointer (some ⟨b, 0, none⟩) ∧ n ≤ b ∧ Own w b t vs) (hk : Keeps w w') : ∃ b, v = .pointer (some ⟨b, 0, none⟩) ∧ n ≤ b ∧ Own w' b t vs := by
 obtain ⟨b, h1, h2, h3⟩ := h
 exact ⟨b, h1, h2, h3.below hk⟩
section
variable {P : Program} {ops : Array Oper} {Φ : Nat → Value → World → Prop} {own : List Nat} {m i : Nat} {vs : Nat → Value} {a : Act} {w : World} {o : Oper}
theorem step_val (ds : List (Nat × Option Tmp)) (φ : Value → World → Prop) (hi : ops[i]? = some o) (hl : (depsOf ops m i).map (fun j => (j, dstOf ops j)) = ds) (hφ : ∀ v w, φ v w → Φ i v w) (ho : own.contains i = false)
 (h : ∀ K : Act → World → Prop, (∀ v w', Keeps w w' → φ v w' → K ((frD vs a ds).put o.dst v) w') → Region.wanted o (yielded ops (frD vs a ds).tmps) = true ∧ Oper.wp P o (frD vs a ds) w K (fun _ _ _ => False)) : Step P ops Φ own m i vs a w :=
 step_yes ds hi hl fun K hK => h K fun v w' hk hp => hK v w' ⟨hk, hφ _ _ hp, fun hc => by rw [List.contains_iff_mem.2 hc] at ho; cases ho⟩
theorem step_val0 (ds : List (Nat × Option Tmp)) (φ : Value → World → Prop) (hi : ops[i]? = some o) (hl : (depsOf ops m i).map (fun j => (j, dstOf ops j)) = ds) (hg : o.guard = none) (hφ : ∀ v w, φ v w → Φ i v w) (ho : own.contains i = false)
 (h : ∀ K : Act → World → Prop, (∀ v w', Keeps w w' → φ v w' → K ((frD vs a ds).put o.dst v) w') → Oper.wp P o (frD vs a ds) w K (fun _ _ _ => False)) : Step P ops Φ own m i vs a w :=
 step_val ds φ hi hl hφ ho fun K hK => ⟨by simp [Region.wanted, hg], h K hK⟩
end
theorem exec_call {P : Program} {o : Oper} {ρ : Operand → Value} {w : World} {c : Call} {x : Operand} {F : FuncId} {fn : Func} {A : Array Value} (hop : o.op = .call c) (hc : c.callee = .value x) (hx : ρ x = .func (.func F) #[] #[]) (hA : c.args.map ρ = A)
 (hf : P.funcs[F]? = some fn) (hn : (fn.name == "runtime.NumGoroutine") = false) (hb : fn.body.isNone = false) : (execOp ρ o).run P w = .ok (.enter F A) w := by
 have hn' : ¬ fn.name = "runtime.NumGoroutine" := by simpa using hn
 have hb' : ¬ fn.body = none := fun e => by rw [e] at hb; cases hb
 simp [execOp, hop, resolve, hc, hx, hA, Deferred.ofValue, invoke, callFunc, hf, hn', hb', go_sem]
theorem wp_call_fn {P : Program} {o : Oper} {a : Act} {w : World} {K : Act → World → Prop} {Q : Exit → Act → World → Prop} {c : Call} {x : Operand} {F : FuncId} {fn : Func} {X : Value} {A B : Array Value} (hop : o.op = .call c) (hc : c.callee = .value x)
 (hx : a.eval x = X) (hX : X = .func (.func F) #[] #[]) (hA : c.args.map a.eval = A) (hB : A = B) (hf : P.funcs[F]? = some fn) (hn : (fn.name == "runtime.NumGoroutine") = false) (hb : fn.body.isNone = false)
 (h : Calls P F B w (fun e w' => ∃ v, e = .returned v ∧ K (a.put o.dst v) w')) : Oper.wp P o a w K Q := by
 subst hX hB
 unfold Oper.wp
 rw [exec_call hop hc hx hA hf hn hb, Oper.upon_enter]
 refine h.mono ?_
 rintro e w' ⟨v, rfl, hK⟩
 exact hK
theorem wanted_none {ops : Array Oper} {o : Oper} {ts : Array Value} (hg : o.guard = none) : Region.wanted o (yielded ops ts) = true := by simp [Region.wanted, hg]
theorem wanted_some {ops : Array Oper} {o : Oper} {ts : Array Value} {g : Nat} {want : Bool} (t : Tmp) {X : Value} (hg : o.guard = some (g, want)) (hd : (ops[g]?.bind fun x => x.dst) = some t) (hv : ts[t]? = some X) (hX : X = .bool want) : Region.wanted o (yielded ops ts) = true := by
 subst hX
 simp only [Region.wanted, hg, yielded, hd, Option.bind_some, hv]
 simp
theorem step_valg {P : Program} {ops : Array Oper} {Φ : Nat → Value → World → Prop} {own : List Nat} {m i : Nat} {vs : Nat → Value} {a : Act} {w : World} {o : Oper}
 (ds : List (Nat × Option Tmp)) (φ : Value → World → Prop) (hi : ops[i]? = some o) (hl : (depsOf ops m i).map (fun j => (j, dstOf ops j)) = ds) (hφ : ∀ v w, φ v w → Φ i v w) (ho : own.contains i = false)
 (hw : Region.wanted o (yielded ops (frD vs a ds).tmps) = true)
 (h : ∀ K : Act → World → Prop, (∀ v w', Keeps w w' → φ v w' → K ((frD vs a ds).put o.dst v) w') → Oper.wp P o (frD vs a ds) w K (fun _ _ _ => False)) : Step P ops Φ own m i vs a w :=
 step_val ds φ hi hl hφ ho fun K hK => ⟨hw, h K hK⟩
theorem step_call {P : Program} {ops : Array Oper} {Φ : Nat → Value → World → Prop} {own : List Nat} {m i : Nat} {vs : Nat → Value} {a : Act} {w : World} {o : Oper} {c : Call} {x : Operand} {F : FuncId} {fn : Func} {X : Value} {A B : Array Value}
 (ds : List (Nat × Option Tmp)) (φ : Value → World → Prop) (hi : ops[i]? = some o) (hl : (depsOf ops m i).map (fun j => (j, dstOf ops j)) = ds) (hφ : ∀ v w, φ v w → Φ i v w) (ho : own.contains i = false)
 (hw : Region.wanted o (yielded ops (frD vs a ds).tmps) = true) (hop : o.op = .call c) (hc : c.callee = .value x) (hx : (frD vs a ds).eval x = X) (hX : X = .func (.func F) #[] #[]) (hA : c.args.map (frD vs a ds).eval = A) (hB : A = B)
 (hf : P.funcs[F]? = some fn) (hn : (fn.name == "runtime.NumGoroutine") = false) (hb : fn.body.isNone = false) (h : Calls P F B w (fun e w' => ∃ v, e = .returned v ∧ Keeps w w' ∧ φ v w')) : Step P ops Φ own m i vs a w :=
 step_val ds φ hi hl hφ ho fun _ hK => ⟨hw, wp_call_fn hop hc hx hX hA hB hf hn hb (h.mono fun _ w' ⟨v, e1, h1, h2⟩ => ⟨v, e1, hK v w' h1 h2⟩)⟩
abbrev ve (c : Value) : Value → World → Prop := fun v _ => v = c
theorem ws {ops : Array Oper} {o : Oper} {ts : Array Value} {g : Nat} {want : Bool} (t : Tmp) {X : Value} (hX : X = .bool want) (hg : o.guard = some (g, want) := by rfl) (hd : (ops[g]?.bind fun x => x.dst) = some t := by rfl) (hv : ts[t]? = some X := by kernel_rfl) : Region.wanted o (yielded ops ts) = true := wanted_some t hg hd hv hX
theorem sc {P : Program} {ops : Array Oper} {Φ : Nat → Value → World → Prop} {own : List Nat} {m i : Nat} {vs : Nat → Value} {a : Act} {w : World} {o : Oper} {c : Call} {x : Operand} {F : FuncId} {fn : Func} {A B : Array Value}
  (ds : List (Nat × Option Tmp)) (φ : Value → World → Prop) (hi : ops[i]? = some o) (hw : Region.wanted o (yielded ops (frD vs a ds).tmps) = true) (hB : A = B) (hf : P.funcs[F]? = some fn) (h : Calls P F B w (fun e w' => ∃ v, e = .returned v ∧ Keeps w w' ∧ φ v w'))
  (hl : (depsOf ops m i).map (fun j => (j, dstOf ops j)) = ds := by kernel_rfl) (hφ : ∀ v w, φ v w → Φ i v w := by exact fun _ _ h => h) (ho : own.contains i = false := by rfl) (hop : o.op = .call c := by rfl) (hc : c.callee = .value x := by rfl)
  (hx : (frD vs a ds).eval x = .func (.func F) #[] #[] := by kernel_rfl) (hA : c.args.map (frD vs a ds).eval = A := by kernel_rfl) (hn : (fn.name == "runtime.NumGoroutine") = false := by kernel_rfl) (hb : fn.body.isNone = false := by kernel_rfl) : Step P ops Φ own m i vs a w :=
  step_call ds φ hi hl hφ ho hw hop hc hx rfl hA hB hf hn hb h
theorem svg {P : Program} {ops : Array Oper} {Φ : Nat → Value → World → Prop} {own : List Nat} {m i : Nat} {vs : Nat → Value} {a : Act} {w : World} {o : Oper} (ds : List (Nat × Option Tmp)) (φ : Value → World → Prop) (hi : ops[i]? = some o)
  (hw : Region.wanted o (yielded ops (frD vs a ds).tmps) = true) (h : ∀ K : Act → World → Prop, (∀ v w', Keeps w w' → φ v w' → K ((frD vs a ds).put o.dst v) w') → Oper.wp P o (frD vs a ds) w K (fun _ _ _ => False))
  (hl : (depsOf ops m i).map (fun j => (j, dstOf ops j)) = ds := by kernel_rfl) (hφ : ∀ v w, φ v w → Φ i v w := by exact fun _ _ h => h) (ho : own.contains i = false := by rfl) : Step P ops Φ own m i vs a w := step_valg ds φ hi hl hφ ho hw h
theorem hdk {l : List Nat} {P : Nat → Prop} (hd : ∀ j ∈ l, P j) (i : Nat) (h : l.contains i = true := by kernel_rfl) : P i := hd i (cm h)
theorem sv0 {P : Program} {ops : Array Oper} {Φ : Nat → Value → World → Prop} {own : List Nat} {m i : Nat} {vs : Nat → Value} {a : Act} {w : World} {o : Oper} (ds : List (Nat × Option Tmp)) (φ : Value → World → Prop) (hi : ops[i]? = some o)
  (h : ∀ K : Act → World → Prop, (∀ v w', Keeps w w' → φ v w' → K ((frD vs a ds).put o.dst v) w') → Oper.wp P o (frD vs a ds) w K (fun _ _ _ => False))
  (hl : (depsOf ops m i).map (fun j => (j, dstOf ops j)) = ds := by kernel_rfl) (hg : o.guard = none := by rfl) (hφ : ∀ v w, φ v w → Φ i v w := by exact fun _ _ h => h) (ho : own.contains i = false := by rfl) : Step P ops Φ own m i vs a w := step_val0 ds φ hi hl hg hφ ho h
theorem St.box2 {w0 W w' : World} {bs : List Bx} {ps : List (World → Prop)} (S : St w0 W bs ps) {b1 : Nat} {t1 : TypeId} {v1 : List Value} (S' : St w0 w' ((b1, t1, v1) :: bs) ps) {b : Nat} {t : TypeId} {vs : List Value} (hO : Own w' b t vs) (hb : W.heap.size ≤ b) (hne : b ≠ b1) :
 St w0 w' ((b, t, vs) :: (b1, t1, v1) :: bs) ps := by
 refine ⟨S'.k, ⟨hO, S'.b⟩, ?_, ?_, S'.p⟩
 ·intro p hp
  rcases List.mem_cons.1 hp with rfl | hp
  ·exact Nat.le_trans S.k.size hb
  ·exact S'.lo p hp
 ·rw [List.pairwise_cons]
  refine ⟨fun q hq e => ?_, S'.d⟩
  rcases List.mem_cons.1 hq with rfl | hq
  ·exact hne e
  ·have := (S.b.mem hq).lt; simp only at e; omega
end Go.Proofs.YtgcigdahjabimaaGreatDoor
namespace Go.Proofs.YtgcigdahjabimaaGreatDoor
open Go.RowKit Go.Shelf

theorem IntArg.open2 {w : World} {V : Value} {neg : Bool} {xs : List Nat} (h : IntArg w V neg xs) : ∃ A c, V = .agg #[.bool neg, .slice A xs.length c] := by
 obtain ⟨v, rfl, h1⟩ := h
 obtain ⟨A, n, c, rfl, rfl, -⟩ := h1.open_
 exact ⟨A, c, rfl⟩
theorem IntArg.n4 {w : World} {V : Value} {neg : Bool} {xs : List Nat} (h : IntArg w V neg xs) (hl : xs.length ≤ 400000) : IntNum4 w V (cnt neg xs) := ⟨neg, xs, h, rfl, hl⟩
def RatV (w : World) (V : Value) (q : Rat) (b : Bool) : Prop := ∃ n1 xs n2 ys, RatArg w V n1 xs n2 ys ∧ rcnt n1 xs n2 ys = q ∧ rvalidB n1 xs n2 ys = b ∧ xs.length ≤ 100000 ∧ ys.length ≤ 100000
section
variable {w w' w0 : World} {V x v y u : Value} {q : Rat} {b n1 n2 : Bool} {xs ys : List Nat} {bs : List Bx} {ps : List (World → Prop)}
theorem RatV.map (h : RatV w V q b) (hs : Same32 w w') : RatV w' V q b := by
 obtain ⟨n1, xs, n2, ys, h, r⟩ := h
 exact ⟨n1, xs, n2, ys, h.map hs, r⟩
theorem RatV.num (h : RatV w V q b) : RatNum w V q := by
 obtain ⟨n1, xs, n2, ys, h, e, -, l1, l2⟩ := h
 exact ⟨n1, xs, n2, ys, h, e, l1, l2⟩
theorem RatV.mk (h1 : IntArg w (.agg #[x, v]) n1 xs) (h2 : IntArg w (.agg #[y, u]) n2 ys) (e1 : rcnt n1 xs n2 ys = q) (e2 : rvalidB n1 xs n2 ys = b) (l1 : xs.length ≤ 100000) (l2 : ys.length ≤ 100000) : RatV w (.agg #[x, v, y, u]) q b :=
 ⟨n1, xs, n2, ys, ⟨x, v, y, u, rfl, h1, h2⟩, e1, e2, l1, l2⟩
theorem St.vi (S : St w0 w bs ps) (i : Nat) (h : ps[i]? = some (fun w => RatV w V q b)) : RatV w V q b := S.p.get h
end
theorem fvalid_v {w : World} {V : Value} {q : Rat} {b : Bool} (h : RatV w V q b) : Calls Tryz.prog 41 #[V] w fun e w' => e = .returned (.bool b) ∧ Keeps w w' := by
 obtain ⟨n1, xs, n2, ys, h, -, rfl, l1, l2⟩ := h
 exact fvalid_any h l1 l2
theorem gvalid_v {w : World} {V : Value} {q : Rat} {b : Bool} (h : RatV w V q b) : Calls Tryz.prog 27 #[V] w fun e w' => e = .returned (.bool b) ∧ Keeps w w' := by
 obtain ⟨n1, xs, n2, ys, h, -, rfl, l1, l2⟩ := h
 exact gvalid_any h l1 l2
end Go.Proofs.YtgcigdahjabimaaGreatDoor
namespace Go.Proofs.YtgcigdahjabimaaGreatDoor
abbrev QV := Rat × Bool
structure Sm where
 dim : Int
 st : Int
 pt : Int
 rw_ : Int
 fr : Int
 rk : Int
 ob : QV
 sg : QV
 rd : List QV
 sx : List QV
 wo : Int
def posB (x : QV) : Bool := x.2 && decide (0 ≤ x.1)
def cntB (n : Int) : Bool := decide (0 ≤ n) && decide (n ≤ 1024)
def headB (s : Sm) : Bool :=
 (s.dim == 2 || s.dim == 3) && cntB s.st && cntB s.pt && cntB s.rw_ && cntB s.fr && cntB s.rk && ((s.rd.length : Int) == s.rw_) && ((s.sx.length : Int) == s.rw_) && decide (-1 ≤ s.wo) && decide (s.wo < s.rw_)
def formB (s : Sm) : Bool := headB s && s.rd.all posB && s.sx.all posB && posB s.ob && posB s.sg && s.rd.all fun x => decide (x.1 ≤ 1)
end Go.Proofs.YtgcigdahjabimaaGreatDoor
namespace Go.Proofs.YtgcigdahjabimaaGreatDoor
open Go

def pre (c : UInt8) (l : List UInt8) : List UInt8 := l.takeWhile (· != c)
def post (c : UInt8) (l : List UInt8) : List UInt8 := (l.dropWhile (· != c)).tail
theorem cut_at {c : UInt8} : ∀ {l : List UInt8}, c ∈ l → l = pre c l ++ c :: post c l
 | x :: r, h => by
  unfold pre post
  by_cases hx : x = c
  ·subst hx; simp
  ·have hr : c ∈ r := by
    rcases List.mem_cons.1 h with h | h
    ·exact absurd h.symm hx
    ·exact h
   have := cut_at hr
   unfold pre post at this
   have hb : (x != c) = true := by simpa using hx
   simp only [List.takeWhile_cons, List.dropWhile_cons, hb, if_true, List.cons_append]
   exact congrArg _ this
theorem pre_none {c : UInt8} : ∀ {l : List UInt8}, c ∉ l → pre c l = l
 | [], _ => rfl
 | x :: r, h => by
  have hx : (x != c) = true := by
   simp only [bne_iff_ne, ne_eq]
   rintro rfl
   exact h List.mem_cons_self
  have := pre_none (l := r) (fun h2 => h (List.mem_cons_of_mem _ h2))
  unfold pre at this ⊢
  rw [List.takeWhile_cons, hx, if_pos rfl, this]
theorem pre_app {c : UInt8} : ∀ {a b : List UInt8}, c ∉ a → pre c (a ++ c :: b) = a ∧ post c (a ++ c :: b) = b
 | [], b, _ => by simp [pre, post]
 | x :: r, b, h => by
  have hx : (x != c) = true := by
   simp only [bne_iff_ne, ne_eq]
   rintro rfl
   exact h List.mem_cons_self
  obtain ⟨h1, h2⟩ := pre_app (a := r) (b := b) (fun h2 => h (List.mem_cons_of_mem _ h2))
  unfold pre post at *
  refine ⟨?_, ?_⟩
  ·rw [List.cons_append, List.takeWhile_cons, hx, if_pos rfl, h1]
  ·rw [List.cons_append, List.dropWhile_cons, hx, if_pos rfl, h2]
theorem body_split (l : List UInt8) : l = (if negOf l then [45] else []) ++ bodyOf l := by
 unfold negOf bodyOf
 cases l with
 | nil => rfl
 | cons a r =>
  by_cases ha : a = 45
  ·subst ha; simp
  ·simp [ha]
theorem body_no {c : UInt8} {l : List UInt8} (hc : isDg c = false) (h45 : c ≠ 45) (h : (bodyOf l).all isDg = true) : c ∉ l := by
 intro hm
 rw [body_split l] at hm
 rcases List.mem_append.1 hm with hm | hm
 ·split at hm
  ·simp at hm; exact h45 hm
  ·cases hm
 ·have := List.all_eq_true.1 h c hm
  rw [hc] at this; cases this
def bare (l : List UInt8) : List UInt8 := l.dropWhile (· == 48)
theorem textL_body (z : Int) : bodyOf (textL z) = (if z = 0 then [48] else txt z.natAbs) ∧ negOf (textL z) = decide (z < 0) := by
 by_cases h0 : z = 0
 ·subst h0; exact ⟨by decide, by decide⟩
 ·have ht : textL z = (if z < 0 then [45] else []) ++ txt z.natAbs := by unfold textL; rw [if_neg h0, txt_pos _ (by omega)]
  obtain ⟨h1, h2, h3⟩ := txt_digits z.natAbs
  have hne : txt z.natAbs ≠ [] := fun e => by rw [e] at h2; simp [valD] at h2; omega
  obtain ⟨c, r, hcr⟩ := List.exists_cons_of_ne_nil hne
  have hdc : isDg c = true := by rw [hcr, List.all_cons, Bool.and_eq_true] at h1; exact h1.1
  have hc45 : c ≠ 45 := fun e => by subst e; exact absurd hdc (by decide)
  rw [if_neg h0]
  refine ⟨?_, ?_⟩
  ·rw [ht]; unfold bodyOf
   by_cases hz : z < 0
   ·rw [if_pos hz]; simp
   ·rw [if_neg hz, hcr]; simp [hc45]
  ·rw [ht]; unfold negOf
   by_cases hz : z < 0
   ·simp [hz]
   ·simp [hz, hcr, hc45]
theorem textL_no {c : UInt8} (hc : isDg c = false) (h45 : c ≠ 45) (z : Int) : c ∉ textL z := by
 refine body_no hc h45 ?_
 rw [(textL_body z).1]
 split
 ·decide
 ·exact (txt_digits z.natAbs).1
theorem pre_len (c : UInt8) (l : List UInt8) : (pre c l).length ≤ l.length := by
 unfold pre
 exact (List.takeWhile_sublist _).length_le
theorem post_len (c : UInt8) (l : List UInt8) : (post c l).length ≤ l.length := by
 unfold post
 rw [List.length_tail]
 have := (List.dropWhile_sublist (l := l) (· != c)).length_le
 omega
theorem post_none {c : UInt8} : ∀ {l : List UInt8}, c ∉ l → post c l = []
 | [], _ => rfl
 | x :: r, h => by
  have hx : (x != c) = true := by
   simp only [bne_iff_ne, ne_eq]
   exact fun e => h (e ▸ List.mem_cons_self)
  have ih := post_none (c := c) (l := r) (fun hm => h (List.mem_cons_of_mem _ hm))
  unfold post at ih ⊢
  rw [List.dropWhile_cons, if_pos hx]
  exact ih
def atV (l : List UInt8) : Int := match Lib.atoiAll l with
 | .ok v => v
 | .range => Lib.atoiSat l
 | _ => 0
def numB (l : List UInt8) : List UInt8 := if 47 ∈ l then post 47 l else [49]
def numQ (l : List UInt8) : Rat := if natV (numB l) = 0 then 0 else Rat.divInt (natV (pre 47 l) : Nat) (natV (numB l) : Nat)
def fldV (r : List UInt8) : List UInt8 := post 32 (pre 10 r)
def fldR (r : List UInt8) : List UInt8 := post 10 r
def rstK (l : List UInt8) : Nat → List UInt8
 | 0 => l
 | k + 1 => fldR (rstK l k)
theorem rstK_len (l : List UInt8) : ∀ k, (rstK l k).length ≤ l.length
 | 0 => Nat.le_refl _
 | k + 1 => Nat.le_trans (post_len 10 _) (rstK_len l k)
theorem fldV_len (r : List UInt8) : (fldV r).length ≤ r.length := Nat.le_trans (post_len 32 _) (pre_len 10 r)
def hdV (l : List UInt8) (k : Nat) : Int := atV (fldV (rstK l k))
def rowV (l : List UInt8) (i : Nat) : List UInt8 := post 32 (fldV (rstK l (8 + i)))
def rdQ (l : List UInt8) (i : Nat) : QV := (numQ (pre 32 (rowV l i)), true)
def sxQ (l : List UInt8) (i : Nat) : QV := (numQ (post 32 (rowV l i)), true)
theorem rowV_len (l : List UInt8) (i : Nat) : (rowV l i).length ≤ l.length := Nat.le_trans (post_len 32 _) (Nat.le_trans (fldV_len _) (rstK_len l _))
def rowsN (l : List UInt8) : Nat := (min (hdV l 3) 1024).toNat
def prsS (l : List UInt8) : Sm where
 dim := hdV l 0
 st := hdV l 1
 pt := hdV l 2
 rw_ := hdV l 3
 fr := hdV l 4
 rk := hdV l 5
 ob := (numQ (fldV (rstK l 6)), true)
 sg := (numQ (fldV (rstK l 7)), true)
 rd := (List.range (rowsN l)).map (rdQ l)
 sx := (List.range (rowsN l)).map (sxQ l)
 wo := atV (fldV (rstK l (8 + rowsN l)))
theorem rowsN_le (l : List UInt8) : rowsN l ≤ 1024 := by unfold rowsN; omega
theorem atoi_le (l : List UInt8) {v : Int} (h : Lib.atoiAll l = .ok v) : -9223372036854775808 ≤ v ∧ v ≤ 9223372036854775807 := by
 unfold Lib.atoiAll at h
 split at h
 ·cases h
 ·simp only at h
  split at h
  ·cases h
  ·cases h
  ·split at h
   ·cases h
   ·split at h
    ·cases h
    ·injection h with h
     subst h
     rename_i h1 h2
     split <;> rename_i h3
     ·simp only [h3, true_and] at h2
      omega
     ·simp only [h3, not_false_iff, true_and] at h1
      omega
theorem atV_le (l : List UInt8) : -9223372036854775808 ≤ atV l ∧ atV l ≤ 9223372036854775807 := by
 unfold atV
 split
 ·exact atoi_le l (by assumption)
 ·unfold Lib.atoiSat
  split <;> omega
 ·omega
theorem natV_len {l : List UInt8} {n : Nat} (h : l.length ≤ 9 * n) : lenI (natV l : Nat) ≤ n := by
 unfold lenI natV
 rw [Int.natAbs_natCast, ← trimL_eq (natK_all _ _)]
 have h1 := trimL_length_le (natK l ((l.length + 8) / 9))
 rw [natK_len] at h1
 omega
end Go.Proofs.YtgcigdahjabimaaGreatDoor
