/- More of what a region's values may be said to be: a pair of fractions; a call of a closure. No program in sight. A second box made anywhere in a region. No program in sight. Small facts for the walk of contour.total's function. No program in sight. The triangles of a height grid, plainly. No program in sight. -/
import Derived.Test.YtecibfncnaccjaaGreatPv34
import Derived.Test.YtecibfncnaccjaaGreatPv40
import Derived.Test.YtecibfncnaccjaaGreatPv39
import Derived.Test.YtecibfncnaccjaaGreatPv41
import Derived.Test.YtecibfncnaccjaaGreatPv28
import Derived.Deep.LoopGhost
import Derived.Test.YtecibfncnaccjaaGreatPv36
namespace Go.Proofs.YtecibfncnaccjaaGreat
open Go.RowKit
def TupU (p n : Rat) (v : Value) (w : World) : Prop := ∃ Q R, v = .tuple #[Q, R] ∧ RatRep w Q p ∧ RatRep w R n
theorem st_tu {p n : Rat} (v : Value) (w w' : World) (h : TupU p n v w) (hk : Keeps w w') : TupU p n v w' := by
 obtain ⟨Q, R, e, h1, h2⟩ := h
 exact ⟨Q, R, e, h1.below hk, h2.below hk⟩
theorem exec_callc {P : Program} {o : Oper} {ρ : Operand → Value} {w : World} {c : Call} {x : Operand} {F : FuncId} {fn : Func} {L A : Array Value} (hop : o.op = .call c) (hc : c.callee = .value x) (hx : ρ x = .func (.func F) #[] L) (hA : c.args.map ρ = A)
 (hf : P.funcs[F]? = some fn) (hn : (fn.name == "runtime.NumGoroutine") = false) (hb : fn.body.isNone = false) : (execOp ρ o).run P w = .ok (.enter F (A ++ L)) w := by
 have hn' : ¬ fn.name = "runtime.NumGoroutine" := by simpa using hn
 have hb' : ¬ fn.body = none := fun e => by rw [e] at hb; cases hb
 simp [execOp, hop, resolve, hc, hx, hA, Deferred.ofValue, invoke, callFunc, hf, hn', hb', go_sem]
theorem wp_call_cl {P : Program} {o : Oper} {a : Act} {w : World} {K : Act → World → Prop} {Q : Exit → Act → World → Prop} {c : Call} {x : Operand} {F : FuncId} {fn : Func} {X : Value} {L A B C : Array Value} (hop : o.op = .call c) (hc : c.callee = .value x)
 (hx : a.eval x = X) (hX : X = .func (.func F) #[] L) (hA : c.args.map a.eval = A) (hB : A = B) (hC : B ++ L = C) (hf : P.funcs[F]? = some fn) (hn : (fn.name == "runtime.NumGoroutine") = false) (hb : fn.body.isNone = false)
 (h : Calls P F C w (fun e w' => ∃ v, e = .returned v ∧ K (a.put o.dst v) w')) : Oper.wp P o a w K Q := by
 subst hX hB hC
 unfold Oper.wp
 rw [exec_callc hop hc hx hA hf hn hb, Oper.upon_enter]
 refine h.mono ?_
 rintro e w' ⟨v, rfl, hK⟩
 exact hK
theorem step_callc {P : Program} {ops : Array Oper} {Φ : Nat → Value → World → Prop} {own : List Nat} {m i : Nat} {vs : Nat → Value} {a : Act} {w : World} {o : Oper} {c : Call} {x : Operand} {F : FuncId} {fn : Func} {X : Value} {L A B C : Array Value}
 (ds : List (Nat × Option Tmp)) (φ : Value → World → Prop) (hi : ops[i]? = some o) (hl : (depsOf ops m i).map (fun j => (j, dstOf ops j)) = ds) (hφ : ∀ v w, φ v w → Φ i v w) (ho : own.contains i = false)
 (hw : Region.wanted o (yielded ops (frD vs a ds).tmps) = true) (hop : o.op = .call c) (hc : c.callee = .value x) (hx : (frD vs a ds).eval x = X) (hX : X = .func (.func F) #[] L) (hA : c.args.map (frD vs a ds).eval = A) (hB : A = B) (hC : B ++ L = C)
 (hf : P.funcs[F]? = some fn) (hn : (fn.name == "runtime.NumGoroutine") = false) (hb : fn.body.isNone = false) (h : Calls P F C w (fun e w' => ∃ v, e = .returned v ∧ Keeps w w' ∧ φ v w')) : Step P ops Φ own m i vs a w :=
 step_val ds φ hi hl hφ ho fun _ hK => ⟨hw, wp_call_cl hop hc hx hX hA hB hC hf hn hb (h.mono fun _ w' ⟨v, e1, h1, h2⟩ => ⟨v, e1, hK v w' h1 h2⟩)⟩
theorem wp_ixa {P : Program} {o : Oper} {f : Act} {w : World} {K : Act → World → Prop} {Q : Exit → Act → World → Prop} {t : TypeId} {x y : Operand} {X Y V : Value} (hop : o.op = .indexAddr t x y) (hx : f.eval x = X) (hy : f.eval y = Y)
 (hr : (Instr.indexAt t X Y).run P w = .ok V w) (hK : K (f.put o.dst V) w) : Oper.wp P o f w K Q := by
 unfold Oper.wp execOp
 simp only [hop, hx, hy, Sem.run_bind, Sem.run_pure, hr, Result.andThen_ok, Oper.upon]
 exact hK
theorem step_ixa {P : Program} {ops : Array Oper} {Φ : Nat → Value → World → Prop} {own : List Nat} {m i : Nat} {vs : Nat → Value} {a : Act} {w : World} {o : Oper} {t : TypeId} {x y : Operand} {X Y V : Value}
 (ds : List (Nat × Option Tmp)) (φ : Value → World → Prop) (hi : ops[i]? = some o) (hl : (depsOf ops m i).map (fun j => (j, dstOf ops j)) = ds) (hg : o.guard = none) (hφ : ∀ v w, φ v w → Φ i v w) (ho : own.contains i = false)
 (hop : o.op = .indexAddr t x y) (hx : (frD vs a ds).eval x = X) (hy : (frD vs a ds).eval y = Y) (hr : (Instr.indexAt t X Y).run P w = .ok V w) (hV : φ V w) : Step P ops Φ own m i vs a w :=
 step_val0 ds φ hi hl hg hφ ho fun _ hK => wp_ixa hop hx hy hr (hK _ _ bl hV)
theorem St.box2 {w0 W w' : World} {bs : List Bx} {ps : List (World → Prop)} (S : St w0 W bs ps) {b1 : Nat} {t1 : TypeId} {v1 : List Value} (S' : St w0 w' ((b1, t1, v1) :: bs) ps) {b : Nat} {t : TypeId} {vs : List Value} (hO : Own w' b t vs) (hb : W.heap.size ≤ b) (hne : b ≠ b1) :
 St w0 w' ((b, t, vs) :: (b1, t1, v1) :: bs) ps := by
 refine ⟨S'.k, ⟨hO, S'.b⟩, ?_, ?_, S'.p⟩
 ·intro p hp
  rcases List.mem_cons.1 hp with rfl | hp
  ·exact Nat.le_trans S.k.size hb
  ·exact S'.lo p hp
 ·rw [List.pairwise_cons]
  refine ⟨fun q hq e => ?_, S'.d⟩
  rcases List.mem_cons.1 hq with rfl | hq
  ·exact hne e
  ·have := (S.b.mem hq).lt; simp only at e; omega
theorem pos_T {x : Rat} {s : Int} (h : x.num.sign = s) (t : decide (0 < s) = true) : posI x = 1 := by
 have := of_decide_eq_true t
 unfold posI
 rcases sgnR x with ⟨h1, h2⟩ | ⟨h1, h2⟩ | ⟨h1, h2⟩
 ·omega
 ·omega
 ·rw [if_pos h1]
theorem pos_F {x : Rat} {s : Int} (h : x.num.sign = s) (t : decide (0 < s) = false) : posI x = 0 := by
 have := of_decide_eq_false t
 unfold posI
 rcases sgnR x with ⟨h1, h2⟩ | ⟨h1, h2⟩ | ⟨h1, h2⟩
 ·rw [if_neg (Rat.not_lt.2 (Rat.le_of_lt h1))]
 ·rw [h1]; simp
 ·omega
theorem sgT {x : Rat} {s : Int} (h0 : 0 < x) (h : x.num.sign = s) : decide (0 < s) = true := by
 rcases sgnR x with ⟨h1, h2⟩ | ⟨h1, h2⟩ | ⟨h1, h2⟩
 ·exact absurd h0 (Rat.not_lt.2 (Rat.le_of_lt h1))
 ·rw [h1] at h0; exact absurd h0 (by simp)
 ·exact decide_eq_true (by omega)
theorem sgF {x : Rat} {s : Int} (h0 : ¬ 0 < x) (h : x.num.sign = s) : decide (0 < s) = false := by
 rcases sgnR x with ⟨h1, h2⟩ | ⟨h1, h2⟩ | ⟨h1, h2⟩
 ·exact decide_eq_false (by omega)
 ·exact decide_eq_false (by omega)
 ·exact absurd h1 h0
theorem posI_1 {u : Int} {x : Rat} (h : u = posI x) : 0 ≤ u ∧ u ≤ 1 := by
 rcases posI_01 x with ⟨a, -⟩ | ⟨a, -⟩ <;> omega
theorem posI_2 {u : Int} {x y : Rat} (h : u = posI x + posI y) : 0 ≤ u ∧ u ≤ 2 := by
 rcases posI_01 x with ⟨a, -⟩ | ⟨a, -⟩ <;> rcases posI_01 y with ⟨b, -⟩ | ⟨b, -⟩ <;> omega
theorem posI_3 {u : Int} {x y z : Rat} (h : u = posI x + posI y + posI z) : 0 ≤ u ∧ u ≤ 3 := by
 rcases posI_01 x with ⟨a, -⟩ | ⟨a, -⟩ <;> rcases posI_01 y with ⟨b, -⟩ | ⟨b, -⟩ <;> rcases posI_01 z with ⟨c, -⟩ | ⟨c, -⟩ <;> omega
theorem rot_sz {x y : R3} {k : Nat} (h : RotOk x k y) (hz : szR x.1 ≤ 1 ∧ szR x.2.1 ≤ 1 ∧ szR x.2.2 ≤ 1) : szR y.1 ≤ 1 ∧ szR y.2.1 ≤ 1 ∧ szR y.2.2 ≤ 1 := by
 obtain ⟨a, b, c⟩ := hz
 rcases h with ⟨-, rfl⟩ | ⟨-, rfl, -⟩ | ⟨-, rfl, -⟩
 ·exact ⟨a, b, c⟩
 ·exact ⟨b, c, a⟩
 ·exact ⟨c, a, b⟩
theorem szR_one_sub (t : Rat) : szR (1 - t) ≤ szR t + 2 := by
 have h := szR_sub 1 t
 have : szR (1 : Rat) ≤ 1 := by decide +kernel
 omega
theorem szR_v1 (x y z : Rat) : szR (x * (x * x / ((x - y) * (x - z))) / 3) ≤ 5 * szR x + szR y + szR z + 6 := by
 have h1 := szR_div' (x * (x * x / ((x - y) * (x - z)))) 3
 have h2 := szR_mul x (x * x / ((x - y) * (x - z)))
 have h3 := szR_share x y z
 have : szR (3 : Rat) ≤ 1 := by decide +kernel
 omega
theorem szR_v2 (x y z t : Rat) : szR ((x + (y + z)) / 3 - t) ≤ szR x + szR y + szR z + szR t + 6 := by
 have h1 := szR_sub ((x + (y + z)) / 3) t
 have h2 := szR_div' (x + (y + z)) 3
 have h3 := szR_add x (y + z)
 have h4 := szR_add y z
 have : szR (3 : Rat) ≤ 1 := by decide +kernel
 omega
theorem run_ix0 (a b d : Int) (W : World) : Sem.run Tryz.prog (Instr.index 74 (.agg #[.int .i64 a, .int .i64 b, .int .i64 d]) (.int .i64 0)) W = .ok (.int .i64 a) W := by kernel_rfl
theorem run_ix1 (a b d : Int) (W : World) : Sem.run Tryz.prog (Instr.index 74 (.agg #[.int .i64 a, .int .i64 b, .int .i64 d]) (.int .i64 1)) W = .ok (.int .i64 b) W := by kernel_rfl
theorem run_ix2 (a b d : Int) (W : World) : Sem.run Tryz.prog (Instr.index 74 (.agg #[.int .i64 a, .int .i64 b, .int .i64 d]) (.int .i64 2)) W = .ok (.int .i64 d) W := by kernel_rfl
end Go.Proofs.YtecibfncnaccjaaGreat
namespace Go.Proofs.YtecibfncnaccjaaGreat

abbrev Tri := Nat × Nat × Nat
def pairT (W k : Nat) : List Tri := [(k, k + 1, k + W + 1), (k, k + W + 1, k + W)]
def rowT (W k0 n : Nat) : List Tri := (List.range n).flatMap fun i => pairT W (k0 + i)
def allT (W n : Nat) : List Tri := (List.range n).flatMap fun j => rowT W (j * W) (W - 1)
def isZ (zs : List Int) (k : Nat) : Bool := zs.getD k 0 != -2147483648
def hereT (zs : List Int) (t : Tri) : Bool := isZ zs t.1 && isZ zs t.2.1 && isZ zs t.2.2
def preT (zs : List Int) (W j i e : Nat) : List Tri := (allT W j ++ rowT W (j * W) i ++ (pairT W (j * W + i)).take e).filter (hereT zs)
def triL (W H : Nat) (zs : List Int) : List Tri := (allT W (H - 1)).filter (hereT zs)
theorem preT_start (zs : List Int) (W : Nat) : preT zs W 0 0 0 = [] := by simp [preT, allT, rowT]
theorem preT_next {zs : List Int} {W j i e : Nat} {t : Tri} (h : (pairT W (j * W + i))[e]? = some t) : preT zs W j i (e + 1) = preT zs W j i e ++ if hereT zs t then [t] else [] := by
 have he : e < (pairT W (j * W + i)).length := (List.getElem?_eq_some_iff.1 h).1
 have ht : (pairT W (j * W + i))[e] = t := (List.getElem?_eq_some_iff.1 h).2
 unfold preT
 rw [List.take_succ_eq_append_getElem he, ← List.append_assoc, List.filter_append _ [_], ht]
 congr 1
 cases hh : hereT zs t <;> simp [hh]
theorem preT_cell (zs : List Int) (W j i : Nat) : preT zs W j i 2 = preT zs W j (i + 1) 0 := by
 unfold preT
 rw [show (pairT W (j * W + i)).take 2 = pairT W (j * W + i) from rfl, List.take_zero, List.append_nil]
 simp [rowT, List.range_succ]
theorem preT_row (zs : List Int) (W j : Nat) : preT zs W j (W - 1) 0 = preT zs W (j + 1) 0 0 := by
 unfold preT
 simp [rowT, allT, List.range_succ]
theorem preT_end (zs : List Int) (W H : Nat) : preT zs W (H - 1) 0 0 = triL W H zs := by
 unfold preT triL
 simp [rowT]
theorem pair_at (W k : Nat) {e : Nat} (h : e < 2) : ∃ a b c : Nat, (pairT W k)[e]? = some (a, b, c) ∧ k ≤ a ∧ a ≤ k + W + 1 ∧ k ≤ b ∧ b ≤ k + W + 1 ∧ k ≤ c ∧ c ≤ k + W + 1 := by
 have : e = 0 ∨ e = 1 := by omega
 rcases this with rfl | rfl
 ·exact ⟨k, k + 1, k + W + 1, rfl, by omega, by omega, by omega, by omega, by omega, by omega⟩
 ·exact ⟨k, k + W + 1, k + W, rfl, by omega, by omega, by omega, by omega, by omega, by omega⟩
def flatT (l : List Tri) : List Value := l.flatMap fun t => [.int .i64 (t.1 : Nat), .int .i64 (t.2.1 : Nat), .int .i64 (t.2.2 : Nat)]
theorem flatT_append (a b : List Tri) : flatT (a ++ b) = flatT a ++ flatT b := by simp [flatT]
theorem flatT_length : ∀ l : List Tri, (flatT l).length = l.length * 3
 | [] => rfl
 | t :: l => by
  have := flatT_length l
  simp only [flatT, List.flatMap_cons, List.length_append, List.length_cons, List.length_nil] at this ⊢
  omega
theorem flatT_at : ∀ {l : List Tri} {j : Nat} {t : Tri}, l[j]? = some t → (flatT l)[j * 3]? = some (.int .i64 (t.1 : Nat)) ∧ (flatT l)[j * 3 + 1]? = some (.int .i64 (t.2.1 : Nat)) ∧ (flatT l)[j * 3 + 2]? = some (.int .i64 (t.2.2 : Nat))
 | [], j, t, h => by simp at h
 | a :: l, 0, t, h => by
  obtain rfl : a = t := by simpa using h
  exact ⟨rfl, rfl, rfl⟩
 | a :: l, j + 1, t, h => by
  have := flatT_at (l := l) (j := j) (t := t) (by simpa using h)
  have e : flatT (a :: l) = [.int .i64 (a.1 : Nat), .int .i64 (a.2.1 : Nat), .int .i64 (a.2.2 : Nat)] ++ flatT l := rfl
  rw [e]
  refine ⟨?_, ?_, ?_⟩
  ·rw [List.getElem?_append_right (by simp; omega), ← this.1]; congr 1; simp; omega
  ·rw [List.getElem?_append_right (by simp; omega), ← this.2.1]; congr 1; simp; omega
  ·rw [List.getElem?_append_right (by simp; omega), ← this.2.2]; congr 1; simp; omega
theorem idx_top {W H j i x : Nat} (hj : j + 1 < H) (hi : i + 1 < W) (hx : x ≤ j * W + i + W + 1) : x < W * H := by
 have := idx_lt (W := W) (H := H) (x := i + 1) (y := j + 1) (by omega) (by omega)
 rw [Nat.add_mul, Nat.one_mul] at this
 omega
theorem allT_mem {W H : Nat} {t : Tri} (h : t ∈ allT W (H - 1)) : ∃ j i, j + 1 < H ∧ i + 1 < W ∧ t ∈ pairT W (j * W + i) := by
 unfold allT rowT at h
 simp only [List.mem_flatMap, List.mem_range] at h
 obtain ⟨j, hj, i, hi, ht⟩ := h
 exact ⟨j, i, by omega, by omega, ht⟩
theorem triL_lt {W H : Nat} {zs : List Int} {t : Tri} (h : t ∈ triL W H zs) : t.1 < W * H ∧ t.2.1 < W * H ∧ t.2.2 < W * H := by
 obtain ⟨j, i, hj, hi, ht⟩ := allT_mem (List.mem_filter.1 h).1
 simp only [pairT, List.mem_cons, List.not_mem_nil, or_false] at ht
 rcases ht with rfl | rfl
 ·exact ⟨idx_top hj hi (by simp only; omega), idx_top hj hi (by simp only; omega), idx_top hj hi (by simp only; omega)⟩
 ·exact ⟨idx_top hj hi (by simp only; omega), idx_top hj hi (by simp only; omega), idx_top hj hi (by simp only; omega)⟩
theorem flatMap_len {α β : Type} (l : List α) (f : α → List β) (m : Nat) (h : ∀ x ∈ l, (f x).length ≤ m) : (l.flatMap f).length ≤ l.length * m := by
 induction l with
 | nil => simp
 | cons a l ih =>
  have h1 := h a List.mem_cons_self
  have h2 := ih (fun x hx => h x (List.mem_cons_of_mem _ hx))
  rw [List.flatMap_cons, List.length_append, List.length_cons, Nat.add_mul]
  omega
theorem rowT_len (W k n : Nat) : (rowT W k n).length ≤ n * 2 := by
 have := flatMap_len (List.range n) (fun i => pairT W (k + i)) 2 (fun x _ => Nat.le_refl _)
 rw [List.length_range] at this
 exact this
theorem allT_len (W n : Nat) : (allT W n).length ≤ n * (W * 2) := by
 have := flatMap_len (List.range n) (fun j => rowT W (j * W) (W - 1)) (W * 2) (fun x _ => Nat.le_trans (rowT_len _ _ _) (Nat.mul_le_mul (by omega) (Nat.le_refl _)))
 rw [List.length_range] at this
 exact this
theorem preT_len {zs : List Int} {W j i e : Nat} (hW : W ≤ 64) (hj : j ≤ 64) (hi : i ≤ 64) : (preT zs W j i e).length ≤ 9000 := by
 unfold preT
 refine Nat.le_trans (List.length_filter_le _ _) ?_
 rw [List.length_append, List.length_append]
 have h1 := allT_len W j
 have h2 := rowT_len W (j * W) i
 have h3 : ((pairT W (j * W + i)).take e).length ≤ 2 := by rw [List.length_take]; exact Nat.min_le_right _ _
 have h4 : j * (W * 2) ≤ 64 * (64 * 2) := Nat.mul_le_mul hj (by omega)
 omega
theorem triL_len (W H : Nat) (zs : List Int) : (triL W H zs).length ≤ 2 * (W * H) := by
 unfold triL
 refine Nat.le_trans (List.length_filter_le _ _) (Nat.le_trans (allT_len _ _) ?_)
 have : (H - 1) * (W * 2) ≤ H * (W * 2) := Nat.mul_le_mul_right _ (by omega)
 rw [show H * (W * 2) = 2 * (W * H) by rw [← Nat.mul_assoc, Nat.mul_comm H W, Nat.mul_comm]] at this
 exact this
end Go.Proofs.YtecibfncnaccjaaGreat
