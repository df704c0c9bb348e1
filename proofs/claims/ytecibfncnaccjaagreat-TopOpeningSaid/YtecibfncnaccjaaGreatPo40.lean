/- More of what a region's values may be said to be: a pair of fractions; a call of a closure. No program in sight. A second box made anywhere in a region. No program in sight. A part of a triangle by the corner that lies alone on its side, plainly. No program in sight. The volume over a triangle: one function of three heights; it is homogeneous, grows, and is convex. No program in sight. The volume over a triangle: homogeneous; the four patterns of signs; the tangent lies below. No program in sight. The volume over a triangle at whole heights, half a unit lower and higher: it grows and is convex. No program in sight. Small facts for the walk of contour.total's function. No program in sight. -/
import Derived.Test.YtecibfncnaccjaaGreatPo28
import Derived.Test.YtecibfncnaccjaaGreatPo37
import Derived.Test.YtecibfncnaccjaaGreatPo39
import Derived.Test.YtecibfncnaccjaaGreatPo38
import Derived.Test.YtecibfncnaccjaaGreatPo29
import Derived.Test.YtecibfncnaccjaaGreatPo32
import Derived.Deep.LoopGhost
namespace Go.Proofs.YtecibfncnaccjaaGreat
open Go.RowKit
def TupU (p n : Rat) (v : Value) (w : World) : Prop := ∃ Q R, v = .tuple #[Q, R] ∧ RatRep w Q p ∧ RatRep w R n
theorem st_tu {p n : Rat} (v : Value) (w w' : World) (h : TupU p n v w) (hk : Keeps w w') : TupU p n v w' := by
 obtain ⟨Q, R, e, h1, h2⟩ := h
 exact ⟨Q, R, e, h1.below hk, h2.below hk⟩
theorem exec_callc {P : Program} {o : Oper} {ρ : Operand → Value} {w : World} {c : Call} {x : Operand} {F : FuncId} {fn : Func} {L A : Array Value} (hop : o.op = .call c) (hc : c.callee = .value x) (hx : ρ x = .func (.func F) #[] L) (hA : c.args.map ρ = A)
 (hf : P.funcs[F]? = some fn) (hn : (fn.name == "runtime.NumGoroutine") = false) (hb : fn.body.isNone = false) : (execOp ρ o).run P w = .ok (.enter F (A ++ L)) w := by
 have hn' : ¬ fn.name = "runtime.NumGoroutine" := by simpa using hn
 have hb' : ¬ fn.body = none := fun e => by rw [e] at hb; cases hb
 simp [execOp, hop, resolve, hc, hx, hA, Deferred.ofValue, invoke, callFunc, hf, hn', hb', go_sem]
theorem wp_call_cl {P : Program} {o : Oper} {a : Act} {w : World} {K : Act → World → Prop} {Q : Exit → Act → World → Prop} {c : Call} {x : Operand} {F : FuncId} {fn : Func} {X : Value} {L A B C : Array Value} (hop : o.op = .call c) (hc : c.callee = .value x)
 (hx : a.eval x = X) (hX : X = .func (.func F) #[] L) (hA : c.args.map a.eval = A) (hB : A = B) (hC : B ++ L = C) (hf : P.funcs[F]? = some fn) (hn : (fn.name == "runtime.NumGoroutine") = false) (hb : fn.body.isNone = false)
 (h : Calls P F C w (fun e w' => ∃ v, e = .returned v ∧ K (a.put o.dst v) w')) : Oper.wp P o a w K Q := by
 subst hX hB hC
 unfold Oper.wp
 rw [exec_callc hop hc hx hA hf hn hb, Oper.upon_enter]
 refine h.mono ?_
 rintro e w' ⟨v, rfl, hK⟩
 exact hK
theorem step_callc {P : Program} {ops : Array Oper} {Φ : Nat → Value → World → Prop} {own : List Nat} {m i : Nat} {vs : Nat → Value} {a : Act} {w : World} {o : Oper} {c : Call} {x : Operand} {F : FuncId} {fn : Func} {X : Value} {L A B C : Array Value}
 (ds : List (Nat × Option Tmp)) (φ : Value → World → Prop) (hi : ops[i]? = some o) (hl : (depsOf ops m i).map (fun j => (j, dstOf ops j)) = ds) (hφ : ∀ v w, φ v w → Φ i v w) (ho : own.contains i = false)
 (hw : Region.wanted o (yielded ops (frD vs a ds).tmps) = true) (hop : o.op = .call c) (hc : c.callee = .value x) (hx : (frD vs a ds).eval x = X) (hX : X = .func (.func F) #[] L) (hA : c.args.map (frD vs a ds).eval = A) (hB : A = B) (hC : B ++ L = C)
 (hf : P.funcs[F]? = some fn) (hn : (fn.name == "runtime.NumGoroutine") = false) (hb : fn.body.isNone = false) (h : Calls P F C w (fun e w' => ∃ v, e = .returned v ∧ Keeps w w' ∧ φ v w')) : Step P ops Φ own m i vs a w :=
 step_val ds φ hi hl hφ ho fun _ hK => ⟨hw, wp_call_cl hop hc hx hX hA hB hC hf hn hb (h.mono fun _ w' ⟨v, e1, h1, h2⟩ => ⟨v, e1, hK v w' h1 h2⟩)⟩
theorem wp_ixa {P : Program} {o : Oper} {f : Act} {w : World} {K : Act → World → Prop} {Q : Exit → Act → World → Prop} {t : TypeId} {x y : Operand} {X Y V : Value} (hop : o.op = .indexAddr t x y) (hx : f.eval x = X) (hy : f.eval y = Y)
 (hr : (Instr.indexAt t X Y).run P w = .ok V w) (hK : K (f.put o.dst V) w) : Oper.wp P o f w K Q := by
 unfold Oper.wp execOp
 simp only [hop, hx, hy, Sem.run_bind, Sem.run_pure, hr, Result.andThen_ok, Oper.upon]
 exact hK
theorem step_ixa {P : Program} {ops : Array Oper} {Φ : Nat → Value → World → Prop} {own : List Nat} {m i : Nat} {vs : Nat → Value} {a : Act} {w : World} {o : Oper} {t : TypeId} {x y : Operand} {X Y V : Value}
 (ds : List (Nat × Option Tmp)) (φ : Value → World → Prop) (hi : ops[i]? = some o) (hl : (depsOf ops m i).map (fun j => (j, dstOf ops j)) = ds) (hg : o.guard = none) (hφ : ∀ v w, φ v w → Φ i v w) (ho : own.contains i = false)
 (hop : o.op = .indexAddr t x y) (hx : (frD vs a ds).eval x = X) (hy : (frD vs a ds).eval y = Y) (hr : (Instr.indexAt t X Y).run P w = .ok V w) (hV : φ V w) : Step P ops Φ own m i vs a w :=
 step_val0 ds φ hi hl hg hφ ho fun _ hK => wp_ixa hop hx hy hr (hK _ _ bl hV)
theorem St.box2 {w0 W w' : World} {bs : List Bx} {ps : List (World → Prop)} (S : St w0 W bs ps) {b1 : Nat} {t1 : TypeId} {v1 : List Value} (S' : St w0 w' ((b1, t1, v1) :: bs) ps) {b : Nat} {t : TypeId} {vs : List Value} (hO : Own w' b t vs) (hb : W.heap.size ≤ b) (hne : b ≠ b1) :
 St w0 w' ((b, t, vs) :: (b1, t1, v1) :: bs) ps := by
 refine ⟨S'.k, ⟨hO, S'.b⟩, ?_, ?_, S'.p⟩
 ·intro p hp
  rcases List.mem_cons.1 hp with rfl | hp
  ·exact Nat.le_trans S.k.size hb
  ·exact S'.lo p hp
 ·rw [List.pairwise_cons]
  refine ⟨fun q hq e => ?_, S'.d⟩
  rcases List.mem_cons.1 hq with rfl | hq
  ·exact hne e
  ·have := (S.b.mem hq).lt; simp only at e; omega
end Go.Proofs.YtecibfncnaccjaaGreat
namespace Go.Proofs.YtecibfncnaccjaaGreat
abbrev R3 := Rat × Rat × Rat
def posI (x : Rat) : Int := if 0 < x then 1 else 0
def rotT (t : R3) : R3 := (t.2.1, t.2.2, t.1)
def cntT (t : R3) : Int := posI t.1 + posI t.2.1 + posI t.2.2
def aloneT (t : R3) : Bool := (decide (0 < t.1) == decide (cntT t = 1)) && (decide (0 < t.2.1) == decide (0 < t.2.2))
def firstT (t : R3) : R3 := if aloneT t then t else if aloneT (rotT t) then rotT t else rotT (rotT t)
def cT (tip : Rat → Rat → Rat → Rat) (rest : Rat → Rat → Rat → Rat → Rat) (t : R3) : Rat :=
 if cntT t = 0 then 0 else if cntT t = 3 then rest t.1 t.2.1 t.2.2 0 else
 if cntT t = 2 then rest (firstT t).1 (firstT t).2.1 (firstT t).2.2 (tip (firstT t).1 (firstT t).2.1 (firstT t).2.2) else tip (firstT t).1 (firstT t).2.1 (firstT t).2.2
theorem posI_01 (x : Rat) : (posI x = 0 ∧ ¬ 0 < x) ∨ (posI x = 1 ∧ 0 < x) := by
 unfold posI
 by_cases h : 0 < x
 ·right; simp [h]
 ·left; simp [h]
theorem cntT_rot (t : R3) : cntT (rotT t) = cntT t := by unfold cntT rotT; simp only; omega
theorem alone_some (t : R3) (h0 : cntT t ≠ 0) (h3 : cntT t ≠ 3) : aloneT t = true ∨ aloneT (rotT t) = true ∨ aloneT (rotT (rotT t)) = true := by
 obtain ⟨x, y, z⟩ := t
 unfold aloneT
 rw [cntT_rot, cntT_rot]
 unfold cntT at h0 h3 ⊢
 simp only [rotT] at h0 h3 ⊢
 rcases posI_01 x with ⟨a, a'⟩ | ⟨a, a'⟩ <;> rcases posI_01 y with ⟨b, b'⟩ | ⟨b, b'⟩ <;> rcases posI_01 z with ⟨c, c'⟩ | ⟨c, c'⟩ <;> simp only [a, b, c, a', b', c'] at h0 h3 ⊢ <;> simp at h0 h3 ⊢
def RotOk (x : R3) (k : Nat) (y : R3) : Prop := (k = 2 ∧ y = x) ∨ (k = 1 ∧ y = rotT x ∧ aloneT x = false) ∨ (k = 0 ∧ y = rotT (rotT x) ∧ aloneT x = false ∧ aloneT (rotT x) = false)
theorem RotOk.cnt {x y : R3} {k : Nat} (h : RotOk x k y) : cntT y = cntT x := by
 rcases h with ⟨-, rfl⟩ | ⟨-, rfl, -⟩ | ⟨-, rfl, -⟩
 ·rfl
 ·exact cntT_rot _
 ·rw [cntT_rot, cntT_rot]
theorem RotOk.first {x y : R3} {k : Nat} (h : RotOk x k y) (ha : aloneT y = true) : firstT x = y := by
 rcases h with ⟨-, rfl⟩ | ⟨-, rfl, h1⟩ | ⟨-, rfl, h1, h2⟩
 ·unfold firstT; rw [if_pos ha]
 ·unfold firstT; rw [if_neg (by rw [h1]; decide), if_pos ha]
 ·unfold firstT; rw [if_neg (by rw [h1]; decide), if_neg (by rw [h2]; decide)]
theorem RotOk.next {x y : R3} {k : Nat} (h : RotOk x k y) (h0 : cntT x ≠ 0) (h3 : cntT x ≠ 3) (ha : aloneT y = false) : 0 < k ∧ RotOk x (k - 1) (rotT y) := by
 rcases h with ⟨rfl, rfl⟩ | ⟨rfl, rfl, h1⟩ | ⟨rfl, rfl, h1, h2⟩
 ·exact ⟨by omega, .inr (.inl ⟨rfl, rfl, ha⟩)⟩
 ·exact ⟨by omega, .inr (.inr ⟨rfl, rfl, h1, ha⟩)⟩
 ·rcases alone_some x h0 h3 with h | h | h
  ·rw [h] at h1; cases h1
  ·rw [h] at h2; cases h2
  ·rw [h] at ha; cases ha
theorem rot_ways (y : R3) (h0 : cntT y ≠ 0) (h3 : cntT y ≠ 3) :
 (cntT y = 1 ∧ ¬ 0 < y.1 ∧ aloneT y = false) ∨ (cntT y = 2 ∧ 0 < y.1 ∧ aloneT y = false) ∨ (cntT y = 1 ∧ 0 < y.1 ∧ ¬ 0 < y.2.1 ∧ ¬ 0 < y.2.2 ∧ aloneT y = true) ∨ (cntT y = 2 ∧ ¬ 0 < y.1 ∧ 0 < y.2.1 ∧ 0 < y.2.2 ∧ aloneT y = true) := by
 obtain ⟨x, y, z⟩ := y
 unfold aloneT
 unfold cntT at h0 h3 ⊢
 simp only at h0 h3 ⊢
 rcases posI_01 x with ⟨a, a'⟩ | ⟨a, a'⟩ <;> rcases posI_01 y with ⟨b, b'⟩ | ⟨b, b'⟩ <;> rcases posI_01 z with ⟨c, c'⟩ | ⟨c, c'⟩ <;> simp only [a, b, c, a', b', c'] at h0 h3 ⊢ <;> simp at h0 h3 ⊢
def shR (x y z : Rat) : Rat := x * x / ((x - y) * (x - z))
def tipV (x y z : Rat) : Rat := x * (x * x / ((x - y) * (x - z))) / 3
def restV (x y z t : Rat) : Rat := (x + (y + z)) / 3 - t
def restA (_ _ _ t : Rat) : Rat := 1 - t
theorem sh_nz1 {x y z : Rat} (h1 : 0 < x) (h2 : ¬ 0 < y) (h3 : ¬ 0 < z) : (x - y) * (x - z) ≠ 0 := by
 have a1 : 0 < x - y := by grind
 have a2 : 0 < x - z := by grind
 have a3 := Rat.mul_pos a1 a2
 grind
theorem sh_nz2 {x y z : Rat} (h1 : ¬ 0 < x) (h2 : 0 < y) (h3 : 0 < z) : (x - y) * (x - z) ≠ 0 := by
 have a1 : 0 < y - x := by grind
 have a2 : 0 < z - x := by grind
 have a3 := Rat.mul_pos a1 a2
 grind
theorem cT_0 {tip : Rat → Rat → Rat → Rat} {rest : Rat → Rat → Rat → Rat → Rat} {t : R3} (h : cntT t = 0) : cT tip rest t = 0 := if_pos h
theorem cT_3 {tip : Rat → Rat → Rat → Rat} {rest : Rat → Rat → Rat → Rat → Rat} {t : R3} (h : cntT t = 3) : cT tip rest t = rest t.1 t.2.1 t.2.2 0 := by unfold cT; rw [if_neg (by omega), if_pos h]
theorem cT_1 {tip : Rat → Rat → Rat → Rat} {rest : Rat → Rat → Rat → Rat → Rat} {t y : R3} (h : cntT t = 1) (hy : firstT t = y) : cT tip rest t = tip y.1 y.2.1 y.2.2 := by unfold cT; rw [if_neg (by omega), if_neg (by omega), if_neg (by omega), hy]
theorem cT_2 {tip : Rat → Rat → Rat → Rat} {rest : Rat → Rat → Rat → Rat → Rat} {t y : R3} (h : cntT t = 2) (hy : firstT t = y) : cT tip rest t = rest y.1 y.2.1 y.2.2 (tip y.1 y.2.1 y.2.2) := by unfold cT; rw [if_neg (by omega), if_neg (by omega), if_pos h, hy]
def cS (a b c : Rat) : Rat := if 0 < a then (a + b + c) / 3 else if c ≤ 0 then 0 else if b ≤ 0 then tipV c a b else (a + b + c) / 3 - tipV a b c
theorem third_mean (a b c : Rat) : meanT a b c = (a + b + c) / 3 := by
 unfold meanT
 rw [show Rat.divInt 1 3 = (1 : Rat) / 3 by decide +kernel]
 grind
theorem tip_pk (x y z : Rat) : pkT x y z = tipV x y z := by
 unfold pkT tipV
 by_cases h : (x - y) * (x - z) = 0
 ·rw [h, Rat.mul_zero, Rat.div_def, Rat.div_def, Rat.div_def, Rat.inv_zero]; grind
 ·grind
theorem tip_neg (x y z : Rat) : tipV (-x) (-y) (-z) = -tipV x y z := by
 unfold tipV
 have e : (-x - -y) * (-x - -z) = (x - y) * (x - z) := by grind
 rw [e]
 by_cases h : (x - y) * (x - z) = 0
 ·rw [h, Rat.div_def, Rat.div_def, Rat.div_def, Rat.div_def, Rat.inv_zero]; grind
 ·grind
theorem tip_swap (x y z : Rat) : tipV x y z = tipV x z y := by
 unfold tipV
 rw [Rat.mul_comm (x - y)]
theorem tip_zero (y z : Rat) : tipV 0 y z = 0 := by
 unfold tipV
 rw [Rat.zero_mul]
 simp only [Rat.div_def, Rat.zero_mul]
theorem tip_z2 {x : Rat} (h : x ≠ 0) : tipV x 0 0 = x / 3 := by
 unfold tipV
 grind
theorem upT_cS {a b c : Rat} (h1 : a ≤ b) (h2 : b ≤ c) : upT a b c = cS a b c := by
 unfold upT cS
 rw [third_mean, tip_pk, tip_pk, tip_neg]
 by_cases ha : 0 < a
 ·rw [if_pos (Rat.le_of_lt ha), if_pos ha]
 ·rw [if_neg ha]
  by_cases ha0 : a = 0
  ·subst ha0
   rw [if_pos Rat.le_refl]
   by_cases hc : c ≤ 0
   ·rw [if_pos hc]; grind
   ·rw [if_neg hc]
    by_cases hb : b ≤ 0
    ·rw [if_pos hb]
     obtain rfl : b = 0 := by grind
     rw [tip_z2 (by grind)]
     grind
    ·rw [if_neg hb, tip_zero]; grind
  ·rw [if_neg (by grind)]
   by_cases hc : c ≤ 0
   ·rw [if_pos hc, if_pos hc]
   ·rw [if_neg hc, if_neg hc]
    by_cases hb : b ≤ 0
    ·rw [if_pos hb, if_pos hb]
    ·rw [if_neg hb, if_neg hb]; grind
abbrev cV (x y z : Rat) : Rat := cT tipV restV (x, y, z)
theorem pos1 {x : Rat} (h : 0 < x) : posI x = 1 := if_pos h
theorem pos0 {x : Rat} (h : x ≤ 0) : posI x = 0 := if_neg (Rat.not_lt.2 h)
section
variable {tip : Rat → Rat → Rat → Rat} {rest : Rat → Rat → Rat → Rat → Rat} {x y z : Rat}
theorem cT_none (hx : x ≤ 0) (hy : y ≤ 0) (hz : z ≤ 0) : cT tip rest (x, y, z) = 0 := cT_0 (by unfold cntT; rw [pos0 hx, pos0 hy, pos0 hz]; rfl)
theorem cT_all (hx : 0 < x) (hy : 0 < y) (hz : 0 < z) : cT tip rest (x, y, z) = rest x y z 0 := cT_3 (by unfold cntT; rw [pos1 hx, pos1 hy, pos1 hz]; rfl)
theorem cT_up1 (hx : 0 < x) (hy : y ≤ 0) (hz : z ≤ 0) : cT tip rest (x, y, z) = tip x y z := by
 have hc : cntT (x, y, z) = 1 := by unfold cntT; rw [pos1 hx, pos0 hy, pos0 hz]; rfl
 refine cT_1 (y := (x, y, z)) hc ?_
 unfold firstT
 rw [if_pos (by unfold aloneT; rw [hc]; simp [hx, Rat.not_lt.2 hy, Rat.not_lt.2 hz])]
theorem cT_up2 (hx : x ≤ 0) (hy : 0 < y) (hz : z ≤ 0) : cT tip rest (x, y, z) = tip y z x := by
 have hc : cntT (x, y, z) = 1 := by unfold cntT; rw [pos0 hx, pos1 hy, pos0 hz]; rfl
 refine cT_1 (y := (y, z, x)) hc ?_
 unfold firstT
 rw [if_neg (by unfold aloneT; rw [hc]; simp [hy, Rat.not_lt.2 hx, Rat.not_lt.2 hz]), if_pos (by unfold aloneT; rw [cntT_rot, hc]; simp [rotT, hy, Rat.not_lt.2 hx, Rat.not_lt.2 hz])]
 rfl
theorem cT_up3 (hx : x ≤ 0) (hy : y ≤ 0) (hz : 0 < z) : cT tip rest (x, y, z) = tip z x y := by
 have hc : cntT (x, y, z) = 1 := by unfold cntT; rw [pos0 hx, pos0 hy, pos1 hz]; rfl
 refine cT_1 (y := (z, x, y)) hc ?_
 unfold firstT
 rw [if_neg (by unfold aloneT; rw [hc]; simp [hz, Rat.not_lt.2 hx, Rat.not_lt.2 hy]), if_neg (by unfold aloneT; rw [cntT_rot, hc]; simp [rotT, hz, Rat.not_lt.2 hx, Rat.not_lt.2 hy])]
 rfl
theorem cT_dn1 (hx : x ≤ 0) (hy : 0 < y) (hz : 0 < z) : cT tip rest (x, y, z) = rest x y z (tip x y z) := by
 have hc : cntT (x, y, z) = 2 := by unfold cntT; rw [pos0 hx, pos1 hy, pos1 hz]; rfl
 refine cT_2 (y := (x, y, z)) hc ?_
 unfold firstT
 rw [if_pos (by unfold aloneT; rw [hc]; simp [hy, hz, Rat.not_lt.2 hx])]
theorem cT_dn2 (hx : 0 < x) (hy : y ≤ 0) (hz : 0 < z) : cT tip rest (x, y, z) = rest y z x (tip y z x) := by
 have hc : cntT (x, y, z) = 2 := by unfold cntT; rw [pos1 hx, pos0 hy, pos1 hz]; rfl
 refine cT_2 (y := (y, z, x)) hc ?_
 unfold firstT
 rw [if_neg (by unfold aloneT; rw [hc]; simp [hx, hz, Rat.not_lt.2 hy]), if_pos (by unfold aloneT; rw [cntT_rot, hc]; simp [rotT, hx, hz, Rat.not_lt.2 hy])]
 rfl
theorem cT_dn3 (hx : 0 < x) (hy : 0 < y) (hz : z ≤ 0) : cT tip rest (x, y, z) = rest z x y (tip z x y) := by
 have hc : cntT (x, y, z) = 2 := by unfold cntT; rw [pos1 hx, pos1 hy, pos0 hz]; rfl
 refine cT_2 (y := (z, x, y)) hc ?_
 unfold firstT
 rw [if_neg (by unfold aloneT; rw [hc]; simp [hx, hy, Rat.not_lt.2 hz]), if_neg (by unfold aloneT; rw [cntT_rot, hc]; simp [rotT, hx, hy, Rat.not_lt.2 hz])]
 rfl
end
theorem cV_sorted {a b c x y z : Rat} (h1 : a ≤ b) (h2 : b ≤ c) (hp : (x = a ∧ y = b ∧ z = c) ∨ (x = a ∧ y = c ∧ z = b) ∨ (x = b ∧ y = a ∧ z = c) ∨ (x = b ∧ y = c ∧ z = a) ∨ (x = c ∧ y = a ∧ z = b) ∨ (x = c ∧ y = b ∧ z = a)) : cV x y z = cS a b c := by
 unfold cS
 by_cases ha : 0 < a
 ·have hb : 0 < b := by grind
  have hc : 0 < c := by grind
  rw [if_pos ha]
  rcases hp with ⟨rfl, rfl, rfl⟩ | ⟨rfl, rfl, rfl⟩ | ⟨rfl, rfl, rfl⟩ | ⟨rfl, rfl, rfl⟩ | ⟨rfl, rfl, rfl⟩ | ⟨rfl, rfl, rfl⟩ <;> (rw [cV, cT_all (by assumption) (by assumption) (by assumption)]; unfold restV; grind)
 ·rw [if_neg ha]
  have ha := Rat.not_lt.1 ha
  by_cases hc : c ≤ 0
  ·have hb : b ≤ 0 := by grind
   rw [if_pos hc]
   rcases hp with ⟨rfl, rfl, rfl⟩ | ⟨rfl, rfl, rfl⟩ | ⟨rfl, rfl, rfl⟩ | ⟨rfl, rfl, rfl⟩ | ⟨rfl, rfl, rfl⟩ | ⟨rfl, rfl, rfl⟩ <;> exact cT_none (by assumption) (by assumption) (by assumption)
  ·rw [if_neg hc]
   have hc := Rat.not_le.1 hc
   by_cases hb : b ≤ 0
   ·rw [if_pos hb]
    rcases hp with ⟨rfl, rfl, rfl⟩ | ⟨rfl, rfl, rfl⟩ | ⟨rfl, rfl, rfl⟩ | ⟨rfl, rfl, rfl⟩ | ⟨rfl, rfl, rfl⟩ | ⟨rfl, rfl, rfl⟩
    ·exact cT_up3 ha hb hc
    ·exact (cT_up2 ha hc hb).trans (tip_swap _ _ _)
    ·exact (cT_up3 hb ha hc).trans (tip_swap _ _ _)
    ·exact cT_up2 hb hc ha
    ·exact cT_up1 hc ha hb
    ·exact (cT_up1 hc hb ha).trans (tip_swap _ _ _)
   ·rw [if_neg hb]
    have hb := Rat.not_le.1 hb
    rcases hp with ⟨rfl, rfl, rfl⟩ | ⟨rfl, rfl, rfl⟩ | ⟨rfl, rfl, rfl⟩ | ⟨rfl, rfl, rfl⟩ | ⟨rfl, rfl, rfl⟩ | ⟨rfl, rfl, rfl⟩
    ·rw [cV, cT_dn1 ha hb hc]; unfold restV; grind
    ·rw [cV, cT_dn1 ha hc hb, tip_swap]; unfold restV; grind
    ·rw [cV, cT_dn2 hb ha hc, tip_swap]; unfold restV; grind
    ·rw [cV, cT_dn3 hb hc ha]; unfold restV; grind
    ·rw [cV, cT_dn2 hc ha hb]; unfold restV; grind
    ·rw [cV, cT_dn3 hc hb ha, tip_swap]; unfold restV; grind
theorem upV_cV (x y z : Rat) : upV x y z = cV x y z := by
 obtain ⟨a, b, c, h, h1, h2, hp⟩ := srtR_3 x y z
 have e1 : upV x y z = upT a b c := by unfold upV; rw [h]; rfl
 rw [e1, upT_cS h1 h2]
 simp only [List.cons.injEq, and_true] at hp
 exact (cV_sorted h1 h2 hp).symm
theorem cS_p3 {a b c : Rat} (h1 : a ≤ b) (h2 : b ≤ c) (h : 0 ≤ a) : cS a b c = (a + b + c) / 3 := by
 rw [← upT_cS h1 h2]
 unfold upT
 rw [if_pos h, third_mean]
end Go.Proofs.YtecibfncnaccjaaGreat
namespace Go.Proofs.YtecibfncnaccjaaGreat
open Go.RowKit
theorem pos_T {x : Rat} {s : Int} (h : x.num.sign = s) (t : decide (0 < s) = true) : posI x = 1 := by
 have := of_decide_eq_true t
 unfold posI
 rcases sgnR x with ⟨h1, h2⟩ | ⟨h1, h2⟩ | ⟨h1, h2⟩
 ·omega
 ·omega
 ·rw [if_pos h1]
theorem pos_F {x : Rat} {s : Int} (h : x.num.sign = s) (t : decide (0 < s) = false) : posI x = 0 := by
 have := of_decide_eq_false t
 unfold posI
 rcases sgnR x with ⟨h1, h2⟩ | ⟨h1, h2⟩ | ⟨h1, h2⟩
 ·rw [if_neg (Rat.not_lt.2 (Rat.le_of_lt h1))]
 ·rw [h1]; simp
 ·omega
theorem sgT {x : Rat} {s : Int} (h0 : 0 < x) (h : x.num.sign = s) : decide (0 < s) = true := by
 rcases sgnR x with ⟨h1, h2⟩ | ⟨h1, h2⟩ | ⟨h1, h2⟩
 ·exact absurd h0 (Rat.not_lt.2 (Rat.le_of_lt h1))
 ·rw [h1] at h0; exact absurd h0 (by simp)
 ·exact decide_eq_true (by omega)
theorem sgF {x : Rat} {s : Int} (h0 : ¬ 0 < x) (h : x.num.sign = s) : decide (0 < s) = false := by
 rcases sgnR x with ⟨h1, h2⟩ | ⟨h1, h2⟩ | ⟨h1, h2⟩
 ·exact decide_eq_false (by omega)
 ·exact decide_eq_false (by omega)
 ·exact absurd h1 h0
theorem posI_1 {u : Int} {x : Rat} (h : u = posI x) : 0 ≤ u ∧ u ≤ 1 := by
 rcases posI_01 x with ⟨a, -⟩ | ⟨a, -⟩ <;> omega
theorem posI_2 {u : Int} {x y : Rat} (h : u = posI x + posI y) : 0 ≤ u ∧ u ≤ 2 := by
 rcases posI_01 x with ⟨a, -⟩ | ⟨a, -⟩ <;> rcases posI_01 y with ⟨b, -⟩ | ⟨b, -⟩ <;> omega
theorem posI_3 {u : Int} {x y z : Rat} (h : u = posI x + posI y + posI z) : 0 ≤ u ∧ u ≤ 3 := by
 rcases posI_01 x with ⟨a, -⟩ | ⟨a, -⟩ <;> rcases posI_01 y with ⟨b, -⟩ | ⟨b, -⟩ <;> rcases posI_01 z with ⟨c, -⟩ | ⟨c, -⟩ <;> omega
theorem rot_sz {x y : R3} {k : Nat} (h : RotOk x k y) (hz : szR x.1 ≤ 1 ∧ szR x.2.1 ≤ 1 ∧ szR x.2.2 ≤ 1) : szR y.1 ≤ 1 ∧ szR y.2.1 ≤ 1 ∧ szR y.2.2 ≤ 1 := by
 obtain ⟨a, b, c⟩ := hz
 rcases h with ⟨-, rfl⟩ | ⟨-, rfl, -⟩ | ⟨-, rfl, -⟩
 ·exact ⟨a, b, c⟩
 ·exact ⟨b, c, a⟩
 ·exact ⟨c, a, b⟩
theorem szR_one_sub (t : Rat) : szR (1 - t) ≤ szR t + 2 := by
 have h := szR_sub 1 t
 have : szR (1 : Rat) ≤ 1 := by decide +kernel
 omega
theorem run_ix0 (a b d : Int) (W : World) : Sem.run Tryz.prog (Instr.index 74 (.agg #[.int .i64 a, .int .i64 b, .int .i64 d]) (.int .i64 0)) W = .ok (.int .i64 a) W := by kernel_rfl
theorem run_ix1 (a b d : Int) (W : World) : Sem.run Tryz.prog (Instr.index 74 (.agg #[.int .i64 a, .int .i64 b, .int .i64 d]) (.int .i64 1)) W = .ok (.int .i64 b) W := by kernel_rfl
theorem run_ix2 (a b d : Int) (W : World) : Sem.run Tryz.prog (Instr.index 74 (.agg #[.int .i64 a, .int .i64 b, .int .i64 d]) (.int .i64 2)) W = .ok (.int .i64 d) W := by kernel_rfl
end Go.Proofs.YtecibfncnaccjaaGreat
