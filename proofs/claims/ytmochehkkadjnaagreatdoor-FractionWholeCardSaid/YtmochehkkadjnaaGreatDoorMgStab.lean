/- What a region's values may be said to be, and that it lasts: for the walks that walk.py prints. No program in sight. What FractionField asks, of core's fractions; the helper eq. Rounding to multiples of 1/P: it encloses, it is monotone, it is idempotent; the nearest is one of the two. No program in sight. -/
import Derived.Test.YtmochehkkadjnaaGreatDoorMgSt2
import Derived.Test.YtmochehkkadjnaaGreatDoorGRest
import Derived.Test.YtmochehkkadjnaaGreatDoorMgNums
namespace Go.Proofs.YtmochehkkadjnaaGreatDoor
open Go.RowKit

def StabL : List (Value → World → Prop) → Prop
  | [] => True
  | φ :: l => (∀ v w w', φ v w → Keeps w w' → φ v w') ∧ StabL l
theorem stab_nil : StabL [] := trivial
theorem stab_cons {φ : Value → World → Prop} {l : List (Value → World → Prop)} (h : ∀ v w w', φ v w → Keeps w w' → φ v w') (hl : StabL l) : StabL (φ :: l) := ⟨h, hl⟩
theorem stabL_get : ∀ {l : List (Value → World → Prop)}, StabL l → ∀ (i : Nat) (v : Value) (w w' : World), (List.getD l i (fun _ _ => True)) v w → Keeps w w' → (List.getD l i (fun _ _ => True)) v w'
  | [], _, _, _, _, _, _, _ => trivial
  | _ :: _, h, 0, v, w, w', hp, hk => h.1 v w w' hp hk
  | _ :: l, h, i + 1, v, w, w', hp, hk => stabL_get (l := l) h.2 i v w w' hp hk
theorem st_e {c : Value} (v : Value) (w w' : World) (h : v = c) (_ : Keeps w w') : v = c := h
theorem st_q {q : Rat} (v : Value) (w w' : World) (h : RatRep w v q) (hk : Keeps w w') : RatRep w' v q := h.below hk
theorem st_i {z : Int} (v : Value) (w w' : World) (h : IntRep w v z) (hk : Keeps w w') : IntRep w' v z := h.below hk
theorem st_t {c : Int} {q : Rat} (v : Value) (w w' : World) (h : TupQ c q v w) (hk : Keeps w w') : TupQ c q v w' := h.below hk
theorem st_f {c : Int} {q : Rat} (v : Value) (w w' : World) (h : FstQ c q v w) (hk : Keeps w w') : FstQ c q v w' := h.below hk
theorem st_ti {z : Int} (v : Value) (w w' : World) (h : TupI z v w) (hk : Keeps w w') : TupI z v w' := h.below hk
theorem st_td {q r : Int} (v : Value) (w w' : World) (h : TupD q r v w) (hk : Keeps w w') : TupD q r v w' := h.below hk
theorem st_a {n : Nat} {t : TypeId} {vs : List Value} (v : Value) (w w' : World) (h : ∃ b, v = .pointer (some ⟨b, 0, none⟩) ∧ n ≤ b ∧ Own w b t vs) (hk : Keeps w w') : ∃ b, v = .pointer (some ⟨b, 0, none⟩) ∧ n ≤ b ∧ Own w' b t vs := by
  obtain ⟨b, h1, h2, h3⟩ := h
  exact ⟨b, h1, h2, h3.below hk⟩
section
variable {P : Program} {ops : Array Oper} {Φ : Nat → Value → World → Prop} {own : List Nat} {m i : Nat} {vs : Nat → Value} {a : Act} {w : World} {o : Oper}
/-- one operation of a region, its own predicate alone in sight -/
theorem step_val (ds : List (Nat × Option Tmp)) (φ : Value → World → Prop) (hi : ops[i]? = some o) (hl : (depsOf ops m i).map (fun j => (j, dstOf ops j)) = ds) (hφ : ∀ v w, φ v w → Φ i v w) (ho : own.contains i = false)
    (h : ∀ K : Act → World → Prop, (∀ v w', Keeps w w' → φ v w' → K ((frD vs a ds).put o.dst v) w') → Region.wanted o (yielded ops (frD vs a ds).tmps) = true ∧ Oper.wp P o (frD vs a ds) w K (fun _ _ _ => False)) : Step P ops Φ own m i vs a w :=
  step_yes ds hi hl fun K hK => h K fun v w' hk hp => hK v w' ⟨hk, hφ _ _ hp, fun hc => by rw [List.contains_iff_mem.2 hc] at ho; cases ho⟩
/-- likewise, without a guard -/
theorem step_val0 (ds : List (Nat × Option Tmp)) (φ : Value → World → Prop) (hi : ops[i]? = some o) (hl : (depsOf ops m i).map (fun j => (j, dstOf ops j)) = ds) (hg : o.guard = none) (hφ : ∀ v w, φ v w → Φ i v w) (ho : own.contains i = false)
    (h : ∀ K : Act → World → Prop, (∀ v w', Keeps w w' → φ v w' → K ((frD vs a ds).put o.dst v) w') → Oper.wp P o (frD vs a ds) w K (fun _ _ _ => False)) : Step P ops Φ own m i vs a w :=
  step_val ds φ hi hl hφ ho fun K hK => ⟨by simp [Region.wanted, hg], h K hK⟩
end
theorem exec_call {P : Program} {o : Oper} {ρ : Operand → Value} {w : World} {c : Call} {x : Operand} {F : FuncId} {fn : Func} {A : Array Value} (hop : o.op = .call c) (hc : c.callee = .value x) (hx : ρ x = .func (.func F) #[] #[]) (hA : c.args.map ρ = A)
    (hf : P.funcs[F]? = some fn) (hn : (fn.name == "runtime.NumGoroutine") = false) (hb : fn.body.isNone = false) : (execOp ρ o).run P w = .ok (.enter F A) w := by
  have hn' : ¬ fn.name = "runtime.NumGoroutine" := by simpa using hn
  have hb' : ¬ fn.body = none := fun e => by rw [e] at hb; cases hb
  simp [execOp, hop, resolve, hc, hx, hA, Deferred.ofValue, invoke, callFunc, hf, hn', hb', go_sem]
theorem wp_call_fn {P : Program} {o : Oper} {a : Act} {w : World} {K : Act → World → Prop} {Q : Exit → Act → World → Prop} {c : Call} {x : Operand} {F : FuncId} {fn : Func} {X : Value} {A B : Array Value} (hop : o.op = .call c) (hc : c.callee = .value x)
    (hx : a.eval x = X) (hX : X = .func (.func F) #[] #[]) (hA : c.args.map a.eval = A) (hB : A = B) (hf : P.funcs[F]? = some fn) (hn : (fn.name == "runtime.NumGoroutine") = false) (hb : fn.body.isNone = false)
    (h : Calls P F B w (fun e w' => ∃ v, e = .returned v ∧ K (a.put o.dst v) w')) : Oper.wp P o a w K Q := by
  subst hX hB
  unfold Oper.wp
  rw [exec_call hop hc hx hA hf hn hb, Oper.upon_enter]
  refine h.mono ?_
  rintro e w' ⟨v, rfl, hK⟩
  exact hK
theorem wanted_none {ops : Array Oper} {o : Oper} {ts : Array Value} (hg : o.guard = none) : Region.wanted o (yielded ops ts) = true := by simp [Region.wanted, hg]
theorem wanted_some {ops : Array Oper} {o : Oper} {ts : Array Value} {g : Nat} {want : Bool} (t : Tmp) {X : Value} (hg : o.guard = some (g, want)) (hd : (ops[g]?.bind fun x => x.dst) = some t) (hv : ts[t]? = some X) (hX : X = .bool want) : Region.wanted o (yielded ops ts) = true := by
  subst hX
  simp only [Region.wanted, hg, yielded, hd, Option.bind_some, hv]
  simp
/-- an operation with a guard that says yes -/
theorem step_valg {P : Program} {ops : Array Oper} {Φ : Nat → Value → World → Prop} {own : List Nat} {m i : Nat} {vs : Nat → Value} {a : Act} {w : World} {o : Oper}
    (ds : List (Nat × Option Tmp)) (φ : Value → World → Prop) (hi : ops[i]? = some o) (hl : (depsOf ops m i).map (fun j => (j, dstOf ops j)) = ds) (hφ : ∀ v w, φ v w → Φ i v w) (ho : own.contains i = false)
    (hw : Region.wanted o (yielded ops (frD vs a ds).tmps) = true)
    (h : ∀ K : Act → World → Prop, (∀ v w', Keeps w w' → φ v w' → K ((frD vs a ds).put o.dst v) w') → Oper.wp P o (frD vs a ds) w K (fun _ _ _ => False)) : Step P ops Φ own m i vs a w :=
  step_val ds φ hi hl hφ ho fun K hK => ⟨hw, h K hK⟩
/-- a call in a region -/
theorem step_call {P : Program} {ops : Array Oper} {Φ : Nat → Value → World → Prop} {own : List Nat} {m i : Nat} {vs : Nat → Value} {a : Act} {w : World} {o : Oper} {c : Call} {x : Operand} {F : FuncId} {fn : Func} {X : Value} {A B : Array Value}
    (ds : List (Nat × Option Tmp)) (φ : Value → World → Prop) (hi : ops[i]? = some o) (hl : (depsOf ops m i).map (fun j => (j, dstOf ops j)) = ds) (hφ : ∀ v w, φ v w → Φ i v w) (ho : own.contains i = false)
    (hw : Region.wanted o (yielded ops (frD vs a ds).tmps) = true) (hop : o.op = .call c) (hc : c.callee = .value x) (hx : (frD vs a ds).eval x = X) (hX : X = .func (.func F) #[] #[]) (hA : c.args.map (frD vs a ds).eval = A) (hB : A = B)
    (hf : P.funcs[F]? = some fn) (hn : (fn.name == "runtime.NumGoroutine") = false) (hb : fn.body.isNone = false) (h : Calls P F B w (fun e w' => ∃ v, e = .returned v ∧ Keeps w w' ∧ φ v w')) : Step P ops Φ own m i vs a w :=
  step_val ds φ hi hl hφ ho fun _ hK => ⟨hw, wp_call_fn hop hc hx hX hA hB hf hn hb (h.mono fun _ w' ⟨v, e1, h1, h2⟩ => ⟨v, e1, hK v w' h1 h2⟩)⟩
theorem wpList_end {P : Program} {ops : Array Oper} {Q : Exit → Act → World → Prop} {l : List Oper} {a : Act} {w : World} (hl : l = []) (h : wpList P ops Q [] a w) : wpList P ops Q l a w := by subst hl; exact h
end Go.Proofs.YtmochehkkadjnaaGreatDoor

namespace Go.Proofs.YtmochehkkadjnaaGreatDoor
open Go.RowKit Go.Shelf

theorem add_sub_self (x y : Rat) : x + y - y = x := by grind
theorem ne_of_sgn {y : Rat} {s : Int} (e : y.num.sign = s) (t : (s != 0) = true) : y ≠ 0 := by
  rintro rfl
  rw [← e] at t
  exact absurd t (by decide)
theorem divC_ne {y : Rat} {s : Int} (e : y.num.sign = s) (t : (s != 0) = true) : rdivC y = 0 := if_neg (ne_of_sgn e t)
theorem szR_div' (x y : Rat) : szR (x / y) ≤ szR x + szR y + 1 := by
  by_cases hy : y = 0
  · subst hy
    have h0 : x / 0 = 0 := by rw [Rat.div_def, Rat.inv_zero, Rat.mul_zero]
    have := szR_int 0
    rw [lenI_zero, Rat.intCast_zero] at this
    rw [h0]; omega
  · have := szR_div x y hy; omega
theorem sign_abs (z : Int) : -1 ≤ z.sign ∧ z.sign ≤ 1 := by
  rcases Int.lt_trichotomy z 0 with h | h | h
  · rw [Int.sign_eq_neg_one_of_neg h]; omega
  · subst h; simp
  · rw [Int.sign_eq_one_of_pos h]; omega
theorem cmp_abs (x y : Rat) : -1 ≤ cmpR x y ∧ cmpR x y ≤ 1 := sign_abs _
theorem cmp_add (x y z : Rat) : cmpR (x + z) (y + z) = cmpR x y := by
  rw [← rat_sub_sign, ← rat_sub_sign, show x + z - (y + z) = x - y by grind]
theorem cmp_last {x y z : Rat} {s t u : Int} (h1 : cmpR x y = s) (h2 : cmpR y z = t) (h3 : cmpR x z = u) (a : decide (0 < s) = false) (b : decide (0 < t) = false) : decide (u ≤ 0) = true := by
  have a := of_decide_eq_false a
  have b := of_decide_eq_false b
  have k1 := (cmpR_le x y).1 (by omega)
  have k2 := (cmpR_le y z).1 (by omega)
  have k3 := (cmpR_le x z).2 (Rat.le_trans k1 k2)
  exact decide_eq_true (by omega)
set_option maxRecDepth 100000 in
set_option maxHeartbeats 1000000 in
theorem feq_s {w : World} {V1 V2 : Value} {x y : Rat} (h1 : RatNum w V1 x) (h2 : RatNum w V2 y) (hxy : x = y) : Calls Tryz.prog 31 #[V1, V2] w (fun e w' => e = .returned (.bool true) ∧ Keeps w w') := by
  obtain ⟨b3, A3, n3, c3, d3, B3, m3, e3, rfl⟩ := h1.open_
  have z0 := h1.sz
  obtain ⟨b4, A4, n4, c4, d4, B4, m4, e4, rfl⟩ := h2.open_
  have z1 := h2.sz
  obtain ⟨s1, hs1⟩ : ∃ s, cmpR x y = s := ⟨_, rfl⟩
  have HS1 := Lib.hid hs1
  clear hs1
  have q1 : (s1 == 0) = true := by rw [← HS1.out, (cmpR_zero x y).2 hxy]; rfl
  clear hxy
  have S := (((St.start w).addR h1).addR h2)
  clear h1 h2
  go_enter Tryz.func31, Tryz.ntmps31
  go_upto_region 1 with fail
  replace S := ((S.alloc 28 [.bool b3, .slice A3 n3 c3, .bool d3, .slice B3 m3 e3]).alloc 28 [.bool b4, .slice A4 n4 c4, .bool d4, .slice B4 m4 e4])
  simp only [World.size_alloc] at S
  obtain ⟨W1, eW, S⟩ := S.pack
  rw [eW]
  clear eW
  have r0_0 := S.c 1 0 rfl rfl
  have r0_1 := S.c 1 1 rfl rfl
  have r0_2 := S.c 1 2 rfl rfl
  have r0_3 := S.c 1 3 rfl rfl
  have r1_0 := S.c 0 0 rfl rfl
  have r1_1 := S.c 0 1 rfl rfl
  have r1_2 := S.c 0 2 rfl rfl
  have r1_3 := S.c 0 3 rfl rfl
  go_wp2_with fail
  refine ((fcompare_s (S.ri 1 rfl) (S.ri 0 rfl) HS1.out)).mono ?_
  rintro e W2 ⟨rfl, hk⟩
  replace S := S.below hk
  clear hk
  clear r0_0 r0_1 r0_2 r0_3 r1_0 r1_1 r1_2 r1_3
  go_wp2
  go_ret
  exact ⟨rfl, S.k⟩
end Go.Proofs.YtmochehkkadjnaaGreatDoor

namespace Go.Proofs.YtmochehkkadjnaaGreatDoor
open Go.RowKit

theorem mul_iff {a b c : Rat} (h : 0 < c) : a * c ≤ b * c ↔ a ≤ b := ⟨fun h2 => Rat.le_of_mul_le_mul_right h2 h, fun h2 => Rat.mul_le_mul_of_nonneg_right h2 (Rat.le_of_lt h)⟩
theorem divInt_mul {z P : Int} (hP : 0 < P) : Rat.divInt z P * (P : Rat) = (z : Rat) := by
  have h : (P : Rat) ≠ 0 := fun e => by
    have := Rat.intCast_inj.1 (e.trans (Rat.intCast_zero).symm)
    omega
  rw [Rat.divInt_eq_div, Rat.div_mul_cancel h]
theorem le_divInt {x : Rat} {z P : Int} (hP : 0 < P) : x ≤ Rat.divInt z P ↔ x * (P : Rat) ≤ (z : Rat) := by
  have h : (0 : Rat) < (P : Rat) := by rw [← Rat.intCast_zero]; exact Rat.intCast_lt_intCast.2 hP
  rw [← divInt_mul (z := z) hP]
  exact (mul_iff h).symm
theorem divInt_le {x : Rat} {z P : Int} (hP : 0 < P) : Rat.divInt z P ≤ x ↔ (z : Rat) ≤ x * (P : Rat) := by
  have h : (0 : Rat) < (P : Rat) := by rw [← Rat.intCast_zero]; exact Rat.intCast_lt_intCast.2 hP
  rw [← divInt_mul (z := z) hP]
  exact (mul_iff h).symm
theorem mul_mono {x y : Rat} {P : Int} (hP : 0 < P) (h : x ≤ y) : x * (P : Rat) ≤ y * (P : Rat) := by
  have h0 : (0 : Rat) < (P : Rat) := by rw [← Rat.intCast_zero]; exact Rat.intCast_lt_intCast.2 hP
  exact (mul_iff h0).2 h
theorem divInt_mono {a b P : Int} (hP : 0 < P) (h : a ≤ b) : Rat.divInt a P ≤ Rat.divInt b P := by
  rw [le_divInt hP, divInt_mul hP]; exact Rat.intCast_le_intCast.2 h
theorem floor_mono {x y : Rat} (h : x ≤ y) : x.floor ≤ y.floor := Rat.le_floor_iff.2 (Rat.le_trans (Rat.floor_le x) h)
theorem floor_int (z : Int) : (z : Rat).floor = z := by
  have h1 : z ≤ (z : Rat).floor := Rat.le_floor_iff.2 Rat.le_refl
  have h2 : (((z : Rat).floor : Int) : Rat) ≤ (z : Rat) := Rat.floor_le _
  have := Rat.intCast_le_intCast.1 h2
  omega
theorem ceil_int (z : Int) : (z : Rat).ceil = z := by
  have h1 : (z : Rat).ceil ≤ z := Rat.ceil_le_iff.2 Rat.le_refl
  have h2 : (z : Rat) ≤ (((z : Rat).ceil : Int) : Rat) := Rat.le_ceil
  have := Rat.intCast_le_intCast.1 h2
  omega
theorem ceil_cases (x : Rat) : x.ceil = x.floor ∨ x.ceil = x.floor + 1 := by
  have h1 := Rat.lt_floor_add_one x
  have h2 : x.ceil ≤ x.floor + 1 := Rat.ceil_le_iff.2 (Rat.le_of_lt h1)
  have h3 : ((x.floor : Int) : Rat) ≤ ((x.ceil : Int) : Rat) := Rat.le_trans (Rat.floor_le x) Rat.le_ceil
  have := Rat.intCast_le_intCast.1 h3
  omega
theorem near_cases {x h : Rat} (h0 : 0 ≤ h) (h1 : h < 1) : (x + h).floor = x.floor ∨ (x + h).floor = x.ceil := by
  have a1 : x.floor ≤ (x + h).floor := floor_mono (by grind)
  have a2 : (x + h).floor ≤ x.ceil := by
    have : (((x + h).floor : Int) : Rat) < ((x.ceil + 1 : Int) : Rat) := by
      have b1 := Rat.floor_le (x + h)
      have b2 : x ≤ ((x.ceil : Int) : Rat) := Rat.le_ceil
      rw [Rat.intCast_add, Rat.intCast_one]
      grind
    have := Rat.intCast_lt_intCast.1 this
    omega
  rcases ceil_cases x with e | e <;> omega
/-- rounded down, up, to the nearest -/
def dnR (x : Rat) (P : Int) : Rat := Rat.divInt (x * (P : Rat)).floor P
def upR' (x : Rat) (P : Int) : Rat := Rat.divInt (x * (P : Rat)).ceil P
def nrR (h x : Rat) (P : Int) : Rat := Rat.divInt (x * (P : Rat) + h).floor P
section
variable {x y h : Rat} {P : Int}
theorem dn_le (hP : 0 < P) : dnR x P ≤ x := (divInt_le hP).2 (Rat.floor_le _)
theorem le_up (hP : 0 < P) : x ≤ upR' x P := (le_divInt hP).2 Rat.le_ceil
theorem dn_mono (hP : 0 < P) (hl : x ≤ y) : dnR x P ≤ dnR y P := divInt_mono hP (floor_mono (mul_mono hP hl))
theorem nr_mono (hP : 0 < P) (hl : x ≤ y) : nrR h x P ≤ nrR h y P := divInt_mono hP (floor_mono (by have := mul_mono hP hl; grind))
theorem nr_cases (h0 : 0 ≤ h) (h1 : h < 1) : nrR h x P = dnR x P ∨ nrR h x P = upR' x P := by
  unfold nrR dnR upR'
  rcases near_cases (x := x * (P : Rat)) h0 h1 with e | e
  · left; rw [e]
  · right; rw [e]
theorem dn_dn (hP : 0 < P) : dnR (dnR x P) P = dnR x P := by
  unfold dnR
  rw [divInt_mul hP, floor_int]
theorem up_dn (hP : 0 < P) : upR' (dnR x P) P = dnR x P := by
  unfold upR' dnR
  rw [divInt_mul hP, ceil_int]
theorem width_cases (hP : 0 < P) : upR' x P - dnR x P = 0 ∨ upR' x P - dnR x P = Rat.divInt 1 P := by
  unfold upR' dnR
  have hne : (P : Rat) ≠ 0 := fun e => by
    have := Rat.intCast_inj.1 (e.trans (Rat.intCast_zero).symm)
    omega
  rcases ceil_cases (x * (P : Rat)) with e | e
  · left; rw [e]; exact Rat.sub_self
  · right
    rw [e, Rat.divInt_eq_div, Rat.divInt_eq_div, Rat.divInt_eq_div, Rat.intCast_add, Rat.div_def, Rat.div_def, Rat.div_def, Rat.intCast_one]
    grind
end
/-- the root of a scaled fraction, both ways -/
theorem floor_sq {y : Rat} {s : Int} (h1 : s * s ≤ y.floor) : ((s * s : Int) : Rat) ≤ y := Rat.le_floor_iff.1 h1
theorem floor_sq_lt {y : Rat} {s : Int} (h2 : y.floor < (s + 1) * (s + 1)) : y < (((s + 1) * (s + 1) : Int) : Rat) := Rat.floor_lt_iff.1 h2
end Go.Proofs.YtmochehkkadjnaaGreatDoor
