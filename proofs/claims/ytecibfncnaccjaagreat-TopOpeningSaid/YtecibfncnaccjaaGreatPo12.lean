/- The contracts once more, in one form: an api.Int that counts z. Fractions as core's Rat: what reduced, sums, products, orders come to; lengths. No program in sight. api.Rat in memory: raw arguments, canonical values. No program in sight. A store into a box of the call's own. No program in sight. Decimal texts of naturals, digit by digit and group by group. No program in sight. The shelf's contracts at this dump, laid by the kit's lay-plain.mjs, cut down to those that are used. The walk of integer.Text. Text and Valid in the common form. -/
import Derived.Test.YtecibfncnaccjaaGreatPo11
import Derived.Test.YtecibfncnaccjaaGreatPo1
import Derived.Lib.ItoaNum
import Derived.Shelf.Small.Bits
import Derived.Shelf.Small.Wraps
import Derived.Shelf.Strconv.Itoa0
import Derived.Shelf.Bits.Mul64
import Derived.Shelf.Slices.Equal
import Derived.Ground.Names2Prog
import Derived.Shelf.Slices.Clone
import Derived.Shelf.Slices.Empties2
import Derived.Test.YtecibfncnaccjaaGreatProg
import Derived.Test.YtecibfncnaccjaaGreatPo4
import Derived.Test.YtecibfncnaccjaaGreatPo7
import Derived.Lib.LaidTab
import Derived.Lib.AppendIntMem
import Derived.Lib.BufferOld
namespace Go.Proofs.YtecibfncnaccjaaGreat
open Go.RowKit Go.Shelf

def IntNum (w : World) (V : Value) (z : Int) : Prop := ∃ neg xs, IntArg w V neg xs ∧ cnt neg xs = z ∧ xs.length ≤ 900000
def lenI (z : Int) : Nat := (dig z.natAbs).length
theorem IntNum.below {w w' : World} {V : Value} {z : Int} (h : IntNum w V z) (hk : Keeps w w') : IntNum w' V z := by
 obtain ⟨neg, xs, h, e, hl⟩ := h
 exact ⟨neg, xs, h.below hk, e, hl⟩
theorem IntRep.num {w : World} {V : Value} {z : Int} (h : IntRep w V z) (hl : lenI z ≤ 900000) : IntNum w V z := ⟨_, _, h.arg, cnt_rep z, hl⟩
theorem IntRep.drew {w : World} {V : Value} {z : Int} (h : IntRep w V z) : IntRep w.drew V z := h
theorem IntNum.drew {w : World} {V : Value} {z : Int} (h : IntNum w V z) : IntNum w.drew V z := h
theorem lenI_add (a b : Int) : lenI (a + b) ≤ max (lenI a) (lenI b) + 1 := rep_add_length a b
theorem lenI_mul (a b : Int) : lenI (a * b) ≤ lenI a + lenI b := by
 unfold lenI
 rw [Int.natAbs_mul]
 exact dig_length_mul _ _
theorem lenI_neg (a : Int) : lenI (-a) = lenI a := by unfold lenI; rw [Int.natAbs_neg]
theorem lenI_cnt (neg : Bool) (xs : List Nat) : lenI (cnt neg xs) ≤ xs.length := cnt_length neg xs

section
variable {V1 V2 : Value} {x y : Int} {w : World}
def Gives (z : Int) (w : World) (e : Ending) (w' : World) : Prop := ∃ V, e = .returned V ∧ IntRep w' V z ∧ Keeps w w'
theorem add_num (h1 : IntNum w V1 x) (h2 : IntNum w V2 y) : Calls Tryz.prog 70 #[V1, V2] w (Gives (x + y) w) := by
 obtain ⟨n1, xs, h1, rfl, l1⟩ := h1
 obtain ⟨n2, ys, h2, rfl, l2⟩ := h2
 exact add_any n1 n2 xs ys V1 V2 w h1 h2 (by omega) (by omega)
theorem mul_num (h1 : IntNum w V1 x) (h2 : IntNum w V2 y) : Calls Tryz.prog 68 #[V1, V2] w (Gives (x * y) w) := by
 obtain ⟨n1, xs, h1, rfl, l1⟩ := h1
 obtain ⟨n2, ys, h2, rfl, l2⟩ := h2
 exact mul_any n1 n2 xs ys V1 V2 w h1 h2 (by omega) (by omega)
theorem radd_num (h1 : IntNum w V1 x) (h2 : IntNum w V2 y) : Calls Tryz.prog 52 #[V1, V2] w (Gives (x + y) w) := by
 obtain ⟨n1, xs, h1, rfl, l1⟩ := h1
 obtain ⟨n2, ys, h2, rfl, l2⟩ := h2
 exact radd_any n1 n2 xs ys V1 V2 w h1 h2 (by omega) (by omega)
theorem rmul_num (h1 : IntNum w V1 x) (h2 : IntNum w V2 y) : Calls Tryz.prog 51 #[V1, V2] w (Gives (x * y) w) := by
 obtain ⟨n1, xs, h1, rfl, l1⟩ := h1
 obtain ⟨n2, ys, h2, rfl, l2⟩ := h2
 exact rmul_any n1 n2 xs ys V1 V2 w h1 h2 (by omega) (by omega)
theorem neg_num (h1 : IntNum w V1 x) : Calls Tryz.prog 98 #[V1] w (Gives (-x) w) := by
 obtain ⟨n1, xs, h1, rfl, l1⟩ := h1
 exact neg_any n1 xs V1 w h1 (by omega)
theorem rneg_num (h1 : IntNum w V1 x) : Calls Tryz.prog 82 #[V1] w (Gives (-x) w) := by
 obtain ⟨n1, xs, h1, rfl, l1⟩ := h1
 exact rneg_any n1 xs V1 w h1 (by omega)
theorem sign_num (h1 : IntNum w V1 x) : Calls Tryz.prog 95 #[V1] w fun e w' => e = .returned (.int .i64 x.sign) ∧ Keeps w w' := by
 obtain ⟨n1, xs, h1, rfl, l1⟩ := h1
 exact sign_any n1 xs V1 w h1 (by omega)
theorem rsign_num (h1 : IntNum w V1 x) : Calls Tryz.prog 53 #[V1] w fun e w' => e = .returned (.int .i64 x.sign) ∧ Keeps w w' := by
 obtain ⟨n1, xs, h1, rfl, l1⟩ := h1
 exact rsign_any n1 xs V1 w h1 (by omega)
theorem rcompare_num (h1 : IntNum w V1 x) (h2 : IntNum w V2 y) : Calls Tryz.prog 112 #[V1, V2] w fun e w' => e = .returned (.int .i64 (x - y).sign) ∧ Keeps w w' := by
 obtain ⟨n1, xs, h1, rfl, l1⟩ := h1
 obtain ⟨n2, ys, h2, rfl, l2⟩ := h2
 exact rcompare_any n1 n2 xs ys V1 V2 w h1 h2 (by omega) (by omega)
theorem compare_num (h1 : IntNum w V1 x) (h2 : IntNum w V2 y) : Calls Tryz.prog 119 #[V1, V2] w fun e w' => e = .returned (.int .i64 (x - y).sign) ∧ Keeps w w' := by
 obtain ⟨n1, xs, h1, rfl, l1⟩ := h1
 obtain ⟨n2, ys, h2, rfl, l2⟩ := h2
 exact compareI_any n1 n2 xs ys V1 V2 w h1 h2 (by omega) (by omega)
end
end Go.Proofs.YtecibfncnaccjaaGreat
namespace Go.Proofs.YtecibfncnaccjaaGreat
open Go.RowKit

theorem lenR_mono {x y : Int} (h : x.natAbs ≤ y.natAbs) : lenI x ≤ lenI y := dig_length_mono h
theorem lenI_one : lenI 1 ≤ 1 := dig_length_le (n := (1 : Int).natAbs) (k := 1) (by decide)
theorem lenI_zero : lenI 0 = 0 := by simp [lenI, dig_zero]
def szR (q : Rat) : Nat := max (lenI q.num) (lenI (q.den : Int))
theorem szR_num {q : Rat} {k : Nat} (h : szR q ≤ k) : lenI q.num ≤ k := Nat.le_trans (Nat.le_max_left _ _) h
theorem szR_den {q : Rat} {k : Nat} (h : szR q ≤ k) : lenI (q.den : Int) ≤ k := Nat.le_trans (Nat.le_max_right _ _) h
theorem szR_mk {q : Rat} {k : Nat} (h1 : lenI q.num ≤ k) (h2 : lenI (q.den : Int) ≤ k) : szR q ≤ k := Nat.max_le.2 ⟨h1, h2⟩
theorem den_posI (q : Rat) : (0 : Int) < q.den := Int.ofNat_lt.2 q.den_pos
theorem natAbs_div_le (a : Int) (g : Nat) : (a / (g : Int)).natAbs ≤ a.natAbs := by
 rcases Nat.eq_zero_or_pos g with h | h
 ·subst h; simp
 ·rcases Int.le_total 0 a with ha | ha
  ·have h1 : 0 ≤ a / (g : Int) := Int.ediv_nonneg ha (by omega)
   have h2 : a / (g : Int) ≤ a := Int.ediv_le_self _ ha
   omega
  ·have h2 : a ≤ a / (g : Int) := by
    rw [Int.le_ediv_iff_mul_le (by omega)]
    have : a * (g : Int) ≤ a * 1 := Int.mul_le_mul_of_nonpos_left ha (by omega)
    omega
   have h1 : a / (g : Int) ≤ 0 := by
    have := Int.ediv_le_ediv (c := (g : Int)) (by omega) ha
    simpa using this
   omega
theorem szR_divInt (a b : Int) (hb : b ≠ 0) : szR (Rat.divInt a b) ≤ max (lenI a) (lenI b) := by
 have h1 : (Rat.divInt a b).num.natAbs ≤ a.natAbs := by
  rw [Rat.num_divInt]
  refine Nat.le_trans (natAbs_div_le _ _) ?_
  rw [Int.natAbs_mul, Int.natAbs_sign_of_ne_zero hb, Nat.one_mul]
  exact Nat.le_refl _
 have h2 : ((Rat.divInt a b).den : Int).natAbs ≤ b.natAbs := by
  rw [Int.natAbs_natCast, Rat.den_divInt, if_neg hb]; exact Nat.div_le_self _ _
 exact szR_mk (Nat.le_trans (lenR_mono h1) (Nat.le_max_left _ _)) (Nat.le_trans (lenR_mono h2) (Nat.le_max_right _ _))
theorem red_pos {a b : Int} (hb : 0 < b) : a.fdiv (Int.gcd a b : Nat) = (Rat.divInt a b).num ∧ b.fdiv (Int.gcd a b : Nat) = ((Rat.divInt a b).den : Int) := by
 have hg : (0 : Int) ≤ (Int.gcd a b : Nat) := by omega
 rw [Rat.num_divInt, Rat.den_divInt, if_neg (by omega), Int.sign_eq_one_of_pos hb, Int.one_mul, Int.gcd_comm b a]
 refine ⟨Int.fdiv_eq_ediv_of_nonneg _ hg, ?_⟩
 rw [Int.fdiv_eq_ediv_of_nonneg _ hg, Int.natCast_ediv]
 congr 1
 omega
theorem red_neg {a b : Int} (hb : b < 0) : (-a).fdiv (Int.gcd (-a) (-b) : Nat) = (Rat.divInt a b).num ∧ (-b).fdiv (Int.gcd (-a) (-b) : Nat) = ((Rat.divInt a b).den : Int) := by
 rw [← Rat.neg_divInt_neg a b]
 exact red_pos (by omega)
theorem red_ref {a b : Int} (hb : b < 0) : a.fdiv (-(Int.gcd a b : Nat)) = (Rat.divInt a b).num ∧ b.fdiv (-(Int.gcd a b : Nat)) = ((Rat.divInt a b).den : Int) := by
 obtain ⟨h1, h2⟩ := red_neg (a := a) hb
 rw [Int.gcd_neg, Int.neg_gcd] at h1 h2
 rw [← h1, ← h2]
 refine ⟨?_, ?_⟩
 ·rw [← Int.neg_fdiv_neg, Int.neg_neg]
 ·rw [← Int.neg_fdiv_neg, Int.neg_neg]
theorem add_divInt (x y : Rat) : x + y = Rat.divInt (x.num * y.den + y.num * x.den) (x.den * y.den) := by
 rw [Rat.add_def', ← Rat.divInt_ofNat, Int.natCast_mul]
theorem sub_divInt (x y : Rat) : x - y = Rat.divInt (x.num * y.den - y.num * x.den) (x.den * y.den) := by
 rw [Rat.sub_def', ← Rat.divInt_ofNat, Int.natCast_mul]
theorem mul_divInt (x y : Rat) : x * y = Rat.divInt (x.num * y.num) (x.den * y.den) := by
 rw [Rat.mul_def', ← Rat.divInt_ofNat, Int.natCast_mul]
theorem div_divInt (x y : Rat) : x / y = Rat.divInt (x.num * y.den) (x.den * y.num) := by
 rw [Rat.div_def, Rat.inv_def]
 conv => lhs; rw [← Rat.num_divInt_den x]
 rw [Rat.divInt_mul_divInt]
def cmpR (x y : Rat) : Int := (x.num * y.den - y.num * x.den).sign
theorem sign_ediv_gcd (n : Int) (g : Nat) (hg : 0 < g) (h : (g : Int) ∣ n) : (n / (g : Int)).sign = n.sign := by
 obtain ⟨k, rfl⟩ := h
 rw [Int.mul_ediv_cancel_left _ (by omega), Int.sign_mul, Int.sign_eq_one_of_pos (a := (g : Int)) (by omega), Int.one_mul]
theorem sign_divInt (a b : Int) (hb : 0 < b) : (Rat.divInt a b).num.sign = a.sign := by
 rw [Rat.num_divInt, Int.sign_eq_one_of_pos hb, Int.one_mul]
 exact sign_ediv_gcd a _ (Int.gcd_pos_of_ne_zero_left _ (by omega)) (Int.gcd_dvd_right ..)
theorem den_mul_pos (x y : Rat) : (0 : Int) < x.den * y.den := Int.mul_pos (den_posI x) (den_posI y)
theorem rat_sub_sign (x y : Rat) : (x - y).num.sign = cmpR x y := by
 rw [sub_divInt, sign_divInt _ _ (den_mul_pos x y)]; rfl
theorem cmpR_pos (x y : Rat) : 0 < cmpR x y ↔ y < x := by
 rw [Rat.lt_iff]
 unfold cmpR
 constructor
 ·intro h
  have := Int.sign_eq_one_iff_pos.1 (show (x.num * y.den - y.num * x.den).sign = 1 by
   rcases Int.lt_trichotomy (x.num * y.den - y.num * x.den) 0 with h1 | h1 | h1
   ·rw [Int.sign_eq_neg_one_of_neg h1] at h; omega
   ·rw [h1] at h; simp at h
   ·exact Int.sign_eq_one_of_pos h1)
  omega
 ·intro h
  rw [Int.sign_eq_one_of_pos (by omega)]; omega
theorem cmpR_neg (x y : Rat) : cmpR x y = -cmpR y x := by
 unfold cmpR
 rw [← Int.sign_neg, Int.neg_sub]
theorem cmpR_lt (x y : Rat) : cmpR x y < 0 ↔ x < y := by rw [cmpR_neg, ← cmpR_pos]; omega
theorem cmpR_zero (x y : Rat) : cmpR x y = 0 ↔ x = y := by
 unfold cmpR
 rw [Int.sign_eq_zero_iff_zero, Rat.eq_iff_mul_eq_mul]
 omega
theorem szR_add (x y : Rat) : szR (x + y) ≤ szR x + szR y + 1 := by
 have h := szR_divInt (x.num * y.den + y.num * x.den) (x.den * y.den) (by have := den_mul_pos x y; omega)
 rw [← add_divInt] at h
 have h1 := lenI_add (x.num * y.den) (y.num * x.den)
 have h2 := lenI_mul x.num y.den
 have h3 := lenI_mul y.num x.den
 have h4 := lenI_mul x.den y.den
 have a1 := szR_num (Nat.le_refl (szR x))
 have a2 := szR_den (Nat.le_refl (szR x))
 have b1 := szR_num (Nat.le_refl (szR y))
 have b2 := szR_den (Nat.le_refl (szR y))
 omega
theorem szR_mul (x y : Rat) : szR (x * y) ≤ szR x + szR y := by
 have h := szR_divInt (x.num * y.num) (x.den * y.den) (by have := den_mul_pos x y; omega)
 rw [← mul_divInt] at h
 have h2 := lenI_mul x.num y.num
 have h4 := lenI_mul x.den y.den
 have a1 := szR_num (Nat.le_refl (szR x))
 have a2 := szR_den (Nat.le_refl (szR x))
 have b1 := szR_num (Nat.le_refl (szR y))
 have b2 := szR_den (Nat.le_refl (szR y))
 omega
theorem szR_neg (x : Rat) : szR (-x) = szR x := by unfold szR; rw [Rat.neg_num, Rat.neg_den, lenI_neg]
theorem szR_sub (x y : Rat) : szR (x - y) ≤ szR x + szR y + 1 := by
 have := szR_add x (-y)
 rwa [szR_neg, ← Rat.sub_eq_add_neg] at this
theorem szR_div (x y : Rat) (hy : y ≠ 0) : szR (x / y) ≤ szR x + szR y := by
 have hn : y.num ≠ 0 := fun h => hy (Rat.num_eq_zero.1 h)
 have h := szR_divInt (x.num * y.den) (x.den * y.num) (Int.mul_ne_zero (by have := den_posI x; omega) hn)
 rw [← div_divInt] at h
 have h2 := lenI_mul x.num y.den
 have h4 := lenI_mul x.den y.num
 have a1 := szR_num (Nat.le_refl (szR x))
 have a2 := szR_den (Nat.le_refl (szR x))
 have b1 := szR_num (Nat.le_refl (szR y))
 have b2 := szR_den (Nat.le_refl (szR y))
 omega
theorem szR_int (n : Int) : szR (n : Rat) ≤ max (lenI n) 1 := by
 refine szR_mk ?_ ?_
 ·rw [Rat.num_intCast]; omega
 ·rw [Rat.den_intCast]
  exact Nat.le_trans lenI_one (Nat.le_max_right _ _)
theorem divInt_fields {a b : Int} (hb : 0 < b) (hg : Int.gcd a b = 1) : (Rat.divInt a b).num = a ∧ ((Rat.divInt a b).den : Int) = b := by
 obtain ⟨h1, h2⟩ := red_pos (a := a) hb
 rw [hg] at h1 h2
 rw [← h1, ← h2]
 refine ⟨?_, ?_⟩ <;> exact Int.fdiv_one _
theorem gcd_fields (q : Rat) : Int.gcd q.num q.den = 1 := q.reduced
def RatRep (w : World) (V : Value) (q : Rat) : Prop := ∃ x v y u, V = .agg #[x, v, y, u] ∧ IntRep w (.agg #[x, v]) q.num ∧ IntRep w (.agg #[y, u]) (q.den : Int)
def RatArg (w : World) (V : Value) (n1 : Bool) (xs : List Nat) (n2 : Bool) (ys : List Nat) : Prop := ∃ x v y u, V = .agg #[x, v, y, u] ∧ IntArg w (.agg #[x, v]) n1 xs ∧ IntArg w (.agg #[y, u]) n2 ys
def rvalidB (n1 : Bool) (xs : List Nat) (n2 : Bool) (ys : List Nat) : Bool :=
 validB n1 xs && (validB n2 ys && (decide (0 < cnt n2 ys) && decide (Int.gcd (cnt n1 xs) (cnt n2 ys) = 1)))
def rcnt (n1 : Bool) (xs : List Nat) (n2 : Bool) (ys : List Nat) : Rat := if rvalidB n1 xs n2 ys then Rat.divInt (cnt n1 xs) (cnt n2 ys) else 0
def RatNum (w : World) (V : Value) (q : Rat) : Prop := ∃ n1 xs n2 ys, RatArg w V n1 xs n2 ys ∧ rcnt n1 xs n2 ys = q ∧ xs.length ≤ 100000 ∧ ys.length ≤ 100000
def RGives (q : Rat) (w : World) (e : Ending) (w' : World) : Prop := ∃ V, e = .returned V ∧ RatRep w' V q ∧ Keeps w w'
section
variable {w w' : World} {V x v y u : Value} {q : Rat} {n1 n2 : Bool} {xs ys : List Nat}
theorem RatRep.below (h : RatRep w V q) (hk : Keeps w w') : RatRep w' V q := by
 obtain ⟨x, v, y, u, rfl, h1, h2⟩ := h
 exact ⟨x, v, y, u, rfl, h1.below hk, h2.below hk⟩
theorem RatRep.drew (h : RatRep w V q) : RatRep w.drew V q := h
theorem RatArg.below (h : RatArg w V n1 xs n2 ys) (hk : Keeps w w') : RatArg w' V n1 xs n2 ys := by
 obtain ⟨x, v, y, u, rfl, h1, h2⟩ := h
 exact ⟨x, v, y, u, rfl, h1.below hk, h2.below hk⟩
theorem RatNum.below (h : RatNum w V q) (hk : Keeps w w') : RatNum w' V q := by
 obtain ⟨n1, xs, n2, ys, h, e, l⟩ := h
 exact ⟨n1, xs, n2, ys, h.below hk, e, l⟩
theorem RatNum.drew (h : RatNum w V q) : RatNum w.drew V q := h
theorem rvalidB_rep (q : Rat) : rvalidB (decide (q.num < 0)) (dig q.num.natAbs) (decide ((q.den : Int) < 0)) (dig (q.den : Int).natAbs) = true := by
 unfold rvalidB
 rw [validB_rep, validB_rep, cnt_rep, cnt_rep, decide_eq_true (den_posI q), decide_eq_true (gcd_fields q)]
 rfl
theorem rcnt_rep (q : Rat) : rcnt (decide (q.num < 0)) (dig q.num.natAbs) (decide ((q.den : Int) < 0)) (dig (q.den : Int).natAbs) = q := by
 unfold rcnt
 rw [if_pos (rvalidB_rep q), cnt_rep, cnt_rep, Rat.num_divInt_den]
theorem RatRep.num (h : RatRep w V q) (hl : szR q ≤ 100000) : RatNum w V q := by
 obtain ⟨x, v, y, u, rfl, h1, h2⟩ := h
 exact ⟨_, _, _, _, ⟨x, v, y, u, rfl, h1.arg, h2.arg⟩, rcnt_rep q, szR_num hl, szR_den hl⟩
theorem rcnt_true (h : rvalidB n1 xs n2 ys = true) : (rcnt n1 xs n2 ys).num = cnt n1 xs ∧ ((rcnt n1 xs n2 ys).den : Int) = cnt n2 ys := by
 unfold rcnt
 rw [if_pos h]
 unfold rvalidB at h
 simp only [Bool.and_eq_true, decide_eq_true_eq] at h
 exact divInt_fields h.2.2.1 h.2.2.2
theorem rcnt_false (h : rvalidB n1 xs n2 ys = false) : rcnt n1 xs n2 ys = 0 := if_neg (by rw [h]; decide)
theorem szR_rcnt : szR (rcnt n1 xs n2 ys) ≤ max (max xs.length ys.length) 1 := by
 cases h : rvalidB n1 xs n2 ys with
 | true =>
  obtain ⟨h1, h2⟩ := rcnt_true h
  refine szR_mk ?_ ?_
  ·rw [h1]; have := lenI_cnt n1 xs; omega
  ·rw [h2]; have := lenI_cnt n2 ys; omega
 | false =>
  rw [rcnt_false h]
  refine szR_mk ?_ ?_
  ·rw [Rat.zero_num, lenI_zero]; omega
  ·rw [Rat.zero_den]; exact Nat.le_trans lenI_one (Nat.le_max_right _ _)
theorem RatNum.sz (h : RatNum w V q) : szR q ≤ 100000 := by
 obtain ⟨n1, xs, n2, ys, -, rfl, l1, l2⟩ := h
 have := szR_rcnt (n1 := n1) (xs := xs) (n2 := n2) (ys := ys)
 omega
theorem RatRep.whole {x v y u : Value} {z : Int} (h1 : IntRep w (.agg #[x, v]) z) (h2 : IntRep w (.agg #[y, u]) 1) : RatRep w (.agg #[x, v, y, u]) (z : Rat) :=
 ⟨x, v, y, u, rfl, by rw [Rat.num_intCast]; exact h1, by rw [Rat.den_intCast]; exact h2⟩
theorem RatRep.mk {x v y u : Value} {n d : Int} (h1 : IntRep w (.agg #[x, v]) n) (h2 : IntRep w (.agg #[y, u]) d) (e1 : n = q.num) (e2 : d = (q.den : Int)) : RatRep w (.agg #[x, v, y, u]) q := by
 subst e1 e2; exact ⟨x, v, y, u, rfl, h1, h2⟩
theorem RatRep.n (h : RatRep w (.agg #[x, v, y, u]) q) : IntRep w (.agg #[x, v]) q.num := by
 obtain ⟨_, _, _, _, e, h1, _⟩ := h
 cases e; exact h1
theorem RatRep.d (h : RatRep w (.agg #[x, v, y, u]) q) : IntRep w (.agg #[y, u]) (q.den : Int) := by
 obtain ⟨_, _, _, _, e, _, h2⟩ := h
 cases e; exact h2
theorem RatRep.open_ (h : RatRep w V q) : ∃ b A n c d B m e, V = .agg #[.bool b, .slice A n c, .bool d, .slice B m e] := by
 obtain ⟨x, v, y, u, rfl, h1, h2⟩ := h
 obtain ⟨A, n, c, e, -⟩ := h1.open_
 obtain ⟨B, m, d, e', -⟩ := h2.open_
 cases e; cases e'
 exact ⟨_, A, n, c, _, B, m, d, rfl⟩
theorem RatArg.open_ (h : RatArg w V n1 xs n2 ys) : ∃ A n c B m d, V = .agg #[.bool n1, .slice A n c, .bool n2, .slice B m d] := by
 obtain ⟨x, v, y, u, rfl, ⟨v1, e1, h1⟩, ⟨v2, e2, h2⟩⟩ := h
 cases e1; cases e2
 obtain ⟨A, n, c, rfl, -⟩ := h1.open_
 obtain ⟨B, m, d, rfl, -⟩ := h2.open_
 exact ⟨A, n, c, B, m, d, rfl⟩
theorem RatArg.a1 (h : RatArg w (.agg #[x, v, y, u]) n1 xs n2 ys) : IntArg w (.agg #[x, v]) n1 xs := by
 obtain ⟨_, _, _, _, e, h1, _⟩ := h
 cases e; exact h1
theorem RatArg.a2 (h : RatArg w (.agg #[x, v, y, u]) n1 xs n2 ys) : IntArg w (.agg #[y, u]) n2 ys := by
 obtain ⟨_, _, _, _, e, _, h2⟩ := h
 cases e; exact h2
theorem IntArg.nn {V : Value} {neg : Bool} {xs : List Nat} (h : IntArg w V neg xs) (hl : xs.length ≤ 900000) : IntNum w V (cnt neg xs) := ⟨neg, xs, h, rfl, hl⟩
theorem RatNum.open_ (h : RatNum w V q) : ∃ b A n c d B m e, V = .agg #[.bool b, .slice A n c, .bool d, .slice B m e] := by
 obtain ⟨n1, xs, n2, ys, h, -, -⟩ := h
 obtain ⟨A, n, c, B, m, d, rfl⟩ := h.open_
 exact ⟨n1, A, n, c, n2, B, m, d, rfl⟩
end
def Same32 (w w' : World) : Prop := ∀ v xs, U32 w v xs → U32 w' v xs
theorem IntRep.map {w w' : World} {V : Value} {z : Int} (h : IntRep w V z) (hs : Same32 w w') : IntRep w' V z := by
 obtain ⟨v, rfl, hv⟩ := h
 exact ⟨v, rfl, hs _ _ hv⟩
theorem IntNum.map {w w' : World} {V : Value} {z : Int} (h : IntNum w V z) (hs : Same32 w w') : IntNum w' V z := by
 obtain ⟨neg, xs, ⟨v, rfl, hv⟩, e, l⟩ := h
 exact ⟨neg, xs, ⟨v, rfl, hs _ _ hv⟩, e, l⟩
end Go.Proofs.YtecibfncnaccjaaGreat
namespace Go.Proofs.YtecibfncnaccjaaGreat

end Go.Proofs.YtecibfncnaccjaaGreat
namespace Go.Proofs
open Go.Shelf
def Tryz.lays125_ren : Go.Shelf.Ren := ⟨fun | 125 => 129 | 128 => 151 | 129 => 152 | n => n, fun | 46 => 111 | 3 => 3 | 51 => 90 | 53 => 89 | 4 => 4 | 5 => 5 | 9 => 9 | n => n, fun | n => n⟩
theorem Tryz.lays125 : Go.Proofs.Lays.n125 Tryz.prog Tryz.lays125_ren := {
 mixed := by kernel_rfl
 f125 := Tryz.func129.trans (congrArg some (by kernel_rfl))
 f128 := Tryz.func151.trans (congrArg some (by kernel_rfl))
 f129 := Tryz.func152.trans (congrArg some (by kernel_rfl))
 t3 := Tryz.underlying3
 a3 := Tryz.isAgg3
 z3 := Tryz.sizeOf3
 v3 := Tryz.zeroValue3
 t4 := Tryz.underlying4
 a4 := Tryz.isAgg4
 z4 := Tryz.sizeOf4
 v4 := Tryz.zeroValue4
 t5 := Tryz.underlying5
 a5 := Tryz.isAgg5
 z5 := Tryz.sizeOf5
 v5 := Tryz.zeroValue5
 t9 := Tryz.underlying9
 a9 := Tryz.isAgg9
 z9 := Tryz.sizeOf9
 v9 := Tryz.zeroValue9
 t46 := Tryz.underlying111
 a46 := Tryz.isAgg111
 z46 := Tryz.sizeOf111
 v46 := Tryz.zeroValue111
 t51 := Tryz.underlying90
 a51 := Tryz.isAgg90
 z51 := Tryz.sizeOf90
 v51 := Tryz.zeroValue90
 t53 := Tryz.underlying89
 a53 := Tryz.isAgg89
 z53 := Tryz.sizeOf89
 v53 := Tryz.zeroValue89 }
theorem Tryz.bits_Len (x : Int) (w : World) (h0 : 0 ≤ x) (h1 : x ≤ 18446744073709551615) :
 Calls Tryz.prog 129 #[.int .u64 x] w fun e w' => e = .returned (.int .i64 (Lib.bitLen x.toNat)) ∧ w' = w := Any.bits_Len Tryz.lays125 x w h0 h1
def Tryz.lays212_ren : Go.Shelf.Ren := ⟨fun | 212 => 117 | 263 => 133 | 264 => 134 | n => n, fun | 46 => 111 | 51 => 90 | 146 => 123 | 53 => 89 | 148 => 125 | n => n, fun | n => n⟩
theorem Tryz.lays212 : Go.Proofs.Lays.n212 Tryz.prog Tryz.lays212_ren := {
 mixed := by kernel_rfl
 f212 := Tryz.func117.trans (congrArg some (by kernel_rfl))
 f263 := Tryz.func133.trans (congrArg some (by kernel_rfl))
 f264 := Tryz.func134.trans (congrArg some (by kernel_rfl))
 t46 := Tryz.underlying111
 a46 := Tryz.isAgg111
 z46 := Tryz.sizeOf111
 v46 := Tryz.zeroValue111
 t51 := Tryz.underlying90
 a51 := Tryz.isAgg90
 z51 := Tryz.sizeOf90
 v51 := Tryz.zeroValue90
 t53 := Tryz.underlying89
 a53 := Tryz.isAgg89
 z53 := Tryz.sizeOf89
 v53 := Tryz.zeroValue89
 t146 := Tryz.underlying123
 a146 := Tryz.isAgg123
 z146 := Tryz.sizeOf123
 v146 := Tryz.zeroValue123
 t148 := Tryz.underlying125
 a148 := Tryz.isAgg125
 z148 := Tryz.sizeOf125
 v148 := Tryz.zeroValue125 }
open Go.RowKit Go.Lib in
theorem Tryz.bits_Mul (x y : Nat) (hx : x < 18446744073709551616) (hy : y < 18446744073709551616) (w : World) :
 Calls Tryz.prog 117 #[.int .u64 x, .int .u64 y] w fun e w' => e = .returned (.tuple #[.int .u64 ((x * y / 18446744073709551616 : Nat) : Int), .int .u64 ((x * y % 18446744073709551616 : Nat) : Int)]) ∧ w' = w := Any.bits_Mul Tryz.lays212 x y hx hy w
def Tryz.lays111_ren : Go.Shelf.Ren := ⟨fun | 111 => 26 | n => n, fun | 28 => 22 | 3 => 3 | 4 => 4 | 0 => 0 | n => n, fun | n => n⟩
theorem Tryz.lays111 : Go.Proofs.Lays.n111 Tryz.prog Tryz.lays111_ren := {
 mixed := by kernel_rfl
 f111 := Tryz.func26.trans (congrArg some (by kernel_rfl))
 t0 := Tryz.underlying0
 a0 := Tryz.isAgg0
 z0 := Tryz.sizeOf0
 v0 := Tryz.zeroValue0
 t3 := Tryz.underlying3
 a3 := Tryz.isAgg3
 z3 := Tryz.sizeOf3
 v3 := Tryz.zeroValue3
 t4 := Tryz.underlying4
 a4 := Tryz.isAgg4
 z4 := Tryz.sizeOf4
 v4 := Tryz.zeroValue4
 t28 := Tryz.underlying22
 a28 := Tryz.isAgg22
 z28 := Tryz.sizeOf22
 v28 := Tryz.zeroValue22 }
open Go.RowKit Go.Lib in
theorem Tryz.slices_Equal_int (b1 o1 n c b2 o2 m d : Nat) (xs ys : List Int) (w : World) (hx : n ≤ xs.length) (hy : m ≤ ys.length) (hbig : n ≤ 9223372036854775807) (hbig2 : m ≤ 9223372036854775807) (hc1 : ∀ j, j < xs.length → w.cell? ⟨b1, o1 + j, none⟩ = some (.int .i64 (xs.getD j 0))) (hc2 : ∀ j, j < ys.length → w.cell? ⟨b2, o2 + j, none⟩ = some (.int .i64 (ys.getD j 0))) :
 Calls Tryz.prog 26 #[.slice (some ⟨b1, o1, none⟩) n c, .slice (some ⟨b2, o2, none⟩) m d] w fun e w' => e = .returned (.bool (xs.take n == ys.take m)) ∧ ∃ q, w' = w.drewN q := Any.slices_Equal_int Tryz.lays111 b1 o1 n c b2 o2 m d xs ys w hx hy hbig hbig2 hc1 hc2
open Go.RowKit Go.Lib in
theorem Tryz.slices_Equal_int_empty (a1 a2 : Option Addr) (c m d : Nat) (w : World) (hbig2 : m ≤ 9223372036854775807) :
 Calls Tryz.prog 26 #[.slice a1 0 c, .slice a2 m d] w fun e w' => e = .returned (.bool (decide (m = 0))) ∧ w' = w := Any.slices_Equal_int_empty Tryz.lays111 a1 a2 c m d w hbig2
open Go.RowKit Go.Lib in
theorem Tryz.slices_Equal_int_lens (a1 a2 : Option Addr) (n c m d : Nat) (w : World) (hnm : n ≠ m) :
 Calls Tryz.prog 26 #[.slice a1 n c, .slice a2 m d] w fun e w' => e = .returned (.bool false) ∧ w' = w := Any.slices_Equal_int_lens Tryz.lays111 a1 a2 n c m d w hnm
end Go.Proofs
namespace Go.Proofs.YtecibfncnaccjaaGreat
open Go.RowKit Go.Shelf
attribute [local go_sem] Oper.semAt_some

section
variable {W W' : World} {B b : Nat} {bs : List Value}
def Wrote (B b : Nat) (W W' : World) : Prop := Below B W W' ∧ Lib.OthersKept 5 (some b) W W'
theorem Wrote.refl (B b : Nat) (W : World) : Wrote B b W W := ⟨Below.refl _ _, Lib.OthersKept.refl _ _ _⟩
theorem Wrote.trans {W'' : World} (h : Wrote B b W W') (k : Wrote B b W' W'') : Wrote B b W W'' := ⟨h.1.trans k.1, h.2.trans k.2⟩
theorem Wrote.of (h : Keeps W W') (hB : B ≤ W.heap.size) : Wrote B b W W' :=
 ⟨h.mono hB, fun k _ hk _ _ => (h.block k ((Array.getElem?_eq_some_iff.1 hk).1)).trans hk⟩
theorem Wrote.own {k : Nat} {t : TypeId} {vs : List Value} (h : Wrote B b W W') (ho : Own W k t vs) (hk : k ≠ b) (ht : t ≠ 5) : Own W' k t vs :=
 h.2 k _ ho (by simpa using hk) (fun c fz e => ht (by cases e; rfl))
theorem Wrote.size (h : Wrote B b W W') : W.heap.size ≤ W'.heap.size := h.1.size
theorem Wrote.keeps {w : World} (h : Wrote B b W W') (hk : Keeps w W) (hB : w.heap.size ≤ B) : Keeps w W' := Below.trans hk (h.1.mono hB)
theorem Wrote.back {k : Nat} {t : TypeId} {vs : List Value} {n : Nat} (h : Wrote B b W W') (ho : Own W k t vs) (hk : k ≠ b) (ht : t ≠ 5) (hn : n ≤ B) : BackKp n k W W' :=
 ⟨h.1.mono hn, (h.own ho hk ht).trans ho.symm⟩
end
theorem TabIs.keep {P : Program} {n : String} {g : Nat} {k : IntKind} {zs : List Int} {w w' : World} (hg : P.globalNamed n = some g) (h : Lib.TabIs P w n k zs) (hb : Keeps w w') : Lib.TabIs P w' n k zs := by
 unfold Lib.TabIs World.var? at h ⊢
 rw [hg] at h ⊢
 simp only [Option.bind_some] at h ⊢
 have hlt : g < w.heap.size := by
  rcases Nat.lt_or_ge g w.heap.size with h' | h'
  ·exact h'
  ·rw [Array.getElem?_eq_none h'] at h; simp at h
 rw [hb.block g hlt]
 exact h

theorem valid_num (neg : Bool) (xs : List Nat) (V : Value) (w : World) (h : IntArg w V neg xs) (hm : xs.length ≤ 900000) : Calls Tryz.prog 118 #[V] w fun e w' => e = .returned (.bool (validB neg xs)) ∧ Keeps w w' := by
 obtain ⟨v, rfl, hv⟩ := h
 obtain ⟨A, n, c, rfl, e, -, -, -, hr⟩ := hv.open_
 exact valid_any neg A n c xs w e hr (by omega)
theorem Own.u32s {w : World} {b : Nat} {t : TypeId} {xs : List Nat} (h : Own w b t (u32s xs)) (hm : xs.length ≤ 1000000) : U32 w (.slice (some ⟨b, 0, none⟩) xs.length xs.length) xs :=
 U32.mk h.row (Nat.le_refl _) (by unfold maxLen; omega) (by intro e; cases e)


end Go.Proofs.YtecibfncnaccjaaGreat
