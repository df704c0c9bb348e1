/- The contracts once more, in one form: an api.Int that counts z. Fractions as core's Rat: what reduced, sums, products, orders come to; lengths. No program in sight. api.Rat in memory: raw arguments, canonical values. No program in sight. A store into a box of the call's own. No program in sight. Decimal texts of naturals, digit by digit and group by group. No program in sight. The shelf's contracts at this dump, laid by the kit's lay-plain.mjs, cut down to those that are used. -/
import Derived.Test.YtgcigdahjabimaaGreatDoorPk10
import Derived.Test.YtgcigdahjabimaaGreatDoorPk1
import Derived.Lib.ItoaNum
import Derived.Shelf.Strings.Builder1
import Derived.Shelf.Strings.Builder2
import Derived.Shelf.Strings.OnBuilder
import Derived.Shelf.Small.Bits
import Derived.Shelf.Small.Wraps
import Derived.Shelf.Strings.BuilderF
import Derived.Shelf.Strings.BuilderK
import Derived.Shelf.Strconv.Atoi
import Derived.Shelf.Strconv.Itoa0
import Derived.Shelf.Strconv.Itoa1
import Derived.Shelf.LaysM
import Derived.Shelf.Strconv.Itoa2
import Derived.Shelf.Strconv.Itoa3
import Derived.Shelf.Bytes.Len
import Derived.Shelf.Bytes.TryGrow
import Derived.Shelf.Bytes.GrowSliceCatch
import Derived.Shelf.Bytes.GrowSlice
import Derived.Shelf.Bytes.String
import Derived.Shelf.Strconv.AtoiErrFast
import Derived.Shelf.Strconv.ParseIntEmpty
import Derived.Shelf.Strconv.AtoiFail
import Derived.Shelf.Strconv.Clone
import Derived.Shelf.Strconv.SyntaxError
import Derived.Shelf.LaysC
import Derived.Shelf.Strconv.ToError
import Derived.Shelf.Strconv.Lower
import Derived.Shelf.Strconv.ParseUint10
import Derived.Shelf.Strconv.ParseUint10Empty
import Derived.Shelf.Strconv.ParseUint10Any
import Derived.Shelf.Strconv.ParseInt10
import Derived.Shelf.Strconv.AtoiLong
import Derived.Shelf.Strconv.AtoiInnerAll
import Derived.Shelf.Strconv.RangeError
import Derived.Shelf.Strconv.ToErrorRange
import Derived.Shelf.Strconv.AtoiAll
import Derived.Shelf.Strconv.ErrVarAll
import Derived.Shelf.Strconv.ParseUintEmpty
import Derived.Shelf.Strconv.ParseUint10b64
import Derived.Shelf.Strconv.ParseUint10b32
import Derived.Shelf.Strconv.ParseUint10b16
import Derived.Shelf.Strconv.ParseUint10b8
import Derived.Shelf.Strconv.ParseUint10At
import Derived.Ground.MpProg
import Derived.Shelf.Pu.ParseUintPublic10
import Derived.Shelf.Pu.ErrVarParseUint
import Derived.Shelf.Strings.Search1
import Derived.Shelf.Bytes.GrowRow0Kept
import Derived.Shelf.Strings.Search2
import Derived.Shelf.Bytes.GrowRowKept
import Derived.Shelf.Bytes.GrowNilKept
import Derived.Shelf.Strings.Cut
import Derived.Shelf.Bytes.GrowKept
import Derived.Shelf.Bytes.WriteByteKept
import Derived.Shelf.Strings.Shaped
import Derived.Shelf.Bytes.WriteStringKept
import Derived.Shelf.Bytes.ResetKept
import Derived.Shelf.Bytes.BufferK
import Derived.Shelf.Slices.Equal
import Derived.Ground.Names2Prog
import Derived.Shelf.Slices.SearchI
import Derived.Shelf.Slices.Empties2
import Derived.Ground.SlgnProg
import Derived.Shelf.SlicesE.Clone
import Derived.Test.YtgcigdahjabimaaGreatDoorProg
namespace Go.Proofs.YtgcigdahjabimaaGreatDoor
open Go.RowKit Go.Shelf

def IntNum (w : World) (V : Value) (z : Int) : Prop := ∃ neg xs, IntArg w V neg xs ∧ cnt neg xs = z ∧ xs.length ≤ 900000
def lenI (z : Int) : Nat := (dig z.natAbs).length
theorem IntNum.below {w w' : World} {V : Value} {z : Int} (h : IntNum w V z) (hk : Keeps w w') : IntNum w' V z := by
 obtain ⟨neg, xs, h, e, hl⟩ := h
 exact ⟨neg, xs, h.below hk, e, hl⟩
theorem IntRep.num {w : World} {V : Value} {z : Int} (h : IntRep w V z) (hl : lenI z ≤ 900000) : IntNum w V z := ⟨_, _, h.arg, cnt_rep z, hl⟩
theorem IntRep.drew {w : World} {V : Value} {z : Int} (h : IntRep w V z) : IntRep w.drew V z := h
theorem IntNum.drew {w : World} {V : Value} {z : Int} (h : IntNum w V z) : IntNum w.drew V z := h
theorem lenI_add (a b : Int) : lenI (a + b) ≤ max (lenI a) (lenI b) + 1 := rep_add_length a b
theorem lenI_mul (a b : Int) : lenI (a * b) ≤ lenI a + lenI b := by
 unfold lenI
 rw [Int.natAbs_mul]
 exact dig_length_mul _ _
theorem lenI_neg (a : Int) : lenI (-a) = lenI a := by unfold lenI; rw [Int.natAbs_neg]
theorem lenI_cnt (neg : Bool) (xs : List Nat) : lenI (cnt neg xs) ≤ xs.length := cnt_length neg xs

section
variable {V1 V2 : Value} {x y : Int} {w : World}
def Gives (z : Int) (w : World) (e : Ending) (w' : World) : Prop := ∃ V, e = .returned V ∧ IntRep w' V z ∧ Keeps w w'
theorem add_num (h1 : IntNum w V1 x) (h2 : IntNum w V2 y) : Calls Tryz.prog 95 #[V1, V2] w (Gives (x + y) w) := by
 obtain ⟨n1, xs, h1, rfl, l1⟩ := h1
 obtain ⟨n2, ys, h2, rfl, l2⟩ := h2
 exact add_any n1 n2 xs ys V1 V2 w h1 h2 (by omega) (by omega)
theorem mul_num (h1 : IntNum w V1 x) (h2 : IntNum w V2 y) : Calls Tryz.prog 94 #[V1, V2] w (Gives (x * y) w) := by
 obtain ⟨n1, xs, h1, rfl, l1⟩ := h1
 obtain ⟨n2, ys, h2, rfl, l2⟩ := h2
 exact mul_any n1 n2 xs ys V1 V2 w h1 h2 (by omega) (by omega)
theorem radd_num (h1 : IntNum w V1 x) (h2 : IntNum w V2 y) : Calls Tryz.prog 53 #[V1, V2] w (Gives (x + y) w) := by
 obtain ⟨n1, xs, h1, rfl, l1⟩ := h1
 obtain ⟨n2, ys, h2, rfl, l2⟩ := h2
 exact radd_any n1 n2 xs ys V1 V2 w h1 h2 (by omega) (by omega)
theorem rmul_num (h1 : IntNum w V1 x) (h2 : IntNum w V2 y) : Calls Tryz.prog 54 #[V1, V2] w (Gives (x * y) w) := by
 obtain ⟨n1, xs, h1, rfl, l1⟩ := h1
 obtain ⟨n2, ys, h2, rfl, l2⟩ := h2
 exact rmul_any n1 n2 xs ys V1 V2 w h1 h2 (by omega) (by omega)
theorem neg_num (h1 : IntNum w V1 x) : Calls Tryz.prog 133 #[V1] w (Gives (-x) w) := by
 obtain ⟨n1, xs, h1, rfl, l1⟩ := h1
 exact neg_any n1 xs V1 w h1 (by omega)
theorem rneg_num (h1 : IntNum w V1 x) : Calls Tryz.prog 97 #[V1] w (Gives (-x) w) := by
 obtain ⟨n1, xs, h1, rfl, l1⟩ := h1
 exact rneg_any n1 xs V1 w h1 (by omega)
theorem sign_num (h1 : IntNum w V1 x) : Calls Tryz.prog 86 #[V1] w fun e w' => e = .returned (.int .i64 x.sign) ∧ Keeps w w' := by
 obtain ⟨n1, xs, h1, rfl, l1⟩ := h1
 exact sign_any n1 xs V1 w h1 (by omega)
theorem rsign_num (h1 : IntNum w V1 x) : Calls Tryz.prog 65 #[V1] w fun e w' => e = .returned (.int .i64 x.sign) ∧ Keeps w w' := by
 obtain ⟨n1, xs, h1, rfl, l1⟩ := h1
 exact rsign_any n1 xs V1 w h1 (by omega)
theorem rcompare_num (h1 : IntNum w V1 x) (h2 : IntNum w V2 y) : Calls Tryz.prog 66 #[V1, V2] w fun e w' => e = .returned (.int .i64 (x - y).sign) ∧ Keeps w w' := by
 obtain ⟨n1, xs, h1, rfl, l1⟩ := h1
 obtain ⟨n2, ys, h2, rfl, l2⟩ := h2
 exact rcompare_any n1 n2 xs ys V1 V2 w h1 h2 (by omega) (by omega)
theorem compare_num (h1 : IntNum w V1 x) (h2 : IntNum w V2 y) : Calls Tryz.prog 87 #[V1, V2] w fun e w' => e = .returned (.int .i64 (x - y).sign) ∧ Keeps w w' := by
 obtain ⟨n1, xs, h1, rfl, l1⟩ := h1
 obtain ⟨n2, ys, h2, rfl, l2⟩ := h2
 exact compareI_any n1 n2 xs ys V1 V2 w h1 h2 (by omega) (by omega)
end
end Go.Proofs.YtgcigdahjabimaaGreatDoor
namespace Go.Proofs.YtgcigdahjabimaaGreatDoor
open Go.RowKit

theorem lenR_mono {x y : Int} (h : x.natAbs ≤ y.natAbs) : lenI x ≤ lenI y := dig_length_mono h
theorem lenI_one : lenI 1 ≤ 1 := dig_length_le (n := (1 : Int).natAbs) (k := 1) (by decide)
theorem lenI_zero : lenI 0 = 0 := by simp [lenI, dig_zero]
def szR (q : Rat) : Nat := max (lenI q.num) (lenI (q.den : Int))
theorem szR_num {q : Rat} {k : Nat} (h : szR q ≤ k) : lenI q.num ≤ k := Nat.le_trans (Nat.le_max_left _ _) h
theorem szR_den {q : Rat} {k : Nat} (h : szR q ≤ k) : lenI (q.den : Int) ≤ k := Nat.le_trans (Nat.le_max_right _ _) h
theorem szR_mk {q : Rat} {k : Nat} (h1 : lenI q.num ≤ k) (h2 : lenI (q.den : Int) ≤ k) : szR q ≤ k := Nat.max_le.2 ⟨h1, h2⟩
theorem den_posI (q : Rat) : (0 : Int) < q.den := Int.ofNat_lt.2 q.den_pos
theorem natAbs_div_le (a : Int) (g : Nat) : (a / (g : Int)).natAbs ≤ a.natAbs := by
 rcases Nat.eq_zero_or_pos g with h | h
 ·subst h; simp
 ·rcases Int.le_total 0 a with ha | ha
  ·have h1 : 0 ≤ a / (g : Int) := Int.ediv_nonneg ha (by omega)
   have h2 : a / (g : Int) ≤ a := Int.ediv_le_self _ ha
   omega
  ·have h2 : a ≤ a / (g : Int) := by
    rw [Int.le_ediv_iff_mul_le (by omega)]
    have : a * (g : Int) ≤ a * 1 := Int.mul_le_mul_of_nonpos_left ha (by omega)
    omega
   have h1 : a / (g : Int) ≤ 0 := by
    have := Int.ediv_le_ediv (c := (g : Int)) (by omega) ha
    simpa using this
   omega
theorem szR_divInt (a b : Int) (hb : b ≠ 0) : szR (Rat.divInt a b) ≤ max (lenI a) (lenI b) := by
 have h1 : (Rat.divInt a b).num.natAbs ≤ a.natAbs := by
  rw [Rat.num_divInt]
  refine Nat.le_trans (natAbs_div_le _ _) ?_
  rw [Int.natAbs_mul, Int.natAbs_sign_of_ne_zero hb, Nat.one_mul]
  exact Nat.le_refl _
 have h2 : ((Rat.divInt a b).den : Int).natAbs ≤ b.natAbs := by
  rw [Int.natAbs_natCast, Rat.den_divInt, if_neg hb]; exact Nat.div_le_self _ _
 exact szR_mk (Nat.le_trans (lenR_mono h1) (Nat.le_max_left _ _)) (Nat.le_trans (lenR_mono h2) (Nat.le_max_right _ _))
theorem red_pos {a b : Int} (hb : 0 < b) : a.fdiv (Int.gcd a b : Nat) = (Rat.divInt a b).num ∧ b.fdiv (Int.gcd a b : Nat) = ((Rat.divInt a b).den : Int) := by
 have hg : (0 : Int) ≤ (Int.gcd a b : Nat) := by omega
 rw [Rat.num_divInt, Rat.den_divInt, if_neg (by omega), Int.sign_eq_one_of_pos hb, Int.one_mul, Int.gcd_comm b a]
 refine ⟨Int.fdiv_eq_ediv_of_nonneg _ hg, ?_⟩
 rw [Int.fdiv_eq_ediv_of_nonneg _ hg, Int.natCast_ediv]
 congr 1
 omega
theorem red_neg {a b : Int} (hb : b < 0) : (-a).fdiv (Int.gcd (-a) (-b) : Nat) = (Rat.divInt a b).num ∧ (-b).fdiv (Int.gcd (-a) (-b) : Nat) = ((Rat.divInt a b).den : Int) := by
 rw [← Rat.neg_divInt_neg a b]
 exact red_pos (by omega)
theorem red_ref {a b : Int} (hb : b < 0) : a.fdiv (-(Int.gcd a b : Nat)) = (Rat.divInt a b).num ∧ b.fdiv (-(Int.gcd a b : Nat)) = ((Rat.divInt a b).den : Int) := by
 obtain ⟨h1, h2⟩ := red_neg (a := a) hb
 rw [Int.gcd_neg, Int.neg_gcd] at h1 h2
 rw [← h1, ← h2]
 refine ⟨?_, ?_⟩
 ·rw [← Int.neg_fdiv_neg, Int.neg_neg]
 ·rw [← Int.neg_fdiv_neg, Int.neg_neg]
theorem add_divInt (x y : Rat) : x + y = Rat.divInt (x.num * y.den + y.num * x.den) (x.den * y.den) := by
 rw [Rat.add_def', ← Rat.divInt_ofNat, Int.natCast_mul]
theorem sub_divInt (x y : Rat) : x - y = Rat.divInt (x.num * y.den - y.num * x.den) (x.den * y.den) := by
 rw [Rat.sub_def', ← Rat.divInt_ofNat, Int.natCast_mul]
theorem mul_divInt (x y : Rat) : x * y = Rat.divInt (x.num * y.num) (x.den * y.den) := by
 rw [Rat.mul_def', ← Rat.divInt_ofNat, Int.natCast_mul]
def cmpR (x y : Rat) : Int := (x.num * y.den - y.num * x.den).sign
theorem sign_ediv_gcd (n : Int) (g : Nat) (hg : 0 < g) (h : (g : Int) ∣ n) : (n / (g : Int)).sign = n.sign := by
 obtain ⟨k, rfl⟩ := h
 rw [Int.mul_ediv_cancel_left _ (by omega), Int.sign_mul, Int.sign_eq_one_of_pos (a := (g : Int)) (by omega), Int.one_mul]
theorem sign_divInt (a b : Int) (hb : 0 < b) : (Rat.divInt a b).num.sign = a.sign := by
 rw [Rat.num_divInt, Int.sign_eq_one_of_pos hb, Int.one_mul]
 exact sign_ediv_gcd a _ (Int.gcd_pos_of_ne_zero_left _ (by omega)) (Int.gcd_dvd_right ..)
theorem den_mul_pos (x y : Rat) : (0 : Int) < x.den * y.den := Int.mul_pos (den_posI x) (den_posI y)
theorem rat_sub_sign (x y : Rat) : (x - y).num.sign = cmpR x y := by
 rw [sub_divInt, sign_divInt _ _ (den_mul_pos x y)]; rfl
theorem cmpR_pos (x y : Rat) : 0 < cmpR x y ↔ y < x := by
 rw [Rat.lt_iff]
 unfold cmpR
 constructor
 ·intro h
  have := Int.sign_eq_one_iff_pos.1 (show (x.num * y.den - y.num * x.den).sign = 1 by
   rcases Int.lt_trichotomy (x.num * y.den - y.num * x.den) 0 with h1 | h1 | h1
   ·rw [Int.sign_eq_neg_one_of_neg h1] at h; omega
   ·rw [h1] at h; simp at h
   ·exact Int.sign_eq_one_of_pos h1)
  omega
 ·intro h
  rw [Int.sign_eq_one_of_pos (by omega)]; omega
theorem cmpR_neg (x y : Rat) : cmpR x y = -cmpR y x := by
 unfold cmpR
 rw [← Int.sign_neg, Int.neg_sub]
theorem cmpR_lt (x y : Rat) : cmpR x y < 0 ↔ x < y := by rw [cmpR_neg, ← cmpR_pos]; omega
theorem cmpR_zero (x y : Rat) : cmpR x y = 0 ↔ x = y := by
 unfold cmpR
 rw [Int.sign_eq_zero_iff_zero, Rat.eq_iff_mul_eq_mul]
 omega
theorem szR_add (x y : Rat) : szR (x + y) ≤ szR x + szR y + 1 := by
 have h := szR_divInt (x.num * y.den + y.num * x.den) (x.den * y.den) (by have := den_mul_pos x y; omega)
 rw [← add_divInt] at h
 have h1 := lenI_add (x.num * y.den) (y.num * x.den)
 have h2 := lenI_mul x.num y.den
 have h3 := lenI_mul y.num x.den
 have h4 := lenI_mul x.den y.den
 have a1 := szR_num (Nat.le_refl (szR x))
 have a2 := szR_den (Nat.le_refl (szR x))
 have b1 := szR_num (Nat.le_refl (szR y))
 have b2 := szR_den (Nat.le_refl (szR y))
 omega
theorem szR_mul (x y : Rat) : szR (x * y) ≤ szR x + szR y := by
 have h := szR_divInt (x.num * y.num) (x.den * y.den) (by have := den_mul_pos x y; omega)
 rw [← mul_divInt] at h
 have h2 := lenI_mul x.num y.num
 have h4 := lenI_mul x.den y.den
 have a1 := szR_num (Nat.le_refl (szR x))
 have a2 := szR_den (Nat.le_refl (szR x))
 have b1 := szR_num (Nat.le_refl (szR y))
 have b2 := szR_den (Nat.le_refl (szR y))
 omega
theorem szR_neg (x : Rat) : szR (-x) = szR x := by unfold szR; rw [Rat.neg_num, Rat.neg_den, lenI_neg]
theorem szR_sub (x y : Rat) : szR (x - y) ≤ szR x + szR y + 1 := by
 have := szR_add x (-y)
 rwa [szR_neg, ← Rat.sub_eq_add_neg] at this
theorem szR_int (n : Int) : szR (n : Rat) ≤ max (lenI n) 1 := by
 refine szR_mk ?_ ?_
 ·rw [Rat.num_intCast]; omega
 ·rw [Rat.den_intCast]
  exact Nat.le_trans lenI_one (Nat.le_max_right _ _)
theorem divInt_fields {a b : Int} (hb : 0 < b) (hg : Int.gcd a b = 1) : (Rat.divInt a b).num = a ∧ ((Rat.divInt a b).den : Int) = b := by
 obtain ⟨h1, h2⟩ := red_pos (a := a) hb
 rw [hg] at h1 h2
 rw [← h1, ← h2]
 refine ⟨?_, ?_⟩ <;> exact Int.fdiv_one _
theorem gcd_fields (q : Rat) : Int.gcd q.num q.den = 1 := q.reduced
def RatRep (w : World) (V : Value) (q : Rat) : Prop := ∃ x v y u, V = .agg #[x, v, y, u] ∧ IntRep w (.agg #[x, v]) q.num ∧ IntRep w (.agg #[y, u]) (q.den : Int)
def RatArg (w : World) (V : Value) (n1 : Bool) (xs : List Nat) (n2 : Bool) (ys : List Nat) : Prop := ∃ x v y u, V = .agg #[x, v, y, u] ∧ IntArg w (.agg #[x, v]) n1 xs ∧ IntArg w (.agg #[y, u]) n2 ys
def rvalidB (n1 : Bool) (xs : List Nat) (n2 : Bool) (ys : List Nat) : Bool :=
 validB n1 xs && (validB n2 ys && (decide (0 < cnt n2 ys) && decide (Int.gcd (cnt n1 xs) (cnt n2 ys) = 1)))
def rcnt (n1 : Bool) (xs : List Nat) (n2 : Bool) (ys : List Nat) : Rat := if rvalidB n1 xs n2 ys then Rat.divInt (cnt n1 xs) (cnt n2 ys) else 0
def RatNum (w : World) (V : Value) (q : Rat) : Prop := ∃ n1 xs n2 ys, RatArg w V n1 xs n2 ys ∧ rcnt n1 xs n2 ys = q ∧ xs.length ≤ 100000 ∧ ys.length ≤ 100000
def RGives (q : Rat) (w : World) (e : Ending) (w' : World) : Prop := ∃ V, e = .returned V ∧ RatRep w' V q ∧ Keeps w w'
section
variable {w w' : World} {V x v y u : Value} {q : Rat} {n1 n2 : Bool} {xs ys : List Nat}
theorem RatRep.below (h : RatRep w V q) (hk : Keeps w w') : RatRep w' V q := by
 obtain ⟨x, v, y, u, rfl, h1, h2⟩ := h
 exact ⟨x, v, y, u, rfl, h1.below hk, h2.below hk⟩
theorem RatRep.drew (h : RatRep w V q) : RatRep w.drew V q := h
theorem RatArg.below (h : RatArg w V n1 xs n2 ys) (hk : Keeps w w') : RatArg w' V n1 xs n2 ys := by
 obtain ⟨x, v, y, u, rfl, h1, h2⟩ := h
 exact ⟨x, v, y, u, rfl, h1.below hk, h2.below hk⟩
theorem RatNum.below (h : RatNum w V q) (hk : Keeps w w') : RatNum w' V q := by
 obtain ⟨n1, xs, n2, ys, h, e, l⟩ := h
 exact ⟨n1, xs, n2, ys, h.below hk, e, l⟩
theorem RatNum.drew (h : RatNum w V q) : RatNum w.drew V q := h
theorem rvalidB_rep (q : Rat) : rvalidB (decide (q.num < 0)) (dig q.num.natAbs) (decide ((q.den : Int) < 0)) (dig (q.den : Int).natAbs) = true := by
 unfold rvalidB
 rw [validB_rep, validB_rep, cnt_rep, cnt_rep, decide_eq_true (den_posI q), decide_eq_true (gcd_fields q)]
 rfl
theorem rcnt_rep (q : Rat) : rcnt (decide (q.num < 0)) (dig q.num.natAbs) (decide ((q.den : Int) < 0)) (dig (q.den : Int).natAbs) = q := by
 unfold rcnt
 rw [if_pos (rvalidB_rep q), cnt_rep, cnt_rep, Rat.num_divInt_den]
theorem RatRep.num (h : RatRep w V q) (hl : szR q ≤ 100000) : RatNum w V q := by
 obtain ⟨x, v, y, u, rfl, h1, h2⟩ := h
 exact ⟨_, _, _, _, ⟨x, v, y, u, rfl, h1.arg, h2.arg⟩, rcnt_rep q, szR_num hl, szR_den hl⟩
theorem rcnt_true (h : rvalidB n1 xs n2 ys = true) : (rcnt n1 xs n2 ys).num = cnt n1 xs ∧ ((rcnt n1 xs n2 ys).den : Int) = cnt n2 ys := by
 unfold rcnt
 rw [if_pos h]
 unfold rvalidB at h
 simp only [Bool.and_eq_true, decide_eq_true_eq] at h
 exact divInt_fields h.2.2.1 h.2.2.2
theorem rcnt_false (h : rvalidB n1 xs n2 ys = false) : rcnt n1 xs n2 ys = 0 := if_neg (by rw [h]; decide)
theorem szR_rcnt : szR (rcnt n1 xs n2 ys) ≤ max (max xs.length ys.length) 1 := by
 cases h : rvalidB n1 xs n2 ys with
 | true =>
  obtain ⟨h1, h2⟩ := rcnt_true h
  refine szR_mk ?_ ?_
  ·rw [h1]; have := lenI_cnt n1 xs; omega
  ·rw [h2]; have := lenI_cnt n2 ys; omega
 | false =>
  rw [rcnt_false h]
  refine szR_mk ?_ ?_
  ·rw [Rat.zero_num, lenI_zero]; omega
  ·rw [Rat.zero_den]; exact Nat.le_trans lenI_one (Nat.le_max_right _ _)
theorem RatNum.sz (h : RatNum w V q) : szR q ≤ 100000 := by
 obtain ⟨n1, xs, n2, ys, -, rfl, l1, l2⟩ := h
 have := szR_rcnt (n1 := n1) (xs := xs) (n2 := n2) (ys := ys)
 omega
theorem RatRep.whole {x v y u : Value} {z : Int} (h1 : IntRep w (.agg #[x, v]) z) (h2 : IntRep w (.agg #[y, u]) 1) : RatRep w (.agg #[x, v, y, u]) (z : Rat) :=
 ⟨x, v, y, u, rfl, by rw [Rat.num_intCast]; exact h1, by rw [Rat.den_intCast]; exact h2⟩
theorem RatRep.mk {x v y u : Value} {n d : Int} (h1 : IntRep w (.agg #[x, v]) n) (h2 : IntRep w (.agg #[y, u]) d) (e1 : n = q.num) (e2 : d = (q.den : Int)) : RatRep w (.agg #[x, v, y, u]) q := by
 subst e1 e2; exact ⟨x, v, y, u, rfl, h1, h2⟩
theorem RatRep.n (h : RatRep w (.agg #[x, v, y, u]) q) : IntRep w (.agg #[x, v]) q.num := by
 obtain ⟨_, _, _, _, e, h1, _⟩ := h
 cases e; exact h1
theorem RatRep.d (h : RatRep w (.agg #[x, v, y, u]) q) : IntRep w (.agg #[y, u]) (q.den : Int) := by
 obtain ⟨_, _, _, _, e, _, h2⟩ := h
 cases e; exact h2
theorem RatRep.open_ (h : RatRep w V q) : ∃ b A n c d B m e, V = .agg #[.bool b, .slice A n c, .bool d, .slice B m e] := by
 obtain ⟨x, v, y, u, rfl, h1, h2⟩ := h
 obtain ⟨A, n, c, e, -⟩ := h1.open_
 obtain ⟨B, m, d, e', -⟩ := h2.open_
 cases e; cases e'
 exact ⟨_, A, n, c, _, B, m, d, rfl⟩
theorem RatArg.open_ (h : RatArg w V n1 xs n2 ys) : ∃ A n c B m d, V = .agg #[.bool n1, .slice A n c, .bool n2, .slice B m d] := by
 obtain ⟨x, v, y, u, rfl, ⟨v1, e1, h1⟩, ⟨v2, e2, h2⟩⟩ := h
 cases e1; cases e2
 obtain ⟨A, n, c, rfl, -⟩ := h1.open_
 obtain ⟨B, m, d, rfl, -⟩ := h2.open_
 exact ⟨A, n, c, B, m, d, rfl⟩
theorem RatArg.a1 (h : RatArg w (.agg #[x, v, y, u]) n1 xs n2 ys) : IntArg w (.agg #[x, v]) n1 xs := by
 obtain ⟨_, _, _, _, e, h1, _⟩ := h
 cases e; exact h1
theorem RatArg.a2 (h : RatArg w (.agg #[x, v, y, u]) n1 xs n2 ys) : IntArg w (.agg #[y, u]) n2 ys := by
 obtain ⟨_, _, _, _, e, _, h2⟩ := h
 cases e; exact h2
theorem IntArg.nn {V : Value} {neg : Bool} {xs : List Nat} (h : IntArg w V neg xs) (hl : xs.length ≤ 900000) : IntNum w V (cnt neg xs) := ⟨neg, xs, h, rfl, hl⟩
theorem RatNum.open_ (h : RatNum w V q) : ∃ b A n c d B m e, V = .agg #[.bool b, .slice A n c, .bool d, .slice B m e] := by
 obtain ⟨n1, xs, n2, ys, h, -, -⟩ := h
 obtain ⟨A, n, c, B, m, d, rfl⟩ := h.open_
 exact ⟨n1, A, n, c, n2, B, m, d, rfl⟩
end
def Same32 (w w' : World) : Prop := ∀ v xs, U32 w v xs → U32 w' v xs
theorem IntRep.map {w w' : World} {V : Value} {z : Int} (h : IntRep w V z) (hs : Same32 w w') : IntRep w' V z := by
 obtain ⟨v, rfl, hv⟩ := h
 exact ⟨v, rfl, hs _ _ hv⟩
theorem IntNum.map {w w' : World} {V : Value} {z : Int} (h : IntNum w V z) (hs : Same32 w w') : IntNum w' V z := by
 obtain ⟨neg, xs, ⟨v, rfl, hv⟩, e, l⟩ := h
 exact ⟨neg, xs, ⟨v, rfl, hs _ _ hv⟩, e, l⟩
end Go.Proofs.YtgcigdahjabimaaGreatDoor
namespace Go.Proofs.YtgcigdahjabimaaGreatDoor

def dch (x : Nat) : UInt8 := UInt8.ofNat (48 + x % 10)
def low : Nat → Nat → List UInt8
 | 0, _ => []
 | k + 1, x => low k (x / 10) ++ [dch x]
def txt (m : Nat) : List UInt8 := if m = 0 then [] else Lib.decDigits m
def textL (z : Int) : List UInt8 := if z = 0 then [48] else (if z < 0 then [45] else []) ++ Lib.decDigits z.natAbs

theorem low_length : ∀ k x, (low k x).length = k
 | 0, _ => rfl
 | k + 1, x => by rw [low, List.length_append, low_length k]; rfl
theorem low_zero : ∀ k, low k 0 = List.replicate k 48
 | 0 => rfl
 | k + 1 => by rw [low, show (0 : Nat) / 10 = 0 from rfl, low_zero k, List.replicate_succ']; rfl
theorem txt_step (m : Nat) (h : 0 < m) : txt m = txt (m / 10) ++ [dch m] := by
 unfold txt
 rw [if_neg (by omega), Lib.decDigits]
 by_cases h10 : m < 10
 ·rw [dif_pos h10, if_pos (by omega)]
  simp [dch, Nat.mod_eq_of_lt h10]
 ·rw [dif_neg h10, if_neg (by omega)]; rfl
theorem txt_group : ∀ (k V x : Nat), 0 < V → x < 10 ^ k → txt (V * 10 ^ k + x) = txt V ++ low k x
 | 0, V, x, _, hx => by
  obtain rfl : x = 0 := by simpa using hx
  simp [low]
 | k + 1, V, x, hV, hx => by
  have hp : 0 < V * 10 ^ (k + 1) := Nat.mul_pos hV (Nat.pow_pos (by omega))
  rw [txt_step _ (by omega), low]
  have e1 : (V * 10 ^ (k + 1) + x) / 10 = V * 10 ^ k + x / 10 := by
   rw [Nat.pow_succ, ← Nat.mul_assoc, Nat.mul_comm (V * 10 ^ k) 10, Nat.mul_add_div (by omega)]
  have e2 : dch (V * 10 ^ (k + 1) + x) = dch x := by
   unfold dch
   rw [Nat.pow_succ, ← Nat.mul_assoc, Nat.mul_comm (V * 10 ^ k) 10, Nat.mul_add_mod]
  rw [e1, e2, txt_group k V (x / 10) hV (by rw [Nat.pow_succ] at hx; omega), List.append_assoc]
theorem pad_low : ∀ (k x : Nat), x < 10 ^ k → 0 < k → List.replicate (k - (Lib.decDigits x).length) 48 ++ Lib.decDigits x = low k x
 | k + 1, x, hx, _ => by
  rw [low]
  by_cases h10 : x < 10
  ·rw [Lib.decDigits, dif_pos h10, show x / 10 = 0 by omega, low_zero]
   simp [dch, Nat.mod_eq_of_lt h10]
  ·rw [Lib.decDigits, dif_neg h10]
   have hk : 0 < k := Nat.pos_of_ne_zero fun e => by subst e; simp at hx; omega
   rw [← pad_low k (x / 10) (by rw [Nat.pow_succ] at hx; omega) hk]
   simp only [List.length_append, List.length_cons, List.length_nil, List.append_assoc]
   rw [show k + 1 - ((Lib.decDigits (x / 10)).length + (0 + 1)) = k - (Lib.decDigits (x / 10)).length by omega]
   rfl
theorem decDigits_len (x : Nat) (h : x < 1000000000) : (Lib.decDigits x).length ≤ 9 ∧ 0 < (Lib.decDigits x).length := by
 have h1 := congrArg List.length (pad_low 9 x (by omega) (by omega))
 rw [List.length_append, List.length_replicate, low_length] at h1
 refine ⟨by omega, ?_⟩
 rw [Lib.decDigits]
 split <;> simp
theorem txt_pos (m : Nat) (h : m ≠ 0) : txt m = Lib.decDigits m := if_neg h
theorem txt_pad (V x : Nat) (hV : 0 < V) (hx : x < 1000000000) : txt (V * 1000000000 + x) = txt V ++ (List.replicate (9 - (Lib.decDigits x).length) 48 ++ Lib.decDigits x) := by
 rw [pad_low 9 x (by omega) (by omega), ← txt_group 9 V x hV (by omega)]
theorem drop_pos (m q : Nat) (h : q < (dig m).length) : 0 < val ((dig m).drop q) := by
 rcases Nat.eq_zero_or_pos (val ((dig m).drop q)) with h0 | h0
 ·have h1 := val_split (dig m) q (by omega)
  rw [h0, Nat.mul_zero, Nat.add_zero, val_dig] at h1
  have h2 := val_lt ((AllB.dig m).take q)
  rw [List.length_take, Nat.min_eq_left (by omega), ← h1] at h2
  have h3 := dig_length_le h2
  omega
 ·exact h0
theorem txt_len : ∀ (K m : Nat), m < 10 ^ K → (txt m).length ≤ K
 | 0, m, h => by
  obtain rfl : m = 0 := by simpa using h
  simp [txt]
 | K + 1, m, h => by
  rcases Nat.eq_zero_or_pos m with rfl | hp
  ·simp [txt]
  ·rw [txt_step m hp, List.length_append]
   have := txt_len K (m / 10) (by rw [Nat.pow_succ] at h; omega)
   simp only [List.length_cons, List.length_nil]
   omega
theorem txt_drop_len (m j : Nat) : (txt (val ((dig m).drop j))).length ≤ 9 * (dig m).length := by
 have h := val_lt ((AllB.dig m).drop j)
 have h2 := txt_len (9 * ((dig m).drop j).length) _ (by rw [Nat.pow_mul]; exact h)
 rw [List.length_drop] at h2
 omega
def padN (k L : Nat) : Nat := if k = 0 then 0 else 9 - L
theorem txt_round (m n k q : Nat) (hn : (dig m).length = n) (hk : k < n) (hq : n - 1 - k = q) :
 txt (val ((dig m).drop (n - (k + 1)))) = txt (val ((dig m).drop (n - k))) ++ (List.replicate (padN k (Lib.decDigits (ix (dig m) q)).length) 48 ++ Lib.decDigits (ix (dig m) q)) := by
 have hd := val_drop (dig m) q (by omega)
 rw [show n - (k + 1) = q by omega, hd, show n - k = q + 1 by omega]
 unfold padN
 by_cases h0 : k = 0
 ·have h1 : val ((dig m).drop (q + 1)) = 0 := by rw [List.drop_of_length_le (by omega)]; simp [val]
  have h2 := drop_pos m q (by omega)
  rw [hd, h1] at h2
  rw [if_pos h0, h1, Nat.mul_zero, Nat.add_zero, txt_pos _ (by omega)]
  simp [txt]
 ·rw [if_neg h0, Nat.add_comm, Nat.mul_comm, txt_pad _ _ (drop_pos m (q + 1) (by omega)) ((AllB.dig m).ix q)]
end Go.Proofs.YtgcigdahjabimaaGreatDoor
namespace Go.Proofs
open Go.Shelf
def Tryz.lays169_ren : Go.Shelf.Ren := ⟨fun | 169 => 82 | n => n, fun | 70 => 98 | 9 => 9 | 0 => 0 | 72 => 101 | 37 => 99 | 127 => 133 | 3 => 3 | 5 => 5 | n => n, fun | n => n⟩
theorem Tryz.lays169 : Go.Proofs.Lays.n169 Tryz.prog Tryz.lays169_ren := {
 mixed := by kernel_rfl
 f169 := Tryz.func82.trans (congrArg some (by kernel_rfl))
 t0 := Tryz.underlying0
 a0 := Tryz.isAgg0
 z0 := Tryz.sizeOf0
 v0 := Tryz.zeroValue0
 t3 := Tryz.underlying3
 a3 := Tryz.isAgg3
 z3 := Tryz.sizeOf3
 v3 := Tryz.zeroValue3
 t9 := Tryz.underlying9
 a9 := Tryz.isAgg9
 z9 := Tryz.sizeOf9
 v9 := Tryz.zeroValue9
 t37 := Tryz.underlying99
 a37 := Tryz.isAgg99
 z37 := Tryz.sizeOf99
 v37 := Tryz.zeroValue99
 t70 := Tryz.underlying98
 a70 := Tryz.isAgg98
 z70 := Tryz.sizeOf98
 v70 := Tryz.zeroValue98
 t72 := Tryz.underlying101
 a72 := Tryz.isAgg101
 z72 := Tryz.sizeOf101
 v72 := Tryz.zeroValue101
 t127 := Tryz.underlying133
 a127 := Tryz.isAgg133
 z127 := Tryz.sizeOf133
 v127 := Tryz.zeroValue133 }
theorem Tryz.Builder_Extra_169 : Builder.Extra Tryz.prog Tryz.lays169_ren := {
 sizeBuilder := by kernel_rfl
 liesBuilder := by kernel_rfl
 t5 := Tryz.underlying5
 a5 := Tryz.isAgg5
 z5 := Tryz.sizeOf5
 v5 := Tryz.zeroValue5
 infoByte := by kernel_rfl
 cellsByte := by kernel_rfl
 sizeByte := by kernel_rfl
 neB5 := by decide }
open Go.RowKit in
theorem Tryz.Builder_String_any (B b : Nat) (l : List UInt8) (w : World) (h : Lib.IsBuilder 101 5 B b (Lib.byteCells l) w) (hBw : B ≤ w.heap.size) :
 Calls Tryz.prog 82 #[.pointer (some ⟨b, 0, none⟩)] w fun e w' => e = .returned (.string ⟨l.toArray⟩) ∧ Below B w w' := Any.Builder_String_any Tryz.lays169 Tryz.Builder_Extra_169 B b l w h hBw
def Tryz.lays156_ren : Go.Shelf.Ren := ⟨fun | 156 => 79 | 165 => 122 | 166 => 78 | 169 => 82 | 240 => 121 | 241 => 163 | 276 => 162 | 277 => 189 | n => n, fun | 31 => 87 | 9 => 9 | 3 => 3 | 4 => 4 | 0 => 0 | 20 => 20 | 72 => 101 | 76 => 95 | 70 => 98 | 37 => 99 | 75 => 94 | 127 => 133 | 164 => 164 | 5 => 5 | 80 => 86 | n => n, fun | n => n⟩
theorem Tryz.lays156 : Go.Proofs.Lays.n156 Tryz.prog Tryz.lays156_ren := {
 mixed := by kernel_rfl
 f156 := Tryz.func79.trans (congrArg some (by kernel_rfl))
 f165 := Tryz.func122.trans (congrArg some (by kernel_rfl))
 f166 := Tryz.func78.trans (congrArg some (by kernel_rfl))
 f169 := Tryz.func82.trans (congrArg some (by kernel_rfl))
 f240 := Tryz.func121.trans (congrArg some (by kernel_rfl))
 f241 := Tryz.func163.trans (congrArg some (by kernel_rfl))
 f276 := Tryz.func162.trans (congrArg some (by kernel_rfl))
 f277 := Tryz.func189.trans (congrArg some (by kernel_rfl))
 t0 := Tryz.underlying0
 a0 := Tryz.isAgg0
 z0 := Tryz.sizeOf0
 v0 := Tryz.zeroValue0
 t3 := Tryz.underlying3
 a3 := Tryz.isAgg3
 z3 := Tryz.sizeOf3
 v3 := Tryz.zeroValue3
 t4 := Tryz.underlying4
 a4 := Tryz.isAgg4
 z4 := Tryz.sizeOf4
 v4 := Tryz.zeroValue4
 t9 := Tryz.underlying9
 a9 := Tryz.isAgg9
 z9 := Tryz.sizeOf9
 v9 := Tryz.zeroValue9
 t20 := Tryz.underlying20
 a20 := Tryz.isAgg20
 z20 := Tryz.sizeOf20
 v20 := Tryz.zeroValue20
 t31 := Tryz.underlying87
 a31 := Tryz.isAgg87
 z31 := Tryz.sizeOf87
 v31 := Tryz.zeroValue87
 t37 := Tryz.underlying99
 a37 := Tryz.isAgg99
 z37 := Tryz.sizeOf99
 v37 := Tryz.zeroValue99
 t70 := Tryz.underlying98
 a70 := Tryz.isAgg98
 z70 := Tryz.sizeOf98
 v70 := Tryz.zeroValue98
 t72 := Tryz.underlying101
 a72 := Tryz.isAgg101
 z72 := Tryz.sizeOf101
 v72 := Tryz.zeroValue101
 t75 := Tryz.underlying94
 a75 := Tryz.isAgg94
 z75 := Tryz.sizeOf94
 v75 := Tryz.zeroValue94
 t76 := Tryz.underlying95
 a76 := Tryz.isAgg95
 z76 := Tryz.sizeOf95
 v76 := Tryz.zeroValue95
 t127 := Tryz.underlying133
 a127 := Tryz.isAgg133
 z127 := Tryz.sizeOf133
 v127 := Tryz.zeroValue133
 t164 := Tryz.underlying164
 a164 := Tryz.isAgg164
 z164 := Tryz.sizeOf164
 v164 := Tryz.zeroValue164 }
theorem Tryz.Builder_Extra_156 : Builder.Extra Tryz.prog Tryz.lays156_ren := {
 sizeBuilder := by kernel_rfl
 liesBuilder := by kernel_rfl
 t5 := Tryz.underlying5
 a5 := Tryz.isAgg5
 z5 := Tryz.sizeOf5
 v5 := Tryz.zeroValue5
 infoByte := by kernel_rfl
 cellsByte := by kernel_rfl
 sizeByte := by kernel_rfl
 neB5 := by decide }
open Go.RowKit in
theorem Tryz.strings_Join (bk o c : Nat) (xs : List ByteArray) (sep : ByteArray) (w : World) (hcells : ∀ (j : Nat) x, xs[j]? = some x → w.cell? ⟨bk, o + j, none⟩ = some (.string x)) (hbk : bk < w.heap.size) (hN : xs.length ≤ 140737488355328) (hcap : xs.length ≤ c) (hlen : (Lib.join (xs.map (·.data.toList)) sep.data.toList).length ≤ 140737488355328) :
 Calls Tryz.prog 79 #[.slice (some ⟨bk, o, none⟩) xs.length c, .string sep] w fun e w' => e = .returned (.string ⟨(Lib.join (xs.map (·.data.toList)) sep.data.toList).toArray⟩) ∧ Below w.heap.size w w' := Any.strings_Join Tryz.lays156 Tryz.Builder_Extra_156 bk o c xs sep w hcells hbk hN hcap hlen
def Tryz.lays125_ren : Go.Shelf.Ren := ⟨fun | 125 => 105 | 128 => 147 | 129 => 148 | n => n, fun | 46 => 121 | 3 => 3 | 51 => 109 | 53 => 111 | 4 => 4 | 5 => 5 | 9 => 9 | n => n, fun | n => n⟩
theorem Tryz.lays125 : Go.Proofs.Lays.n125 Tryz.prog Tryz.lays125_ren := {
 mixed := by kernel_rfl
 f125 := Tryz.func105.trans (congrArg some (by kernel_rfl))
 f128 := Tryz.func147.trans (congrArg some (by kernel_rfl))
 f129 := Tryz.func148.trans (congrArg some (by kernel_rfl))
 t3 := Tryz.underlying3
 a3 := Tryz.isAgg3
 z3 := Tryz.sizeOf3
 v3 := Tryz.zeroValue3
 t4 := Tryz.underlying4
 a4 := Tryz.isAgg4
 z4 := Tryz.sizeOf4
 v4 := Tryz.zeroValue4
 t5 := Tryz.underlying5
 a5 := Tryz.isAgg5
 z5 := Tryz.sizeOf5
 v5 := Tryz.zeroValue5
 t9 := Tryz.underlying9
 a9 := Tryz.isAgg9
 z9 := Tryz.sizeOf9
 v9 := Tryz.zeroValue9
 t46 := Tryz.underlying121
 a46 := Tryz.isAgg121
 z46 := Tryz.sizeOf121
 v46 := Tryz.zeroValue121
 t51 := Tryz.underlying109
 a51 := Tryz.isAgg109
 z51 := Tryz.sizeOf109
 v51 := Tryz.zeroValue109
 t53 := Tryz.underlying111
 a53 := Tryz.isAgg111
 z53 := Tryz.sizeOf111
 v53 := Tryz.zeroValue111 }
theorem Tryz.bits_Len (x : Int) (w : World) (h0 : 0 ≤ x) (h1 : x ≤ 18446744073709551615) :
 Calls Tryz.prog 105 #[.int .u64 x] w fun e w' => e = .returned (.int .i64 (Lib.bitLen x.toNat)) ∧ w' = w := Any.bits_Len Tryz.lays125 x w h0 h1
def Tryz.laysM171_ren : Go.Shelf.Ren := ⟨fun | 171 => 80 | 243 => 123 | 246 => 164 | 283 => 190 | 284 => 191 | 285 => 192 | 286 => 193 | 129 => 148 | 317 => 204 | 318 => 205 | 319 => 206 | 320 => 207 | 337 => 211 | 338 => 212 | n => n, fun | 3 => 3 | 9 => 9 | 2 => 2 | 4 => 4 | 171 => 191 | 0 => 0 | 53 => 111 | 37 => 99 | 5 => 5 | 173 => 193 | 212 => 209 | 51 => 109 | 20 => 20 | 213 => 210 | 46 => 121 | 232 => 213 | 233 => 214 | n => n, fun | 17 => 3 | 18 => 5 | 19 => 6 | n => n⟩
theorem Tryz.laysM171 : Go.Proofs.LaysM.n171 Tryz.prog Tryz.laysM171_ren := {
 mixed := by kernel_rfl
 f129 := Tryz.func148.trans (congrArg some (by kernel_rfl))
 f171 := Tryz.func80.trans (congrArg some (by kernel_rfl))
 f243 := Tryz.func123.trans (congrArg some (by kernel_rfl))
 f246 := Tryz.func164.trans (congrArg some (by kernel_rfl))
 f283 := Tryz.func190.trans (congrArg some (by kernel_rfl))
 f284 := Tryz.func191.trans (congrArg some (by kernel_rfl))
 f285 := Tryz.func192.trans (congrArg some (by kernel_rfl))
 f286 := Tryz.func193.trans (congrArg some (by kernel_rfl))
 f317 := Tryz.func204.trans (congrArg some (by kernel_rfl))
 f318 := Tryz.func205.trans (congrArg some (by kernel_rfl))
 f319 := Tryz.func206.trans (congrArg some (by kernel_rfl))
 f320 := Tryz.func207.trans (congrArg some (by kernel_rfl))
 f337 := Tryz.func211.trans (congrArg some (by kernel_rfl))
 f338 := Tryz.func212.trans (congrArg some (by kernel_rfl))
 t0 := Tryz.underlying0
 a0 := Tryz.isAgg0
 z0 := Tryz.sizeOf0
 v0 := Tryz.zeroValue0
 t2 := Tryz.underlying2
 a2 := Tryz.isAgg2
 z2 := Tryz.sizeOf2
 v2 := Tryz.zeroValue2
 t3 := Tryz.underlying3
 a3 := Tryz.isAgg3
 z3 := Tryz.sizeOf3
 v3 := Tryz.zeroValue3
 t4 := Tryz.underlying4
 a4 := Tryz.isAgg4
 z4 := Tryz.sizeOf4
 v4 := Tryz.zeroValue4
 t5 := Tryz.underlying5
 a5 := Tryz.isAgg5
 z5 := Tryz.sizeOf5
 v5 := Tryz.zeroValue5
 t9 := Tryz.underlying9
 a9 := Tryz.isAgg9
 z9 := Tryz.sizeOf9
 v9 := Tryz.zeroValue9
 t20 := Tryz.underlying20
 a20 := Tryz.isAgg20
 z20 := Tryz.sizeOf20
 v20 := Tryz.zeroValue20
 t37 := Tryz.underlying99
 a37 := Tryz.isAgg99
 z37 := Tryz.sizeOf99
 v37 := Tryz.zeroValue99
 t46 := Tryz.underlying121
 a46 := Tryz.isAgg121
 z46 := Tryz.sizeOf121
 v46 := Tryz.zeroValue121
 t51 := Tryz.underlying109
 a51 := Tryz.isAgg109
 z51 := Tryz.sizeOf109
 v51 := Tryz.zeroValue109
 t53 := Tryz.underlying111
 a53 := Tryz.isAgg111
 z53 := Tryz.sizeOf111
 v53 := Tryz.zeroValue111
 t171 := Tryz.underlying191
 a171 := Tryz.isAgg191
 z171 := Tryz.sizeOf191
 v171 := Tryz.zeroValue191
 t173 := Tryz.underlying193
 a173 := Tryz.isAgg193
 z173 := Tryz.sizeOf193
 v173 := Tryz.zeroValue193
 t212 := Tryz.underlying209
 a212 := Tryz.isAgg209
 z212 := Tryz.sizeOf209
 v212 := Tryz.zeroValue209
 t213 := Tryz.underlying210
 a213 := Tryz.isAgg210
 z213 := Tryz.sizeOf210
 t232 := Tryz.underlying213
 a232 := Tryz.isAgg213
 z232 := Tryz.sizeOf213
 v232 := Tryz.zeroValue213
 t233 := Tryz.underlying214
 a233 := Tryz.isAgg214
 z233 := Tryz.sizeOf214
 v233 := Tryz.zeroValue214
 g17 := by kernel_rfl
 g18 := by kernel_rfl
 g19 := by kernel_rfl
 i0 := by kernel_rfl
 i2 := by kernel_rfl
 i3 := by kernel_rfl
 i4 := by kernel_rfl
 i5 := by kernel_rfl
 i9 := by kernel_rfl
 i20 := by kernel_rfl
 i37 := by kernel_rfl
 i46 := by kernel_rfl
 i51 := by kernel_rfl
 i53 := by kernel_rfl
 i171 := by kernel_rfl
 i173 := by kernel_rfl
 i212 := by kernel_rfl
 i232 := by kernel_rfl
 i233 := by kernel_rfl
 m17 := by kernel_rfl
 m18 := by kernel_rfl
 m19 := by kernel_rfl }
open Go.RowKit Go.Sort Go.Lib in
theorem Tryz.strconv_Itoa (n : Int) (h0 : -9223372036854775808 ≤ n) (h1 : n ≤ 9223372036854775807) (w : World) (htab : Lib.TabIs Tryz.prog w "internal/strconv.uint64pow10" .u64 Lib.pow10Tab) :
 Calls Tryz.prog 80 #[.int .i64 n] w fun e w' => e = .returned (.string ⟨(Lib.itoa n).toArray⟩) ∧ ∃ k os, w' = grow (w.drewN k) os := Any.strconv_Itoa Tryz.laysM171 n h0 h1 w htab
def Tryz.laysM182_ren : Go.Shelf.Ren := ⟨fun | 182 => 181 | n => n, fun | 130 => 200 | 9 => 9 | 4 => 4 | 0 => 0 | 93 => 183 | 37 => 99 | 3 => 3 | 91 => 181 | 5 => 5 | n => n, fun | n => n⟩
theorem Tryz.laysM182 : Go.Proofs.LaysM.n182 Tryz.prog Tryz.laysM182_ren := {
 mixed := by kernel_rfl
 f182 := Tryz.func181.trans (congrArg some (by kernel_rfl))
 t0 := Tryz.underlying0
 a0 := Tryz.isAgg0
 z0 := Tryz.sizeOf0
 v0 := Tryz.zeroValue0
 t3 := Tryz.underlying3
 a3 := Tryz.isAgg3
 z3 := Tryz.sizeOf3
 v3 := Tryz.zeroValue3
 t4 := Tryz.underlying4
 a4 := Tryz.isAgg4
 z4 := Tryz.sizeOf4
 v4 := Tryz.zeroValue4
 t9 := Tryz.underlying9
 a9 := Tryz.isAgg9
 z9 := Tryz.sizeOf9
 v9 := Tryz.zeroValue9
 t37 := Tryz.underlying99
 a37 := Tryz.isAgg99
 z37 := Tryz.sizeOf99
 v37 := Tryz.zeroValue99
 t93 := Tryz.underlying183
 a93 := Tryz.isAgg183
 z93 := Tryz.sizeOf183
 v93 := Tryz.zeroValue183
 t130 := Tryz.underlying200
 a130 := Tryz.isAgg200
 z130 := Tryz.sizeOf200
 v130 := Tryz.zeroValue200
 t5 := Tryz.underlying5
 a5 := Tryz.isAgg5
 z5 := Tryz.sizeOf5
 v5 := Tryz.zeroValue5
 t91 := Tryz.underlying181
 a91 := Tryz.isAgg181
 z91 := Tryz.sizeOf181
 v91 := Tryz.zeroValue181
 i0 := by kernel_rfl
 i3 := by kernel_rfl
 i4 := by kernel_rfl
 i5 := by kernel_rfl
 i9 := by kernel_rfl
 i37 := by kernel_rfl
 i91 := by kernel_rfl
 i93 := by kernel_rfl
 i130 := by kernel_rfl }
open Go.RowKit in
theorem Tryz.Buffer_String (B b : Nat) (l : List UInt8) (w : World) (h : Lib.IsBuffer 183 5 B b (Lib.byteCells l) w) :
 Calls Tryz.prog 181 #[.pointer (some ⟨b, 0, none⟩)] w fun e w' => e = .returned (.string ⟨l.toArray⟩) ∧ ∃ n, w' = w.drewN n := Any.Buffer_String Tryz.laysM182 B b l w h
def Tryz.laysM179_ren : Go.Shelf.Ren := ⟨fun | 179 => 179 | 251 => 198 | 252 => 199 | 181 => 208 | 184 => 209 | 290 => 210 | 324 => 213 | n => n, fun | 130 => 200 | 5 => 5 | 75 => 94 | 0 => 0 | 93 => 183 | 91 => 181 | 3 => 3 | 131 => 147 | 4 => 4 | 37 => 99 | 20 => 20 | 80 => 86 | 9 => 9 | n => n, fun | 14 => 4 | n => n⟩
theorem Tryz.laysM179 : Go.Proofs.LaysM.n179 Tryz.prog Tryz.laysM179_ren := {
 mixed := by kernel_rfl
 f179 := Tryz.func179.trans (congrArg some (by kernel_rfl))
 f181 := Tryz.func208.trans (congrArg some (by kernel_rfl))
 f184 := Tryz.func209.trans (congrArg some (by kernel_rfl))
 f251 := Tryz.func198.trans (congrArg some (by kernel_rfl))
 f252 := Tryz.func199.trans (congrArg some (by kernel_rfl))
 f290 := Tryz.func210.trans (congrArg some (by kernel_rfl))
 f324 := Tryz.func213.trans (congrArg some (by kernel_rfl))
 t0 := Tryz.underlying0
 a0 := Tryz.isAgg0
 z0 := Tryz.sizeOf0
 v0 := Tryz.zeroValue0
 t3 := Tryz.underlying3
 a3 := Tryz.isAgg3
 z3 := Tryz.sizeOf3
 v3 := Tryz.zeroValue3
 t4 := Tryz.underlying4
 a4 := Tryz.isAgg4
 z4 := Tryz.sizeOf4
 v4 := Tryz.zeroValue4
 t5 := Tryz.underlying5
 a5 := Tryz.isAgg5
 z5 := Tryz.sizeOf5
 v5 := Tryz.zeroValue5
 t20 := Tryz.underlying20
 a20 := Tryz.isAgg20
 z20 := Tryz.sizeOf20
 v20 := Tryz.zeroValue20
 t37 := Tryz.underlying99
 a37 := Tryz.isAgg99
 z37 := Tryz.sizeOf99
 v37 := Tryz.zeroValue99
 t75 := Tryz.underlying94
 a75 := Tryz.isAgg94
 z75 := Tryz.sizeOf94
 v75 := Tryz.zeroValue94
 t91 := Tryz.underlying181
 a91 := Tryz.isAgg181
 z91 := Tryz.sizeOf181
 v91 := Tryz.zeroValue181
 t93 := Tryz.underlying183
 a93 := Tryz.isAgg183
 z93 := Tryz.sizeOf183
 v93 := Tryz.zeroValue183
 t130 := Tryz.underlying200
 a130 := Tryz.isAgg200
 z130 := Tryz.sizeOf200
 v130 := Tryz.zeroValue200
 t131 := Tryz.underlying147
 a131 := Tryz.isAgg147
 z131 := Tryz.sizeOf147
 v131 := Tryz.zeroValue147
 g14 := by kernel_rfl
 t9 := Tryz.underlying9
 a9 := Tryz.isAgg9
 z9 := Tryz.sizeOf9
 v9 := Tryz.zeroValue9
 t80 := Tryz.underlying86
 a80 := Tryz.isAgg86
 z80 := Tryz.sizeOf86
 v80 := Tryz.zeroValue86
 i0 := by kernel_rfl
 i3 := by kernel_rfl
 i4 := by kernel_rfl
 i5 := by kernel_rfl
 i9 := by kernel_rfl
 i20 := by kernel_rfl
 i37 := by kernel_rfl
 i75 := by kernel_rfl
 i80 := by kernel_rfl
 i91 := by kernel_rfl
 i93 := by kernel_rfl
 i130 := by kernel_rfl
 i131 := by kernel_rfl
 m14 := by kernel_rfl }
def Tryz.laysM178_ren : Go.Shelf.Ren := ⟨fun | 178 => 180 | 251 => 198 | 252 => 199 | 181 => 208 | 184 => 209 | 290 => 210 | 324 => 213 | n => n, fun | 130 => 200 | 9 => 9 | 3 => 3 | 75 => 94 | 0 => 0 | 93 => 183 | 91 => 181 | 131 => 147 | 4 => 4 | 37 => 99 | 20 => 20 | 80 => 86 | 5 => 5 | n => n, fun | 14 => 4 | n => n⟩
theorem Tryz.laysM178 : Go.Proofs.LaysM.n178 Tryz.prog Tryz.laysM178_ren := {
 mixed := by kernel_rfl
 f178 := Tryz.func180.trans (congrArg some (by kernel_rfl))
 f181 := Tryz.func208.trans (congrArg some (by kernel_rfl))
 f184 := Tryz.func209.trans (congrArg some (by kernel_rfl))
 f251 := Tryz.func198.trans (congrArg some (by kernel_rfl))
 f252 := Tryz.func199.trans (congrArg some (by kernel_rfl))
 f290 := Tryz.func210.trans (congrArg some (by kernel_rfl))
 f324 := Tryz.func213.trans (congrArg some (by kernel_rfl))
 t0 := Tryz.underlying0
 a0 := Tryz.isAgg0
 z0 := Tryz.sizeOf0
 v0 := Tryz.zeroValue0
 t3 := Tryz.underlying3
 a3 := Tryz.isAgg3
 z3 := Tryz.sizeOf3
 v3 := Tryz.zeroValue3
 t4 := Tryz.underlying4
 a4 := Tryz.isAgg4
 z4 := Tryz.sizeOf4
 v4 := Tryz.zeroValue4
 t9 := Tryz.underlying9
 a9 := Tryz.isAgg9
 z9 := Tryz.sizeOf9
 v9 := Tryz.zeroValue9
 t20 := Tryz.underlying20
 a20 := Tryz.isAgg20
 z20 := Tryz.sizeOf20
 v20 := Tryz.zeroValue20
 t37 := Tryz.underlying99
 a37 := Tryz.isAgg99
 z37 := Tryz.sizeOf99
 v37 := Tryz.zeroValue99
 t75 := Tryz.underlying94
 a75 := Tryz.isAgg94
 z75 := Tryz.sizeOf94
 v75 := Tryz.zeroValue94
 t91 := Tryz.underlying181
 a91 := Tryz.isAgg181
 z91 := Tryz.sizeOf181
 v91 := Tryz.zeroValue181
 t93 := Tryz.underlying183
 a93 := Tryz.isAgg183
 z93 := Tryz.sizeOf183
 v93 := Tryz.zeroValue183
 t130 := Tryz.underlying200
 a130 := Tryz.isAgg200
 z130 := Tryz.sizeOf200
 v130 := Tryz.zeroValue200
 t131 := Tryz.underlying147
 a131 := Tryz.isAgg147
 z131 := Tryz.sizeOf147
 v131 := Tryz.zeroValue147
 g14 := by kernel_rfl
 t5 := Tryz.underlying5
 a5 := Tryz.isAgg5
 z5 := Tryz.sizeOf5
 v5 := Tryz.zeroValue5
 t80 := Tryz.underlying86
 a80 := Tryz.isAgg86
 z80 := Tryz.sizeOf86
 v80 := Tryz.zeroValue86
 i0 := by kernel_rfl
 i3 := by kernel_rfl
 i4 := by kernel_rfl
 i5 := by kernel_rfl
 i9 := by kernel_rfl
 i20 := by kernel_rfl
 i37 := by kernel_rfl
 i75 := by kernel_rfl
 i80 := by kernel_rfl
 i91 := by kernel_rfl
 i93 := by kernel_rfl
 i130 := by kernel_rfl
 i131 := by kernel_rfl
 m14 := by kernel_rfl }
open Go.RowKit in
theorem Tryz.Buffer_WriteByte_k (B b : Nat) (bs : List Value) (c : Int) (w : World) (h : Lib.IsBuffer 183 5 B b bs w) (hBw : B ≤ w.heap.size) (h1 : ∀ v ∈ bs, v.oneCell' = true) (hlim : bs.length + 1 ≤ 140737488355328) :
 Calls Tryz.prog 179 #[.pointer (some ⟨b, 0, none⟩), .int .u8 c] w fun e w' => e = .returned .nilIface ∧ Lib.IsBuffer 183 5 B b (bs ++ [.int .u8 c]) w' ∧ Below B w w' ∧ Lib.OthersKept 5 (some b) w w' := Any.Buffer_WriteByte_k Tryz.laysM179 B b bs c w h hBw h1 hlim
open Go.RowKit in
theorem Tryz.Buffer_WriteString_k (B b : Nat) (bs : List Value) (s : ByteArray) (w : World) (h : Lib.IsBuffer 183 5 B b bs w) (hBw : B ≤ w.heap.size) (h1 : ∀ v ∈ bs, v.oneCell' = true) (hlim : bs.length + s.size ≤ 140737488355328) :
 Calls Tryz.prog 180 #[.pointer (some ⟨b, 0, none⟩), .string s] w fun e w' => e = .returned (.tuple #[.int .i64 s.size, .nilIface]) ∧ Lib.IsBuffer 183 5 B b (bs ++ Lib.byteCells s.data.toList) w' ∧ Below B w w' ∧ Lib.OthersKept 5 (some b) w w' := Any.Buffer_WriteString_k Tryz.laysM178 B b bs s w h hBw h1 hlim
def Tryz.lays111_ren : Go.Shelf.Ren := ⟨fun | 111 => 26 | n => n, fun | 28 => 43 | 3 => 3 | 4 => 4 | 0 => 0 | n => n, fun | n => n⟩
theorem Tryz.lays111 : Go.Proofs.Lays.n111 Tryz.prog Tryz.lays111_ren := {
 mixed := by kernel_rfl
 f111 := Tryz.func26.trans (congrArg some (by kernel_rfl))
 t0 := Tryz.underlying0
 a0 := Tryz.isAgg0
 z0 := Tryz.sizeOf0
 v0 := Tryz.zeroValue0
 t3 := Tryz.underlying3
 a3 := Tryz.isAgg3
 z3 := Tryz.sizeOf3
 v3 := Tryz.zeroValue3
 t4 := Tryz.underlying4
 a4 := Tryz.isAgg4
 z4 := Tryz.sizeOf4
 v4 := Tryz.zeroValue4
 t28 := Tryz.underlying43
 a28 := Tryz.isAgg43
 z28 := Tryz.sizeOf43
 v28 := Tryz.zeroValue43 }
open Go.RowKit Go.Lib in
theorem Tryz.slices_Equal_int (b1 o1 n c b2 o2 m d : Nat) (xs ys : List Int) (w : World) (hx : n ≤ xs.length) (hy : m ≤ ys.length) (hbig : n ≤ 9223372036854775807) (hbig2 : m ≤ 9223372036854775807) (hc1 : ∀ j, j < xs.length → w.cell? ⟨b1, o1 + j, none⟩ = some (.int .i64 (xs.getD j 0))) (hc2 : ∀ j, j < ys.length → w.cell? ⟨b2, o2 + j, none⟩ = some (.int .i64 (ys.getD j 0))) :
 Calls Tryz.prog 26 #[.slice (some ⟨b1, o1, none⟩) n c, .slice (some ⟨b2, o2, none⟩) m d] w fun e w' => e = .returned (.bool (xs.take n == ys.take m)) ∧ ∃ q, w' = w.drewN q := Any.slices_Equal_int Tryz.lays111 b1 o1 n c b2 o2 m d xs ys w hx hy hbig hbig2 hc1 hc2
open Go.RowKit Go.Lib in
theorem Tryz.slices_Equal_int_empty (a1 a2 : Option Addr) (c m d : Nat) (w : World) (hbig2 : m ≤ 9223372036854775807) :
 Calls Tryz.prog 26 #[.slice a1 0 c, .slice a2 m d] w fun e w' => e = .returned (.bool (decide (m = 0))) ∧ w' = w := Any.slices_Equal_int_empty Tryz.lays111 a1 a2 c m d w hbig2
open Go.RowKit Go.Lib in
theorem Tryz.slices_Equal_int_lens (a1 a2 : Option Addr) (n c m d : Nat) (w : World) (hnm : n ≠ m) :
 Calls Tryz.prog 26 #[.slice a1 n c, .slice a2 m d] w fun e w' => e = .returned (.bool false) ∧ w' = w := Any.slices_Equal_int_lens Tryz.lays111 a1 a2 n c m d w hnm
end Go.Proofs
