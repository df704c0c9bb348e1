/- The contracts once more, in one form: an api.Int that counts z. Fractions as core's Rat: what reduced, sums, products, orders come to; lengths. No program in sight. api.Rat in memory: raw arguments, canonical values. No program in sight. A store into a box of the call's own. No program in sight. The shelf's contracts at this dump, laid by the kit's lay-plain.mjs, cut down to those that are used. The walk of integer.Text. Text and Valid in the common form. A law of my own for a region that draws its order of evaluation: what each operation of its head yields is told by a predicate that lasts while the world grows; the tail's order is forced. No program in sight. The law for regions that draw their order once more, each step behind a word that no elaborator looks into; a step whose guard may say no. No program in sight. Boxes of integers and integers, listed. What a straight walk carries: boxes of the call's own, integers, fractions, and that nothing older was touched. No program in sight. -/
import Derived.Test.YtgcigdahjabimaaGreatDoorPr8
import Derived.Shelf.Strings.Builder1
import Derived.Shelf.Strings.Builder2
import Derived.Shelf.Strings.OnBuilder
import Derived.Shelf.Small.Bits
import Derived.Shelf.Small.Wraps
import Derived.Shelf.Strings.BuilderF
import Derived.Shelf.Strings.BuilderK
import Derived.Shelf.Strconv.Atoi
import Derived.Shelf.Strconv.Itoa0
import Derived.Shelf.Strconv.Itoa1
import Derived.Shelf.LaysM
import Derived.Shelf.Strconv.Itoa2
import Derived.Shelf.Strconv.Itoa3
import Derived.Shelf.Bytes.Len
import Derived.Shelf.Bytes.TryGrow
import Derived.Shelf.Bytes.GrowSliceCatch
import Derived.Shelf.Bytes.GrowSlice
import Derived.Shelf.Bytes.String
import Derived.Shelf.Strconv.AtoiErrFast
import Derived.Shelf.Strconv.ParseIntEmpty
import Derived.Shelf.Strconv.AtoiFail
import Derived.Shelf.Strconv.Clone
import Derived.Shelf.Strconv.SyntaxError
import Derived.Shelf.LaysC
import Derived.Shelf.Strconv.ToError
import Derived.Shelf.Strconv.Lower
import Derived.Shelf.Strconv.ParseUint10
import Derived.Shelf.Strconv.ParseUint10Empty
import Derived.Shelf.Strconv.ParseUint10Any
import Derived.Shelf.Strconv.ParseInt10
import Derived.Shelf.Strconv.AtoiLong
import Derived.Shelf.Strconv.AtoiInnerAll
import Derived.Shelf.Strconv.RangeError
import Derived.Shelf.Strconv.ToErrorRange
import Derived.Shelf.Strconv.AtoiAll
import Derived.Shelf.Strconv.ErrVarAll
import Derived.Shelf.Strconv.ParseUintEmpty
import Derived.Shelf.Strconv.ParseUint10b64
import Derived.Shelf.Strconv.ParseUint10b32
import Derived.Shelf.Strconv.ParseUint10b16
import Derived.Shelf.Strconv.ParseUint10b8
import Derived.Shelf.Strconv.ParseUint10At
import Derived.Ground.MpProg
import Derived.Shelf.Pu.ParseUintPublic10
import Derived.Shelf.Pu.ErrVarParseUint
import Derived.Shelf.Strings.Search1
import Derived.Shelf.Bytes.GrowRow0Kept
import Derived.Shelf.Strings.Search2
import Derived.Shelf.Bytes.GrowRowKept
import Derived.Shelf.Bytes.GrowNilKept
import Derived.Shelf.Strings.Cut
import Derived.Shelf.Bytes.GrowKept
import Derived.Shelf.Bytes.WriteByteKept
import Derived.Shelf.Strings.Shaped
import Derived.Shelf.Bytes.WriteStringKept
import Derived.Shelf.Bytes.ResetKept
import Derived.Shelf.Bytes.BufferK
import Derived.Shelf.Slices.Equal
import Derived.Ground.Names2Prog
import Derived.Shelf.Slices.SearchI
import Derived.Shelf.Slices.Empties2
import Derived.Ground.SlgnProg
import Derived.Shelf.SlicesE.Clone
import Derived.Test.YtgcigdahjabimaaGreatDoorProg
import Derived.Test.YtgcigdahjabimaaGreatDoorPr2
import Derived.Test.YtgcigdahjabimaaGreatDoorPr3
import Derived.Test.YtgcigdahjabimaaGreatDoorPr4
import Derived.Test.YtgcigdahjabimaaGreatDoorPr1
import Derived.Lib.LaidTab
import Derived.Lib.AppendIntMem
import Derived.Lib.BufferOld
import Derived.BigRegion
namespace Go.Proofs.YtgcigdahjabimaaGreatDoor
open Go.RowKit Go.Shelf

def IntNum (w : World) (V : Value) (z : Int) : Prop := ∃ neg xs, IntArg w V neg xs ∧ cnt neg xs = z ∧ xs.length ≤ 900000
def lenI (z : Int) : Nat := (dig z.natAbs).length
theorem IntNum.below {w w' : World} {V : Value} {z : Int} (h : IntNum w V z) (hk : Keeps w w') : IntNum w' V z := by
 obtain ⟨neg, xs, h, e, hl⟩ := h
 exact ⟨neg, xs, h.below hk, e, hl⟩
theorem IntRep.num {w : World} {V : Value} {z : Int} (h : IntRep w V z) (hl : lenI z ≤ 900000) : IntNum w V z := ⟨_, _, h.arg, cnt_rep z, hl⟩
theorem IntRep.drew {w : World} {V : Value} {z : Int} (h : IntRep w V z) : IntRep w.drew V z := h
theorem IntNum.drew {w : World} {V : Value} {z : Int} (h : IntNum w V z) : IntNum w.drew V z := h
theorem lenI_add (a b : Int) : lenI (a + b) ≤ max (lenI a) (lenI b) + 1 := rep_add_length a b
theorem lenI_mul (a b : Int) : lenI (a * b) ≤ lenI a + lenI b := by
 unfold lenI
 rw [Int.natAbs_mul]
 exact dig_length_mul _ _
theorem lenI_neg (a : Int) : lenI (-a) = lenI a := by unfold lenI; rw [Int.natAbs_neg]
theorem lenI_cnt (neg : Bool) (xs : List Nat) : lenI (cnt neg xs) ≤ xs.length := cnt_length neg xs

section
variable {V1 V2 : Value} {x y : Int} {w : World}
def Gives (z : Int) (w : World) (e : Ending) (w' : World) : Prop := ∃ V, e = .returned V ∧ IntRep w' V z ∧ Keeps w w'
theorem add_num (h1 : IntNum w V1 x) (h2 : IntNum w V2 y) : Calls Tryz.prog 95 #[V1, V2] w (Gives (x + y) w) := by
 obtain ⟨n1, xs, h1, rfl, l1⟩ := h1
 obtain ⟨n2, ys, h2, rfl, l2⟩ := h2
 exact add_any n1 n2 xs ys V1 V2 w h1 h2 (by omega) (by omega)
theorem mul_num (h1 : IntNum w V1 x) (h2 : IntNum w V2 y) : Calls Tryz.prog 94 #[V1, V2] w (Gives (x * y) w) := by
 obtain ⟨n1, xs, h1, rfl, l1⟩ := h1
 obtain ⟨n2, ys, h2, rfl, l2⟩ := h2
 exact mul_any n1 n2 xs ys V1 V2 w h1 h2 (by omega) (by omega)
theorem radd_num (h1 : IntNum w V1 x) (h2 : IntNum w V2 y) : Calls Tryz.prog 53 #[V1, V2] w (Gives (x + y) w) := by
 obtain ⟨n1, xs, h1, rfl, l1⟩ := h1
 obtain ⟨n2, ys, h2, rfl, l2⟩ := h2
 exact radd_any n1 n2 xs ys V1 V2 w h1 h2 (by omega) (by omega)
theorem rmul_num (h1 : IntNum w V1 x) (h2 : IntNum w V2 y) : Calls Tryz.prog 54 #[V1, V2] w (Gives (x * y) w) := by
 obtain ⟨n1, xs, h1, rfl, l1⟩ := h1
 obtain ⟨n2, ys, h2, rfl, l2⟩ := h2
 exact rmul_any n1 n2 xs ys V1 V2 w h1 h2 (by omega) (by omega)
theorem neg_num (h1 : IntNum w V1 x) : Calls Tryz.prog 133 #[V1] w (Gives (-x) w) := by
 obtain ⟨n1, xs, h1, rfl, l1⟩ := h1
 exact neg_any n1 xs V1 w h1 (by omega)
theorem rneg_num (h1 : IntNum w V1 x) : Calls Tryz.prog 97 #[V1] w (Gives (-x) w) := by
 obtain ⟨n1, xs, h1, rfl, l1⟩ := h1
 exact rneg_any n1 xs V1 w h1 (by omega)
theorem sign_num (h1 : IntNum w V1 x) : Calls Tryz.prog 86 #[V1] w fun e w' => e = .returned (.int .i64 x.sign) ∧ Keeps w w' := by
 obtain ⟨n1, xs, h1, rfl, l1⟩ := h1
 exact sign_any n1 xs V1 w h1 (by omega)
theorem rsign_num (h1 : IntNum w V1 x) : Calls Tryz.prog 65 #[V1] w fun e w' => e = .returned (.int .i64 x.sign) ∧ Keeps w w' := by
 obtain ⟨n1, xs, h1, rfl, l1⟩ := h1
 exact rsign_any n1 xs V1 w h1 (by omega)
theorem rcompare_num (h1 : IntNum w V1 x) (h2 : IntNum w V2 y) : Calls Tryz.prog 66 #[V1, V2] w fun e w' => e = .returned (.int .i64 (x - y).sign) ∧ Keeps w w' := by
 obtain ⟨n1, xs, h1, rfl, l1⟩ := h1
 obtain ⟨n2, ys, h2, rfl, l2⟩ := h2
 exact rcompare_any n1 n2 xs ys V1 V2 w h1 h2 (by omega) (by omega)
theorem compare_num (h1 : IntNum w V1 x) (h2 : IntNum w V2 y) : Calls Tryz.prog 87 #[V1, V2] w fun e w' => e = .returned (.int .i64 (x - y).sign) ∧ Keeps w w' := by
 obtain ⟨n1, xs, h1, rfl, l1⟩ := h1
 obtain ⟨n2, ys, h2, rfl, l2⟩ := h2
 exact compareI_any n1 n2 xs ys V1 V2 w h1 h2 (by omega) (by omega)
end
end Go.Proofs.YtgcigdahjabimaaGreatDoor
namespace Go.Proofs.YtgcigdahjabimaaGreatDoor
open Go.RowKit

theorem lenR_mono {x y : Int} (h : x.natAbs ≤ y.natAbs) : lenI x ≤ lenI y := dig_length_mono h
theorem lenI_one : lenI 1 ≤ 1 := dig_length_le (n := (1 : Int).natAbs) (k := 1) (by decide)
theorem lenI_zero : lenI 0 = 0 := by simp [lenI, dig_zero]
def szR (q : Rat) : Nat := max (lenI q.num) (lenI (q.den : Int))
theorem szR_num {q : Rat} {k : Nat} (h : szR q ≤ k) : lenI q.num ≤ k := Nat.le_trans (Nat.le_max_left _ _) h
theorem szR_den {q : Rat} {k : Nat} (h : szR q ≤ k) : lenI (q.den : Int) ≤ k := Nat.le_trans (Nat.le_max_right _ _) h
theorem szR_mk {q : Rat} {k : Nat} (h1 : lenI q.num ≤ k) (h2 : lenI (q.den : Int) ≤ k) : szR q ≤ k := Nat.max_le.2 ⟨h1, h2⟩
theorem den_posI (q : Rat) : (0 : Int) < q.den := Int.ofNat_lt.2 q.den_pos
theorem natAbs_div_le (a : Int) (g : Nat) : (a / (g : Int)).natAbs ≤ a.natAbs := by
 rcases Nat.eq_zero_or_pos g with h | h
 ·subst h; simp
 ·rcases Int.le_total 0 a with ha | ha
  ·have h1 : 0 ≤ a / (g : Int) := Int.ediv_nonneg ha (by omega)
   have h2 : a / (g : Int) ≤ a := Int.ediv_le_self _ ha
   omega
  ·have h2 : a ≤ a / (g : Int) := by
    rw [Int.le_ediv_iff_mul_le (by omega)]
    have : a * (g : Int) ≤ a * 1 := Int.mul_le_mul_of_nonpos_left ha (by omega)
    omega
   have h1 : a / (g : Int) ≤ 0 := by
    have := Int.ediv_le_ediv (c := (g : Int)) (by omega) ha
    simpa using this
   omega
theorem szR_divInt (a b : Int) (hb : b ≠ 0) : szR (Rat.divInt a b) ≤ max (lenI a) (lenI b) := by
 have h1 : (Rat.divInt a b).num.natAbs ≤ a.natAbs := by
  rw [Rat.num_divInt]
  refine Nat.le_trans (natAbs_div_le _ _) ?_
  rw [Int.natAbs_mul, Int.natAbs_sign_of_ne_zero hb, Nat.one_mul]
  exact Nat.le_refl _
 have h2 : ((Rat.divInt a b).den : Int).natAbs ≤ b.natAbs := by
  rw [Int.natAbs_natCast, Rat.den_divInt, if_neg hb]; exact Nat.div_le_self _ _
 exact szR_mk (Nat.le_trans (lenR_mono h1) (Nat.le_max_left _ _)) (Nat.le_trans (lenR_mono h2) (Nat.le_max_right _ _))
theorem red_pos {a b : Int} (hb : 0 < b) : a.fdiv (Int.gcd a b : Nat) = (Rat.divInt a b).num ∧ b.fdiv (Int.gcd a b : Nat) = ((Rat.divInt a b).den : Int) := by
 have hg : (0 : Int) ≤ (Int.gcd a b : Nat) := by omega
 rw [Rat.num_divInt, Rat.den_divInt, if_neg (by omega), Int.sign_eq_one_of_pos hb, Int.one_mul, Int.gcd_comm b a]
 refine ⟨Int.fdiv_eq_ediv_of_nonneg _ hg, ?_⟩
 rw [Int.fdiv_eq_ediv_of_nonneg _ hg, Int.natCast_ediv]
 congr 1
 omega
theorem red_neg {a b : Int} (hb : b < 0) : (-a).fdiv (Int.gcd (-a) (-b) : Nat) = (Rat.divInt a b).num ∧ (-b).fdiv (Int.gcd (-a) (-b) : Nat) = ((Rat.divInt a b).den : Int) := by
 rw [← Rat.neg_divInt_neg a b]
 exact red_pos (by omega)
theorem red_ref {a b : Int} (hb : b < 0) : a.fdiv (-(Int.gcd a b : Nat)) = (Rat.divInt a b).num ∧ b.fdiv (-(Int.gcd a b : Nat)) = ((Rat.divInt a b).den : Int) := by
 obtain ⟨h1, h2⟩ := red_neg (a := a) hb
 rw [Int.gcd_neg, Int.neg_gcd] at h1 h2
 rw [← h1, ← h2]
 refine ⟨?_, ?_⟩
 ·rw [← Int.neg_fdiv_neg, Int.neg_neg]
 ·rw [← Int.neg_fdiv_neg, Int.neg_neg]
theorem add_divInt (x y : Rat) : x + y = Rat.divInt (x.num * y.den + y.num * x.den) (x.den * y.den) := by
 rw [Rat.add_def', ← Rat.divInt_ofNat, Int.natCast_mul]
theorem sub_divInt (x y : Rat) : x - y = Rat.divInt (x.num * y.den - y.num * x.den) (x.den * y.den) := by
 rw [Rat.sub_def', ← Rat.divInt_ofNat, Int.natCast_mul]
theorem mul_divInt (x y : Rat) : x * y = Rat.divInt (x.num * y.num) (x.den * y.den) := by
 rw [Rat.mul_def', ← Rat.divInt_ofNat, Int.natCast_mul]
def cmpR (x y : Rat) : Int := (x.num * y.den - y.num * x.den).sign
theorem sign_ediv_gcd (n : Int) (g : Nat) (hg : 0 < g) (h : (g : Int) ∣ n) : (n / (g : Int)).sign = n.sign := by
 obtain ⟨k, rfl⟩ := h
 rw [Int.mul_ediv_cancel_left _ (by omega), Int.sign_mul, Int.sign_eq_one_of_pos (a := (g : Int)) (by omega), Int.one_mul]
theorem sign_divInt (a b : Int) (hb : 0 < b) : (Rat.divInt a b).num.sign = a.sign := by
 rw [Rat.num_divInt, Int.sign_eq_one_of_pos hb, Int.one_mul]
 exact sign_ediv_gcd a _ (Int.gcd_pos_of_ne_zero_left _ (by omega)) (Int.gcd_dvd_right ..)
theorem den_mul_pos (x y : Rat) : (0 : Int) < x.den * y.den := Int.mul_pos (den_posI x) (den_posI y)
theorem rat_sub_sign (x y : Rat) : (x - y).num.sign = cmpR x y := by
 rw [sub_divInt, sign_divInt _ _ (den_mul_pos x y)]; rfl
theorem cmpR_pos (x y : Rat) : 0 < cmpR x y ↔ y < x := by
 rw [Rat.lt_iff]
 unfold cmpR
 constructor
 ·intro h
  have := Int.sign_eq_one_iff_pos.1 (show (x.num * y.den - y.num * x.den).sign = 1 by
   rcases Int.lt_trichotomy (x.num * y.den - y.num * x.den) 0 with h1 | h1 | h1
   ·rw [Int.sign_eq_neg_one_of_neg h1] at h; omega
   ·rw [h1] at h; simp at h
   ·exact Int.sign_eq_one_of_pos h1)
  omega
 ·intro h
  rw [Int.sign_eq_one_of_pos (by omega)]; omega
theorem cmpR_neg (x y : Rat) : cmpR x y = -cmpR y x := by
 unfold cmpR
 rw [← Int.sign_neg, Int.neg_sub]
theorem cmpR_lt (x y : Rat) : cmpR x y < 0 ↔ x < y := by rw [cmpR_neg, ← cmpR_pos]; omega
theorem cmpR_zero (x y : Rat) : cmpR x y = 0 ↔ x = y := by
 unfold cmpR
 rw [Int.sign_eq_zero_iff_zero, Rat.eq_iff_mul_eq_mul]
 omega
theorem szR_add (x y : Rat) : szR (x + y) ≤ szR x + szR y + 1 := by
 have h := szR_divInt (x.num * y.den + y.num * x.den) (x.den * y.den) (by have := den_mul_pos x y; omega)
 rw [← add_divInt] at h
 have h1 := lenI_add (x.num * y.den) (y.num * x.den)
 have h2 := lenI_mul x.num y.den
 have h3 := lenI_mul y.num x.den
 have h4 := lenI_mul x.den y.den
 have a1 := szR_num (Nat.le_refl (szR x))
 have a2 := szR_den (Nat.le_refl (szR x))
 have b1 := szR_num (Nat.le_refl (szR y))
 have b2 := szR_den (Nat.le_refl (szR y))
 omega
theorem szR_mul (x y : Rat) : szR (x * y) ≤ szR x + szR y := by
 have h := szR_divInt (x.num * y.num) (x.den * y.den) (by have := den_mul_pos x y; omega)
 rw [← mul_divInt] at h
 have h2 := lenI_mul x.num y.num
 have h4 := lenI_mul x.den y.den
 have a1 := szR_num (Nat.le_refl (szR x))
 have a2 := szR_den (Nat.le_refl (szR x))
 have b1 := szR_num (Nat.le_refl (szR y))
 have b2 := szR_den (Nat.le_refl (szR y))
 omega
theorem szR_neg (x : Rat) : szR (-x) = szR x := by unfold szR; rw [Rat.neg_num, Rat.neg_den, lenI_neg]
theorem szR_sub (x y : Rat) : szR (x - y) ≤ szR x + szR y + 1 := by
 have := szR_add x (-y)
 rwa [szR_neg, ← Rat.sub_eq_add_neg] at this
theorem szR_int (n : Int) : szR (n : Rat) ≤ max (lenI n) 1 := by
 refine szR_mk ?_ ?_
 ·rw [Rat.num_intCast]; omega
 ·rw [Rat.den_intCast]
  exact Nat.le_trans lenI_one (Nat.le_max_right _ _)
theorem divInt_fields {a b : Int} (hb : 0 < b) (hg : Int.gcd a b = 1) : (Rat.divInt a b).num = a ∧ ((Rat.divInt a b).den : Int) = b := by
 obtain ⟨h1, h2⟩ := red_pos (a := a) hb
 rw [hg] at h1 h2
 rw [← h1, ← h2]
 refine ⟨?_, ?_⟩ <;> exact Int.fdiv_one _
theorem gcd_fields (q : Rat) : Int.gcd q.num q.den = 1 := q.reduced
def RatRep (w : World) (V : Value) (q : Rat) : Prop := ∃ x v y u, V = .agg #[x, v, y, u] ∧ IntRep w (.agg #[x, v]) q.num ∧ IntRep w (.agg #[y, u]) (q.den : Int)
def RatArg (w : World) (V : Value) (n1 : Bool) (xs : List Nat) (n2 : Bool) (ys : List Nat) : Prop := ∃ x v y u, V = .agg #[x, v, y, u] ∧ IntArg w (.agg #[x, v]) n1 xs ∧ IntArg w (.agg #[y, u]) n2 ys
def rvalidB (n1 : Bool) (xs : List Nat) (n2 : Bool) (ys : List Nat) : Bool :=
 validB n1 xs && (validB n2 ys && (decide (0 < cnt n2 ys) && decide (Int.gcd (cnt n1 xs) (cnt n2 ys) = 1)))
def rcnt (n1 : Bool) (xs : List Nat) (n2 : Bool) (ys : List Nat) : Rat := if rvalidB n1 xs n2 ys then Rat.divInt (cnt n1 xs) (cnt n2 ys) else 0
def RatNum (w : World) (V : Value) (q : Rat) : Prop := ∃ n1 xs n2 ys, RatArg w V n1 xs n2 ys ∧ rcnt n1 xs n2 ys = q ∧ xs.length ≤ 100000 ∧ ys.length ≤ 100000
def RGives (q : Rat) (w : World) (e : Ending) (w' : World) : Prop := ∃ V, e = .returned V ∧ RatRep w' V q ∧ Keeps w w'
section
variable {w w' : World} {V x v y u : Value} {q : Rat} {n1 n2 : Bool} {xs ys : List Nat}
theorem RatRep.below (h : RatRep w V q) (hk : Keeps w w') : RatRep w' V q := by
 obtain ⟨x, v, y, u, rfl, h1, h2⟩ := h
 exact ⟨x, v, y, u, rfl, h1.below hk, h2.below hk⟩
theorem RatRep.drew (h : RatRep w V q) : RatRep w.drew V q := h
theorem RatArg.below (h : RatArg w V n1 xs n2 ys) (hk : Keeps w w') : RatArg w' V n1 xs n2 ys := by
 obtain ⟨x, v, y, u, rfl, h1, h2⟩ := h
 exact ⟨x, v, y, u, rfl, h1.below hk, h2.below hk⟩
theorem RatNum.below (h : RatNum w V q) (hk : Keeps w w') : RatNum w' V q := by
 obtain ⟨n1, xs, n2, ys, h, e, l⟩ := h
 exact ⟨n1, xs, n2, ys, h.below hk, e, l⟩
theorem RatNum.drew (h : RatNum w V q) : RatNum w.drew V q := h
theorem rvalidB_rep (q : Rat) : rvalidB (decide (q.num < 0)) (dig q.num.natAbs) (decide ((q.den : Int) < 0)) (dig (q.den : Int).natAbs) = true := by
 unfold rvalidB
 rw [validB_rep, validB_rep, cnt_rep, cnt_rep, decide_eq_true (den_posI q), decide_eq_true (gcd_fields q)]
 rfl
theorem rcnt_rep (q : Rat) : rcnt (decide (q.num < 0)) (dig q.num.natAbs) (decide ((q.den : Int) < 0)) (dig (q.den : Int).natAbs) = q := by
 unfold rcnt
 rw [if_pos (rvalidB_rep q), cnt_rep, cnt_rep, Rat.num_divInt_den]
theorem RatRep.num (h : RatRep w V q) (hl : szR q ≤ 100000) : RatNum w V q := by
 obtain ⟨x, v, y, u, rfl, h1, h2⟩ := h
 exact ⟨_, _, _, _, ⟨x, v, y, u, rfl, h1.arg, h2.arg⟩, rcnt_rep q, szR_num hl, szR_den hl⟩
theorem rcnt_true (h : rvalidB n1 xs n2 ys = true) : (rcnt n1 xs n2 ys).num = cnt n1 xs ∧ ((rcnt n1 xs n2 ys).den : Int) = cnt n2 ys := by
 unfold rcnt
 rw [if_pos h]
 unfold rvalidB at h
 simp only [Bool.and_eq_true, decide_eq_true_eq] at h
 exact divInt_fields h.2.2.1 h.2.2.2
theorem rcnt_false (h : rvalidB n1 xs n2 ys = false) : rcnt n1 xs n2 ys = 0 := if_neg (by rw [h]; decide)
theorem szR_rcnt : szR (rcnt n1 xs n2 ys) ≤ max (max xs.length ys.length) 1 := by
 cases h : rvalidB n1 xs n2 ys with
 | true =>
  obtain ⟨h1, h2⟩ := rcnt_true h
  refine szR_mk ?_ ?_
  ·rw [h1]; have := lenI_cnt n1 xs; omega
  ·rw [h2]; have := lenI_cnt n2 ys; omega
 | false =>
  rw [rcnt_false h]
  refine szR_mk ?_ ?_
  ·rw [Rat.zero_num, lenI_zero]; omega
  ·rw [Rat.zero_den]; exact Nat.le_trans lenI_one (Nat.le_max_right _ _)
theorem RatNum.sz (h : RatNum w V q) : szR q ≤ 100000 := by
 obtain ⟨n1, xs, n2, ys, -, rfl, l1, l2⟩ := h
 have := szR_rcnt (n1 := n1) (xs := xs) (n2 := n2) (ys := ys)
 omega
theorem RatRep.whole {x v y u : Value} {z : Int} (h1 : IntRep w (.agg #[x, v]) z) (h2 : IntRep w (.agg #[y, u]) 1) : RatRep w (.agg #[x, v, y, u]) (z : Rat) :=
 ⟨x, v, y, u, rfl, by rw [Rat.num_intCast]; exact h1, by rw [Rat.den_intCast]; exact h2⟩
theorem RatRep.mk {x v y u : Value} {n d : Int} (h1 : IntRep w (.agg #[x, v]) n) (h2 : IntRep w (.agg #[y, u]) d) (e1 : n = q.num) (e2 : d = (q.den : Int)) : RatRep w (.agg #[x, v, y, u]) q := by
 subst e1 e2; exact ⟨x, v, y, u, rfl, h1, h2⟩
theorem RatRep.n (h : RatRep w (.agg #[x, v, y, u]) q) : IntRep w (.agg #[x, v]) q.num := by
 obtain ⟨_, _, _, _, e, h1, _⟩ := h
 cases e; exact h1
theorem RatRep.d (h : RatRep w (.agg #[x, v, y, u]) q) : IntRep w (.agg #[y, u]) (q.den : Int) := by
 obtain ⟨_, _, _, _, e, _, h2⟩ := h
 cases e; exact h2
theorem RatRep.open_ (h : RatRep w V q) : ∃ b A n c d B m e, V = .agg #[.bool b, .slice A n c, .bool d, .slice B m e] := by
 obtain ⟨x, v, y, u, rfl, h1, h2⟩ := h
 obtain ⟨A, n, c, e, -⟩ := h1.open_
 obtain ⟨B, m, d, e', -⟩ := h2.open_
 cases e; cases e'
 exact ⟨_, A, n, c, _, B, m, d, rfl⟩
theorem RatArg.open_ (h : RatArg w V n1 xs n2 ys) : ∃ A n c B m d, V = .agg #[.bool n1, .slice A n c, .bool n2, .slice B m d] := by
 obtain ⟨x, v, y, u, rfl, ⟨v1, e1, h1⟩, ⟨v2, e2, h2⟩⟩ := h
 cases e1; cases e2
 obtain ⟨A, n, c, rfl, -⟩ := h1.open_
 obtain ⟨B, m, d, rfl, -⟩ := h2.open_
 exact ⟨A, n, c, B, m, d, rfl⟩
theorem RatArg.a1 (h : RatArg w (.agg #[x, v, y, u]) n1 xs n2 ys) : IntArg w (.agg #[x, v]) n1 xs := by
 obtain ⟨_, _, _, _, e, h1, _⟩ := h
 cases e; exact h1
theorem RatArg.a2 (h : RatArg w (.agg #[x, v, y, u]) n1 xs n2 ys) : IntArg w (.agg #[y, u]) n2 ys := by
 obtain ⟨_, _, _, _, e, _, h2⟩ := h
 cases e; exact h2
theorem IntArg.nn {V : Value} {neg : Bool} {xs : List Nat} (h : IntArg w V neg xs) (hl : xs.length ≤ 900000) : IntNum w V (cnt neg xs) := ⟨neg, xs, h, rfl, hl⟩
theorem RatNum.open_ (h : RatNum w V q) : ∃ b A n c d B m e, V = .agg #[.bool b, .slice A n c, .bool d, .slice B m e] := by
 obtain ⟨n1, xs, n2, ys, h, -, -⟩ := h
 obtain ⟨A, n, c, B, m, d, rfl⟩ := h.open_
 exact ⟨n1, A, n, c, n2, B, m, d, rfl⟩
end
def Same32 (w w' : World) : Prop := ∀ v xs, U32 w v xs → U32 w' v xs
theorem IntRep.map {w w' : World} {V : Value} {z : Int} (h : IntRep w V z) (hs : Same32 w w') : IntRep w' V z := by
 obtain ⟨v, rfl, hv⟩ := h
 exact ⟨v, rfl, hs _ _ hv⟩
theorem IntNum.map {w w' : World} {V : Value} {z : Int} (h : IntNum w V z) (hs : Same32 w w') : IntNum w' V z := by
 obtain ⟨neg, xs, ⟨v, rfl, hv⟩, e, l⟩ := h
 exact ⟨neg, xs, ⟨v, rfl, hs _ _ hv⟩, e, l⟩
end Go.Proofs.YtgcigdahjabimaaGreatDoor
namespace Go.Proofs
open Go.Shelf
def Tryz.lays169_ren : Go.Shelf.Ren := ⟨fun | 169 => 82 | n => n, fun | 70 => 98 | 9 => 9 | 0 => 0 | 72 => 101 | 37 => 99 | 127 => 133 | 3 => 3 | 5 => 5 | n => n, fun | n => n⟩
theorem Tryz.lays169 : Go.Proofs.Lays.n169 Tryz.prog Tryz.lays169_ren := {
 mixed := by kernel_rfl
 f169 := Tryz.func82.trans (congrArg some (by kernel_rfl))
 t0 := Tryz.underlying0
 a0 := Tryz.isAgg0
 z0 := Tryz.sizeOf0
 v0 := Tryz.zeroValue0
 t3 := Tryz.underlying3
 a3 := Tryz.isAgg3
 z3 := Tryz.sizeOf3
 v3 := Tryz.zeroValue3
 t9 := Tryz.underlying9
 a9 := Tryz.isAgg9
 z9 := Tryz.sizeOf9
 v9 := Tryz.zeroValue9
 t37 := Tryz.underlying99
 a37 := Tryz.isAgg99
 z37 := Tryz.sizeOf99
 v37 := Tryz.zeroValue99
 t70 := Tryz.underlying98
 a70 := Tryz.isAgg98
 z70 := Tryz.sizeOf98
 v70 := Tryz.zeroValue98
 t72 := Tryz.underlying101
 a72 := Tryz.isAgg101
 z72 := Tryz.sizeOf101
 v72 := Tryz.zeroValue101
 t127 := Tryz.underlying133
 a127 := Tryz.isAgg133
 z127 := Tryz.sizeOf133
 v127 := Tryz.zeroValue133 }
theorem Tryz.Builder_Extra_169 : Builder.Extra Tryz.prog Tryz.lays169_ren := {
 sizeBuilder := by kernel_rfl
 liesBuilder := by kernel_rfl
 t5 := Tryz.underlying5
 a5 := Tryz.isAgg5
 z5 := Tryz.sizeOf5
 v5 := Tryz.zeroValue5
 infoByte := by kernel_rfl
 cellsByte := by kernel_rfl
 sizeByte := by kernel_rfl
 neB5 := by decide }
open Go.RowKit in
theorem Tryz.Builder_String_any (B b : Nat) (l : List UInt8) (w : World) (h : Lib.IsBuilder 101 5 B b (Lib.byteCells l) w) (hBw : B ≤ w.heap.size) :
 Calls Tryz.prog 82 #[.pointer (some ⟨b, 0, none⟩)] w fun e w' => e = .returned (.string ⟨l.toArray⟩) ∧ Below B w w' := Any.Builder_String_any Tryz.lays169 Tryz.Builder_Extra_169 B b l w h hBw
def Tryz.lays156_ren : Go.Shelf.Ren := ⟨fun | 156 => 79 | 165 => 122 | 166 => 78 | 169 => 82 | 240 => 121 | 241 => 163 | 276 => 162 | 277 => 189 | n => n, fun | 31 => 87 | 9 => 9 | 3 => 3 | 4 => 4 | 0 => 0 | 20 => 20 | 72 => 101 | 76 => 95 | 70 => 98 | 37 => 99 | 75 => 94 | 127 => 133 | 164 => 164 | 5 => 5 | 80 => 86 | n => n, fun | n => n⟩
theorem Tryz.lays156 : Go.Proofs.Lays.n156 Tryz.prog Tryz.lays156_ren := {
 mixed := by kernel_rfl
 f156 := Tryz.func79.trans (congrArg some (by kernel_rfl))
 f165 := Tryz.func122.trans (congrArg some (by kernel_rfl))
 f166 := Tryz.func78.trans (congrArg some (by kernel_rfl))
 f169 := Tryz.func82.trans (congrArg some (by kernel_rfl))
 f240 := Tryz.func121.trans (congrArg some (by kernel_rfl))
 f241 := Tryz.func163.trans (congrArg some (by kernel_rfl))
 f276 := Tryz.func162.trans (congrArg some (by kernel_rfl))
 f277 := Tryz.func189.trans (congrArg some (by kernel_rfl))
 t0 := Tryz.underlying0
 a0 := Tryz.isAgg0
 z0 := Tryz.sizeOf0
 v0 := Tryz.zeroValue0
 t3 := Tryz.underlying3
 a3 := Tryz.isAgg3
 z3 := Tryz.sizeOf3
 v3 := Tryz.zeroValue3
 t4 := Tryz.underlying4
 a4 := Tryz.isAgg4
 z4 := Tryz.sizeOf4
 v4 := Tryz.zeroValue4
 t9 := Tryz.underlying9
 a9 := Tryz.isAgg9
 z9 := Tryz.sizeOf9
 v9 := Tryz.zeroValue9
 t20 := Tryz.underlying20
 a20 := Tryz.isAgg20
 z20 := Tryz.sizeOf20
 v20 := Tryz.zeroValue20
 t31 := Tryz.underlying87
 a31 := Tryz.isAgg87
 z31 := Tryz.sizeOf87
 v31 := Tryz.zeroValue87
 t37 := Tryz.underlying99
 a37 := Tryz.isAgg99
 z37 := Tryz.sizeOf99
 v37 := Tryz.zeroValue99
 t70 := Tryz.underlying98
 a70 := Tryz.isAgg98
 z70 := Tryz.sizeOf98
 v70 := Tryz.zeroValue98
 t72 := Tryz.underlying101
 a72 := Tryz.isAgg101
 z72 := Tryz.sizeOf101
 v72 := Tryz.zeroValue101
 t75 := Tryz.underlying94
 a75 := Tryz.isAgg94
 z75 := Tryz.sizeOf94
 v75 := Tryz.zeroValue94
 t76 := Tryz.underlying95
 a76 := Tryz.isAgg95
 z76 := Tryz.sizeOf95
 v76 := Tryz.zeroValue95
 t127 := Tryz.underlying133
 a127 := Tryz.isAgg133
 z127 := Tryz.sizeOf133
 v127 := Tryz.zeroValue133
 t164 := Tryz.underlying164
 a164 := Tryz.isAgg164
 z164 := Tryz.sizeOf164
 v164 := Tryz.zeroValue164 }
theorem Tryz.Builder_Extra_156 : Builder.Extra Tryz.prog Tryz.lays156_ren := {
 sizeBuilder := by kernel_rfl
 liesBuilder := by kernel_rfl
 t5 := Tryz.underlying5
 a5 := Tryz.isAgg5
 z5 := Tryz.sizeOf5
 v5 := Tryz.zeroValue5
 infoByte := by kernel_rfl
 cellsByte := by kernel_rfl
 sizeByte := by kernel_rfl
 neB5 := by decide }
open Go.RowKit in
theorem Tryz.strings_Join (bk o c : Nat) (xs : List ByteArray) (sep : ByteArray) (w : World) (hcells : ∀ (j : Nat) x, xs[j]? = some x → w.cell? ⟨bk, o + j, none⟩ = some (.string x)) (hbk : bk < w.heap.size) (hN : xs.length ≤ 140737488355328) (hcap : xs.length ≤ c) (hlen : (Lib.join (xs.map (·.data.toList)) sep.data.toList).length ≤ 140737488355328) :
 Calls Tryz.prog 79 #[.slice (some ⟨bk, o, none⟩) xs.length c, .string sep] w fun e w' => e = .returned (.string ⟨(Lib.join (xs.map (·.data.toList)) sep.data.toList).toArray⟩) ∧ Below w.heap.size w w' := Any.strings_Join Tryz.lays156 Tryz.Builder_Extra_156 bk o c xs sep w hcells hbk hN hcap hlen
def Tryz.lays125_ren : Go.Shelf.Ren := ⟨fun | 125 => 105 | 128 => 147 | 129 => 148 | n => n, fun | 46 => 121 | 3 => 3 | 51 => 109 | 53 => 111 | 4 => 4 | 5 => 5 | 9 => 9 | n => n, fun | n => n⟩
theorem Tryz.lays125 : Go.Proofs.Lays.n125 Tryz.prog Tryz.lays125_ren := {
 mixed := by kernel_rfl
 f125 := Tryz.func105.trans (congrArg some (by kernel_rfl))
 f128 := Tryz.func147.trans (congrArg some (by kernel_rfl))
 f129 := Tryz.func148.trans (congrArg some (by kernel_rfl))
 t3 := Tryz.underlying3
 a3 := Tryz.isAgg3
 z3 := Tryz.sizeOf3
 v3 := Tryz.zeroValue3
 t4 := Tryz.underlying4
 a4 := Tryz.isAgg4
 z4 := Tryz.sizeOf4
 v4 := Tryz.zeroValue4
 t5 := Tryz.underlying5
 a5 := Tryz.isAgg5
 z5 := Tryz.sizeOf5
 v5 := Tryz.zeroValue5
 t9 := Tryz.underlying9
 a9 := Tryz.isAgg9
 z9 := Tryz.sizeOf9
 v9 := Tryz.zeroValue9
 t46 := Tryz.underlying121
 a46 := Tryz.isAgg121
 z46 := Tryz.sizeOf121
 v46 := Tryz.zeroValue121
 t51 := Tryz.underlying109
 a51 := Tryz.isAgg109
 z51 := Tryz.sizeOf109
 v51 := Tryz.zeroValue109
 t53 := Tryz.underlying111
 a53 := Tryz.isAgg111
 z53 := Tryz.sizeOf111
 v53 := Tryz.zeroValue111 }
theorem Tryz.bits_Len (x : Int) (w : World) (h0 : 0 ≤ x) (h1 : x ≤ 18446744073709551615) :
 Calls Tryz.prog 105 #[.int .u64 x] w fun e w' => e = .returned (.int .i64 (Lib.bitLen x.toNat)) ∧ w' = w := Any.bits_Len Tryz.lays125 x w h0 h1
def Tryz.laysM171_ren : Go.Shelf.Ren := ⟨fun | 171 => 80 | 243 => 123 | 246 => 164 | 283 => 190 | 284 => 191 | 285 => 192 | 286 => 193 | 129 => 148 | 317 => 204 | 318 => 205 | 319 => 206 | 320 => 207 | 337 => 211 | 338 => 212 | n => n, fun | 3 => 3 | 9 => 9 | 2 => 2 | 4 => 4 | 171 => 191 | 0 => 0 | 53 => 111 | 37 => 99 | 5 => 5 | 173 => 193 | 212 => 209 | 51 => 109 | 20 => 20 | 213 => 210 | 46 => 121 | 232 => 213 | 233 => 214 | n => n, fun | 17 => 3 | 18 => 5 | 19 => 6 | n => n⟩
theorem Tryz.laysM171 : Go.Proofs.LaysM.n171 Tryz.prog Tryz.laysM171_ren := {
 mixed := by kernel_rfl
 f129 := Tryz.func148.trans (congrArg some (by kernel_rfl))
 f171 := Tryz.func80.trans (congrArg some (by kernel_rfl))
 f243 := Tryz.func123.trans (congrArg some (by kernel_rfl))
 f246 := Tryz.func164.trans (congrArg some (by kernel_rfl))
 f283 := Tryz.func190.trans (congrArg some (by kernel_rfl))
 f284 := Tryz.func191.trans (congrArg some (by kernel_rfl))
 f285 := Tryz.func192.trans (congrArg some (by kernel_rfl))
 f286 := Tryz.func193.trans (congrArg some (by kernel_rfl))
 f317 := Tryz.func204.trans (congrArg some (by kernel_rfl))
 f318 := Tryz.func205.trans (congrArg some (by kernel_rfl))
 f319 := Tryz.func206.trans (congrArg some (by kernel_rfl))
 f320 := Tryz.func207.trans (congrArg some (by kernel_rfl))
 f337 := Tryz.func211.trans (congrArg some (by kernel_rfl))
 f338 := Tryz.func212.trans (congrArg some (by kernel_rfl))
 t0 := Tryz.underlying0
 a0 := Tryz.isAgg0
 z0 := Tryz.sizeOf0
 v0 := Tryz.zeroValue0
 t2 := Tryz.underlying2
 a2 := Tryz.isAgg2
 z2 := Tryz.sizeOf2
 v2 := Tryz.zeroValue2
 t3 := Tryz.underlying3
 a3 := Tryz.isAgg3
 z3 := Tryz.sizeOf3
 v3 := Tryz.zeroValue3
 t4 := Tryz.underlying4
 a4 := Tryz.isAgg4
 z4 := Tryz.sizeOf4
 v4 := Tryz.zeroValue4
 t5 := Tryz.underlying5
 a5 := Tryz.isAgg5
 z5 := Tryz.sizeOf5
 v5 := Tryz.zeroValue5
 t9 := Tryz.underlying9
 a9 := Tryz.isAgg9
 z9 := Tryz.sizeOf9
 v9 := Tryz.zeroValue9
 t20 := Tryz.underlying20
 a20 := Tryz.isAgg20
 z20 := Tryz.sizeOf20
 v20 := Tryz.zeroValue20
 t37 := Tryz.underlying99
 a37 := Tryz.isAgg99
 z37 := Tryz.sizeOf99
 v37 := Tryz.zeroValue99
 t46 := Tryz.underlying121
 a46 := Tryz.isAgg121
 z46 := Tryz.sizeOf121
 v46 := Tryz.zeroValue121
 t51 := Tryz.underlying109
 a51 := Tryz.isAgg109
 z51 := Tryz.sizeOf109
 v51 := Tryz.zeroValue109
 t53 := Tryz.underlying111
 a53 := Tryz.isAgg111
 z53 := Tryz.sizeOf111
 v53 := Tryz.zeroValue111
 t171 := Tryz.underlying191
 a171 := Tryz.isAgg191
 z171 := Tryz.sizeOf191
 v171 := Tryz.zeroValue191
 t173 := Tryz.underlying193
 a173 := Tryz.isAgg193
 z173 := Tryz.sizeOf193
 v173 := Tryz.zeroValue193
 t212 := Tryz.underlying209
 a212 := Tryz.isAgg209
 z212 := Tryz.sizeOf209
 v212 := Tryz.zeroValue209
 t213 := Tryz.underlying210
 a213 := Tryz.isAgg210
 z213 := Tryz.sizeOf210
 t232 := Tryz.underlying213
 a232 := Tryz.isAgg213
 z232 := Tryz.sizeOf213
 v232 := Tryz.zeroValue213
 t233 := Tryz.underlying214
 a233 := Tryz.isAgg214
 z233 := Tryz.sizeOf214
 v233 := Tryz.zeroValue214
 g17 := by kernel_rfl
 g18 := by kernel_rfl
 g19 := by kernel_rfl
 i0 := by kernel_rfl
 i2 := by kernel_rfl
 i3 := by kernel_rfl
 i4 := by kernel_rfl
 i5 := by kernel_rfl
 i9 := by kernel_rfl
 i20 := by kernel_rfl
 i37 := by kernel_rfl
 i46 := by kernel_rfl
 i51 := by kernel_rfl
 i53 := by kernel_rfl
 i171 := by kernel_rfl
 i173 := by kernel_rfl
 i212 := by kernel_rfl
 i232 := by kernel_rfl
 i233 := by kernel_rfl
 m17 := by kernel_rfl
 m18 := by kernel_rfl
 m19 := by kernel_rfl }
open Go.RowKit Go.Sort Go.Lib in
theorem Tryz.strconv_Itoa (n : Int) (h0 : -9223372036854775808 ≤ n) (h1 : n ≤ 9223372036854775807) (w : World) (htab : Lib.TabIs Tryz.prog w "internal/strconv.uint64pow10" .u64 Lib.pow10Tab) :
 Calls Tryz.prog 80 #[.int .i64 n] w fun e w' => e = .returned (.string ⟨(Lib.itoa n).toArray⟩) ∧ ∃ k os, w' = grow (w.drewN k) os := Any.strconv_Itoa Tryz.laysM171 n h0 h1 w htab
def Tryz.laysM182_ren : Go.Shelf.Ren := ⟨fun | 182 => 181 | n => n, fun | 130 => 200 | 9 => 9 | 4 => 4 | 0 => 0 | 93 => 183 | 37 => 99 | 3 => 3 | 91 => 181 | 5 => 5 | n => n, fun | n => n⟩
theorem Tryz.laysM182 : Go.Proofs.LaysM.n182 Tryz.prog Tryz.laysM182_ren := {
 mixed := by kernel_rfl
 f182 := Tryz.func181.trans (congrArg some (by kernel_rfl))
 t0 := Tryz.underlying0
 a0 := Tryz.isAgg0
 z0 := Tryz.sizeOf0
 v0 := Tryz.zeroValue0
 t3 := Tryz.underlying3
 a3 := Tryz.isAgg3
 z3 := Tryz.sizeOf3
 v3 := Tryz.zeroValue3
 t4 := Tryz.underlying4
 a4 := Tryz.isAgg4
 z4 := Tryz.sizeOf4
 v4 := Tryz.zeroValue4
 t9 := Tryz.underlying9
 a9 := Tryz.isAgg9
 z9 := Tryz.sizeOf9
 v9 := Tryz.zeroValue9
 t37 := Tryz.underlying99
 a37 := Tryz.isAgg99
 z37 := Tryz.sizeOf99
 v37 := Tryz.zeroValue99
 t93 := Tryz.underlying183
 a93 := Tryz.isAgg183
 z93 := Tryz.sizeOf183
 v93 := Tryz.zeroValue183
 t130 := Tryz.underlying200
 a130 := Tryz.isAgg200
 z130 := Tryz.sizeOf200
 v130 := Tryz.zeroValue200
 t5 := Tryz.underlying5
 a5 := Tryz.isAgg5
 z5 := Tryz.sizeOf5
 v5 := Tryz.zeroValue5
 t91 := Tryz.underlying181
 a91 := Tryz.isAgg181
 z91 := Tryz.sizeOf181
 v91 := Tryz.zeroValue181
 i0 := by kernel_rfl
 i3 := by kernel_rfl
 i4 := by kernel_rfl
 i5 := by kernel_rfl
 i9 := by kernel_rfl
 i37 := by kernel_rfl
 i91 := by kernel_rfl
 i93 := by kernel_rfl
 i130 := by kernel_rfl }
open Go.RowKit in
theorem Tryz.Buffer_String (B b : Nat) (l : List UInt8) (w : World) (h : Lib.IsBuffer 183 5 B b (Lib.byteCells l) w) :
 Calls Tryz.prog 181 #[.pointer (some ⟨b, 0, none⟩)] w fun e w' => e = .returned (.string ⟨l.toArray⟩) ∧ ∃ n, w' = w.drewN n := Any.Buffer_String Tryz.laysM182 B b l w h
def Tryz.laysC172_ren : Go.Shelf.Ren := ⟨fun | 172 => 75 | 244 => 117 | 245 => 118 | 247 => 155 | 279 => 156 | 280 => 157 | 281 => 158 | 282 => 159 | 287 => 186 | 316 => 187 | 171 => 80 | 205 => 188 | 321 => 202 | 322 => 203 | 243 => 123 | 246 => 164 | 283 => 190 | 284 => 191 | 285 => 192 | 286 => 193 | 129 => 148 | 317 => 204 | 318 => 205 | 319 => 206 | 320 => 207 | 337 => 211 | 338 => 212 | n => n, fun | 9 => 9 | 3 => 3 | 75 => 94 | 76 => 95 | 4 => 4 | 5 => 5 | 167 => 156 | 37 => 99 | 0 => 0 | 85 => 157 | 2 => 2 | 168 => 159 | 53 => 111 | 175 => 162 | 46 => 121 | 210 => 188 | 127 => 133 | 145 => 207 | 143 => 205 | 21 => 21 | 171 => 191 | 173 => 193 | 212 => 209 | 51 => 109 | 20 => 20 | 213 => 210 | 232 => 213 | 233 => 214 | 80 => 86 | n => n, fun | 15 => 1 | 16 => 2 | 17 => 3 | 18 => 5 | 19 => 6 | n => n⟩
theorem Tryz.laysC172 : Go.Proofs.LaysC.n172 Tryz.prog Tryz.laysC172_ren := {
 mixed := by kernel_rfl
 f129 := Tryz.func148.trans (congrArg some (by kernel_rfl))
 f171 := Tryz.func80.trans (congrArg some (by kernel_rfl))
 f172 := Tryz.func75.trans (congrArg some (by kernel_rfl))
 f205 := Tryz.func188.trans (congrArg some (by kernel_rfl))
 f243 := Tryz.func123.trans (congrArg some (by kernel_rfl))
 f244 := Tryz.func117.trans (congrArg some (by kernel_rfl))
 f245 := Tryz.func118.trans (congrArg some (by kernel_rfl))
 f246 := Tryz.func164.trans (congrArg some (by kernel_rfl))
 f247 := Tryz.func155.trans (congrArg some (by kernel_rfl))
 f279 := Tryz.func156.trans (congrArg some (by kernel_rfl))
 f280 := Tryz.func157.trans (congrArg some (by kernel_rfl))
 f281 := Tryz.func158.trans (congrArg some (by kernel_rfl))
 f282 := Tryz.func159.trans (congrArg some (by kernel_rfl))
 f283 := Tryz.func190.trans (congrArg some (by kernel_rfl))
 f284 := Tryz.func191.trans (congrArg some (by kernel_rfl))
 f285 := Tryz.func192.trans (congrArg some (by kernel_rfl))
 f286 := Tryz.func193.trans (congrArg some (by kernel_rfl))
 f287 := Tryz.func186.trans (congrArg some (by kernel_rfl))
 f316 := Tryz.func187.trans (congrArg some (by kernel_rfl))
 f317 := Tryz.func204.trans (congrArg some (by kernel_rfl))
 f318 := Tryz.func205.trans (congrArg some (by kernel_rfl))
 f319 := Tryz.func206.trans (congrArg some (by kernel_rfl))
 f320 := Tryz.func207.trans (congrArg some (by kernel_rfl))
 f321 := Tryz.func202.trans (congrArg some (by kernel_rfl))
 f322 := Tryz.func203.trans (congrArg some (by kernel_rfl))
 f337 := Tryz.func211.trans (congrArg some (by kernel_rfl))
 f338 := Tryz.func212.trans (congrArg some (by kernel_rfl))
 t0 := Tryz.underlying0
 a0 := Tryz.isAgg0
 z0 := Tryz.sizeOf0
 v0 := Tryz.zeroValue0
 t2 := Tryz.underlying2
 a2 := Tryz.isAgg2
 z2 := Tryz.sizeOf2
 v2 := Tryz.zeroValue2
 t3 := Tryz.underlying3
 a3 := Tryz.isAgg3
 z3 := Tryz.sizeOf3
 v3 := Tryz.zeroValue3
 t4 := Tryz.underlying4
 a4 := Tryz.isAgg4
 z4 := Tryz.sizeOf4
 v4 := Tryz.zeroValue4
 t5 := Tryz.underlying5
 a5 := Tryz.isAgg5
 z5 := Tryz.sizeOf5
 v5 := Tryz.zeroValue5
 t9 := Tryz.underlying9
 a9 := Tryz.isAgg9
 z9 := Tryz.sizeOf9
 v9 := Tryz.zeroValue9
 t20 := Tryz.underlying20
 a20 := Tryz.isAgg20
 z20 := Tryz.sizeOf20
 v20 := Tryz.zeroValue20
 t21 := Tryz.underlying21
 a21 := Tryz.isAgg21
 z21 := Tryz.sizeOf21
 v21 := Tryz.zeroValue21
 t37 := Tryz.underlying99
 a37 := Tryz.isAgg99
 z37 := Tryz.sizeOf99
 v37 := Tryz.zeroValue99
 t46 := Tryz.underlying121
 a46 := Tryz.isAgg121
 z46 := Tryz.sizeOf121
 v46 := Tryz.zeroValue121
 t51 := Tryz.underlying109
 a51 := Tryz.isAgg109
 z51 := Tryz.sizeOf109
 v51 := Tryz.zeroValue109
 t53 := Tryz.underlying111
 a53 := Tryz.isAgg111
 z53 := Tryz.sizeOf111
 v53 := Tryz.zeroValue111
 t75 := Tryz.underlying94
 a75 := Tryz.isAgg94
 z75 := Tryz.sizeOf94
 v75 := Tryz.zeroValue94
 t76 := Tryz.underlying95
 a76 := Tryz.isAgg95
 z76 := Tryz.sizeOf95
 v76 := Tryz.zeroValue95
 t85 := Tryz.underlying157
 a85 := Tryz.isAgg157
 z85 := Tryz.sizeOf157
 v85 := Tryz.zeroValue157
 t127 := Tryz.underlying133
 a127 := Tryz.isAgg133
 z127 := Tryz.sizeOf133
 v127 := Tryz.zeroValue133
 t143 := Tryz.underlying205
 a143 := Tryz.isAgg205
 z143 := Tryz.sizeOf205
 v143 := Tryz.zeroValue205
 t145 := Tryz.underlying207
 a145 := Tryz.isAgg207
 z145 := Tryz.sizeOf207
 v145 := Tryz.zeroValue207
 t167 := Tryz.underlying156
 a167 := Tryz.isAgg156
 z167 := Tryz.sizeOf156
 v167 := Tryz.zeroValue156
 t168 := Tryz.underlying159
 a168 := Tryz.isAgg159
 z168 := Tryz.sizeOf159
 v168 := Tryz.zeroValue159
 t171 := Tryz.underlying191
 a171 := Tryz.isAgg191
 z171 := Tryz.sizeOf191
 v171 := Tryz.zeroValue191
 t173 := Tryz.underlying193
 a173 := Tryz.isAgg193
 z173 := Tryz.sizeOf193
 v173 := Tryz.zeroValue193
 t175 := Tryz.underlying162
 a175 := Tryz.isAgg162
 z175 := Tryz.sizeOf162
 v175 := Tryz.zeroValue162
 t210 := Tryz.underlying188
 a210 := Tryz.isAgg188
 z210 := Tryz.sizeOf188
 v210 := Tryz.zeroValue188
 t212 := Tryz.underlying209
 a212 := Tryz.isAgg209
 z212 := Tryz.sizeOf209
 v212 := Tryz.zeroValue209
 t213 := Tryz.underlying210
 a213 := Tryz.isAgg210
 z213 := Tryz.sizeOf210
 t232 := Tryz.underlying213
 a232 := Tryz.isAgg213
 z232 := Tryz.sizeOf213
 v232 := Tryz.zeroValue213
 t233 := Tryz.underlying214
 a233 := Tryz.isAgg214
 z233 := Tryz.sizeOf214
 v233 := Tryz.zeroValue214
 g15 := by kernel_rfl
 g16 := by kernel_rfl
 g17 := by kernel_rfl
 g18 := by kernel_rfl
 g19 := by kernel_rfl
 t80 := Tryz.underlying86
 a80 := Tryz.isAgg86
 z80 := Tryz.sizeOf86
 v80 := Tryz.zeroValue86
 i0 := by kernel_rfl
 i2 := by kernel_rfl
 i3 := by kernel_rfl
 i4 := by kernel_rfl
 i5 := by kernel_rfl
 i9 := by kernel_rfl
 i20 := by kernel_rfl
 i21 := by kernel_rfl
 i37 := by kernel_rfl
 i46 := by kernel_rfl
 i51 := by kernel_rfl
 i53 := by kernel_rfl
 i75 := by kernel_rfl
 i76 := by kernel_rfl
 i80 := by kernel_rfl
 i85 := by kernel_rfl
 i127 := by kernel_rfl
 i143 := by kernel_rfl
 i145 := by kernel_rfl
 i167 := by kernel_rfl
 i168 := by kernel_rfl
 i171 := by kernel_rfl
 i173 := by kernel_rfl
 i175 := by kernel_rfl
 i210 := by kernel_rfl
 i212 := by kernel_rfl
 i232 := by kernel_rfl
 i233 := by kernel_rfl
 m15 := by kernel_rfl
 m16 := by kernel_rfl
 m17 := by kernel_rfl
 m18 := by kernel_rfl
 m19 := by kernel_rfl
 c0 := by kernel_rfl
 c2 := by kernel_rfl
 c3 := by kernel_rfl
 c4 := by kernel_rfl
 c5 := by kernel_rfl
 c9 := by kernel_rfl
 c20 := by kernel_rfl
 c21 := by kernel_rfl
 c37 := by kernel_rfl
 c46 := by kernel_rfl
 c51 := by kernel_rfl
 c53 := by kernel_rfl
 c75 := by kernel_rfl
 c76 := by kernel_rfl
 c80 := by kernel_rfl
 c85 := by kernel_rfl
 c127 := by kernel_rfl
 c143 := by kernel_rfl
 c145 := by kernel_rfl
 c167 := by kernel_rfl
 c168 := by kernel_rfl
 c171 := by kernel_rfl
 c173 := by kernel_rfl
 c175 := by kernel_rfl
 c210 := by kernel_rfl
 c212 := by kernel_rfl
 c213 := by kernel_rfl
 c232 := by kernel_rfl
 c233 := by kernel_rfl }
open Go.RowKit in
theorem Tryz.strconv_Atoi_ok (s : ByteArray) (hmax : s.size ≤ 9223372036854775806) (v : Int) (h : Lib.atoiAll s.data.toList = .ok v) (w : World) :
 Calls Tryz.prog 75 #[.string s] w fun e w' => e = .returned (.tuple #[.int .i64 v, .nilIface]) ∧ (w' = w ∨ ∃ t, w' = Lib.bytesWorld w 5 t) := Any.strconv_Atoi_ok Tryz.laysC172 s hmax v h w
def Tryz.laysPu14_ren : Go.Shelf.Ren := ⟨fun | 14 => 161 | 16 => 186 | 17 => 118 | 19 => 202 | 20 => 203 | 21 => 156 | 22 => 157 | 23 => 158 | 24 => 159 | 25 => 187 | 27 => 80 | 26 => 188 | 28 => 123 | 29 => 164 | 30 => 190 | 31 => 191 | 32 => 192 | 33 => 193 | 35 => 148 | 34 => 204 | 36 => 205 | 37 => 206 | 38 => 207 | 39 => 211 | 40 => 212 | n => n, fun | 9 => 9 | 3 => 3 | 22 => 111 | 24 => 94 | 25 => 162 | 4 => 4 | 34 => 156 | 5 => 5 | 36 => 121 | 37 => 99 | 0 => 0 | 39 => 159 | 21 => 21 | 44 => 188 | 47 => 133 | 50 => 207 | 48 => 205 | 2 => 2 | 52 => 191 | 55 => 193 | 59 => 209 | 60 => 109 | 20 => 20 | 61 => 210 | 65 => 213 | 66 => 214 | 67 => 86 | n => n, fun | 0 => 1 | 1 => 2 | 2 => 3 | 3 => 5 | 4 => 6 | n => n⟩
theorem Tryz.laysPu14 : Go.Proofs.LaysPu.n14 Tryz.prog Tryz.laysPu14_ren := {
 mixed := by kernel_rfl
 f14 := Tryz.func161.trans (congrArg some (by kernel_rfl))
 f16 := Tryz.func186.trans (congrArg some (by kernel_rfl))
 f17 := Tryz.func118.trans (congrArg some (by kernel_rfl))
 f19 := Tryz.func202.trans (congrArg some (by kernel_rfl))
 f20 := Tryz.func203.trans (congrArg some (by kernel_rfl))
 f21 := Tryz.func156.trans (congrArg some (by kernel_rfl))
 f22 := Tryz.func157.trans (congrArg some (by kernel_rfl))
 f23 := Tryz.func158.trans (congrArg some (by kernel_rfl))
 f24 := Tryz.func159.trans (congrArg some (by kernel_rfl))
 f25 := Tryz.func187.trans (congrArg some (by kernel_rfl))
 f26 := Tryz.func188.trans (congrArg some (by kernel_rfl))
 f27 := Tryz.func80.trans (congrArg some (by kernel_rfl))
 f28 := Tryz.func123.trans (congrArg some (by kernel_rfl))
 f29 := Tryz.func164.trans (congrArg some (by kernel_rfl))
 f30 := Tryz.func190.trans (congrArg some (by kernel_rfl))
 f31 := Tryz.func191.trans (congrArg some (by kernel_rfl))
 f32 := Tryz.func192.trans (congrArg some (by kernel_rfl))
 f33 := Tryz.func193.trans (congrArg some (by kernel_rfl))
 f34 := Tryz.func204.trans (congrArg some (by kernel_rfl))
 f35 := Tryz.func148.trans (congrArg some (by kernel_rfl))
 f36 := Tryz.func205.trans (congrArg some (by kernel_rfl))
 f37 := Tryz.func206.trans (congrArg some (by kernel_rfl))
 f38 := Tryz.func207.trans (congrArg some (by kernel_rfl))
 f39 := Tryz.func211.trans (congrArg some (by kernel_rfl))
 f40 := Tryz.func212.trans (congrArg some (by kernel_rfl))
 t0 := Tryz.underlying0
 a0 := Tryz.isAgg0
 z0 := Tryz.sizeOf0
 v0 := Tryz.zeroValue0
 i0 := by kernel_rfl
 t2 := Tryz.underlying2
 a2 := Tryz.isAgg2
 z2 := Tryz.sizeOf2
 v2 := Tryz.zeroValue2
 i2 := by kernel_rfl
 t3 := Tryz.underlying3
 a3 := Tryz.isAgg3
 z3 := Tryz.sizeOf3
 v3 := Tryz.zeroValue3
 i3 := by kernel_rfl
 t4 := Tryz.underlying4
 a4 := Tryz.isAgg4
 z4 := Tryz.sizeOf4
 v4 := Tryz.zeroValue4
 i4 := by kernel_rfl
 t5 := Tryz.underlying5
 a5 := Tryz.isAgg5
 z5 := Tryz.sizeOf5
 v5 := Tryz.zeroValue5
 i5 := by kernel_rfl
 t9 := Tryz.underlying9
 a9 := Tryz.isAgg9
 z9 := Tryz.sizeOf9
 v9 := Tryz.zeroValue9
 i9 := by kernel_rfl
 t20 := Tryz.underlying20
 a20 := Tryz.isAgg20
 z20 := Tryz.sizeOf20
 v20 := Tryz.zeroValue20
 i20 := by kernel_rfl
 t21 := Tryz.underlying21
 a21 := Tryz.isAgg21
 z21 := Tryz.sizeOf21
 v21 := Tryz.zeroValue21
 i21 := by kernel_rfl
 t22 := Tryz.underlying111
 a22 := Tryz.isAgg111
 z22 := Tryz.sizeOf111
 v22 := Tryz.zeroValue111
 i22 := by kernel_rfl
 t24 := Tryz.underlying94
 a24 := Tryz.isAgg94
 z24 := Tryz.sizeOf94
 v24 := Tryz.zeroValue94
 i24 := by kernel_rfl
 t25 := Tryz.underlying162
 a25 := Tryz.isAgg162
 z25 := Tryz.sizeOf162
 v25 := Tryz.zeroValue162
 i25 := by kernel_rfl
 t34 := Tryz.underlying156
 a34 := Tryz.isAgg156
 z34 := Tryz.sizeOf156
 v34 := Tryz.zeroValue156
 i34 := by kernel_rfl
 c34 := by kernel_rfl
 t36 := Tryz.underlying121
 a36 := Tryz.isAgg121
 z36 := Tryz.sizeOf121
 v36 := Tryz.zeroValue121
 i36 := by kernel_rfl
 t37 := Tryz.underlying99
 a37 := Tryz.isAgg99
 z37 := Tryz.sizeOf99
 v37 := Tryz.zeroValue99
 i37 := by kernel_rfl
 t39 := Tryz.underlying159
 a39 := Tryz.isAgg159
 z39 := Tryz.sizeOf159
 v39 := Tryz.zeroValue159
 i39 := by kernel_rfl
 t44 := Tryz.underlying188
 a44 := Tryz.isAgg188
 z44 := Tryz.sizeOf188
 v44 := Tryz.zeroValue188
 i44 := by kernel_rfl
 t47 := Tryz.underlying133
 a47 := Tryz.isAgg133
 z47 := Tryz.sizeOf133
 v47 := Tryz.zeroValue133
 i47 := by kernel_rfl
 t48 := Tryz.underlying205
 a48 := Tryz.isAgg205
 z48 := Tryz.sizeOf205
 v48 := Tryz.zeroValue205
 i48 := by kernel_rfl
 t50 := Tryz.underlying207
 a50 := Tryz.isAgg207
 z50 := Tryz.sizeOf207
 v50 := Tryz.zeroValue207
 i50 := by kernel_rfl
 t52 := Tryz.underlying191
 a52 := Tryz.isAgg191
 z52 := Tryz.sizeOf191
 v52 := Tryz.zeroValue191
 i52 := by kernel_rfl
 t55 := Tryz.underlying193
 a55 := Tryz.isAgg193
 z55 := Tryz.sizeOf193
 v55 := Tryz.zeroValue193
 i55 := by kernel_rfl
 t59 := Tryz.underlying209
 a59 := Tryz.isAgg209
 z59 := Tryz.sizeOf209
 v59 := Tryz.zeroValue209
 i59 := by kernel_rfl
 t60 := Tryz.underlying109
 a60 := Tryz.isAgg109
 z60 := Tryz.sizeOf109
 v60 := Tryz.zeroValue109
 i60 := by kernel_rfl
 t61 := Tryz.underlying210
 a61 := Tryz.isAgg210
 z61 := Tryz.sizeOf210
 t65 := Tryz.underlying213
 a65 := Tryz.isAgg213
 z65 := Tryz.sizeOf213
 v65 := Tryz.zeroValue213
 i65 := by kernel_rfl
 t66 := Tryz.underlying214
 a66 := Tryz.isAgg214
 z66 := Tryz.sizeOf214
 v66 := Tryz.zeroValue214
 i66 := by kernel_rfl
 t67 := Tryz.underlying86
 a67 := Tryz.isAgg86
 z67 := Tryz.sizeOf86
 v67 := Tryz.zeroValue86
 i67 := by kernel_rfl
 g0 := by kernel_rfl
 m0 := by kernel_rfl
 g1 := by kernel_rfl
 m1 := by kernel_rfl
 g2 := by kernel_rfl
 m2 := by kernel_rfl
 g3 := by kernel_rfl
 m3 := by kernel_rfl
 g4 := by kernel_rfl
 m4 := by kernel_rfl }
open Go.RowKit in
theorem Tryz.strconv_ParseUint_10_at32_ok (s : ByteArray) (hmax : s.size ≤ 9223372036854775806) (u : Nat) (h : Lib.parseUintB 32 s.data.toList = .ok u) (w : World) :
 Calls Tryz.prog 161 #[.string s, .int .i64 10, .int .i64 32] w fun e w' => e = .returned (.tuple #[.int .u64 u, .nilIface]) ∧ (w' = w ∨ w' = Lib.bytesWorld w 5 s) := Any.strconv_ParseUint_10_at32_ok Tryz.laysPu14 s hmax u h w
def Tryz.lays145_ren : Go.Shelf.Ren := ⟨fun | 145 => 73 | 220 => 116 | 219 => 154 | 217 => 182 | 225 => 183 | 224 => 184 | 267 => 185 | 266 => 200 | 314 => 201 | n => n, fun | 9 => 9 | 4 => 4 | 59 => 84 | 3 => 3 | 5 => 5 | 46 => 121 | 146 => 202 | 51 => 109 | n => n, fun | 1 => 0 | n => n⟩
theorem Tryz.lays145 : Go.Proofs.Lays.n145 Tryz.prog Tryz.lays145_ren := {
 mixed := by kernel_rfl
 f145 := Tryz.func73.trans (congrArg some (by kernel_rfl))
 f217 := Tryz.func182.trans (congrArg some (by kernel_rfl))
 f219 := Tryz.func154.trans (congrArg some (by kernel_rfl))
 f220 := Tryz.func116.trans (congrArg some (by kernel_rfl))
 f224 := Tryz.func184.trans (congrArg some (by kernel_rfl))
 f225 := Tryz.func183.trans (congrArg some (by kernel_rfl))
 f266 := Tryz.func200.trans (congrArg some (by kernel_rfl))
 f267 := Tryz.func185.trans (congrArg some (by kernel_rfl))
 f314 := Tryz.func201.trans (congrArg some (by kernel_rfl))
 t3 := Tryz.underlying3
 a3 := Tryz.isAgg3
 z3 := Tryz.sizeOf3
 v3 := Tryz.zeroValue3
 t4 := Tryz.underlying4
 a4 := Tryz.isAgg4
 z4 := Tryz.sizeOf4
 v4 := Tryz.zeroValue4
 t5 := Tryz.underlying5
 a5 := Tryz.isAgg5
 z5 := Tryz.sizeOf5
 v5 := Tryz.zeroValue5
 t9 := Tryz.underlying9
 a9 := Tryz.isAgg9
 z9 := Tryz.sizeOf9
 v9 := Tryz.zeroValue9
 t46 := Tryz.underlying121
 a46 := Tryz.isAgg121
 z46 := Tryz.sizeOf121
 v46 := Tryz.zeroValue121
 t51 := Tryz.underlying109
 a51 := Tryz.isAgg109
 z51 := Tryz.sizeOf109
 v51 := Tryz.zeroValue109
 t59 := Tryz.underlying84
 a59 := Tryz.isAgg84
 z59 := Tryz.sizeOf84
 v59 := Tryz.zeroValue84
 t146 := Tryz.underlying202
 a146 := Tryz.isAgg202
 z146 := Tryz.sizeOf202
 v146 := Tryz.zeroValue202
 g1 := by kernel_rfl }
open Go.RowKit Go.Lib in
theorem Tryz.strings_Cut (s sep : ByteArray) (m : Int) (w : World) (hs : s.size < 4294967281) (hm : w.cell? ⟨0, 0, none⟩ = some (.int .i64 m)) :
 Calls Tryz.prog 73 #[.string s, .string sep] w fun e w' => e = .returned (.tuple #[.string ⟨(Lib.cut s.data.toList sep.data.toList).1.toArray⟩, .string ⟨(Lib.cut s.data.toList sep.data.toList).2.1.toArray⟩, .bool (Lib.cut s.data.toList sep.data.toList).2.2]) ∧ ∃ n, w' = w.drewN n := Any.strings_Cut Tryz.lays145 s sep m w hs hm
def Tryz.laysM179_ren : Go.Shelf.Ren := ⟨fun | 179 => 179 | 251 => 198 | 252 => 199 | 181 => 208 | 184 => 209 | 290 => 210 | 324 => 213 | n => n, fun | 130 => 200 | 5 => 5 | 75 => 94 | 0 => 0 | 93 => 183 | 91 => 181 | 3 => 3 | 131 => 147 | 4 => 4 | 37 => 99 | 20 => 20 | 80 => 86 | 9 => 9 | n => n, fun | 14 => 4 | n => n⟩
theorem Tryz.laysM179 : Go.Proofs.LaysM.n179 Tryz.prog Tryz.laysM179_ren := {
 mixed := by kernel_rfl
 f179 := Tryz.func179.trans (congrArg some (by kernel_rfl))
 f181 := Tryz.func208.trans (congrArg some (by kernel_rfl))
 f184 := Tryz.func209.trans (congrArg some (by kernel_rfl))
 f251 := Tryz.func198.trans (congrArg some (by kernel_rfl))
 f252 := Tryz.func199.trans (congrArg some (by kernel_rfl))
 f290 := Tryz.func210.trans (congrArg some (by kernel_rfl))
 f324 := Tryz.func213.trans (congrArg some (by kernel_rfl))
 t0 := Tryz.underlying0
 a0 := Tryz.isAgg0
 z0 := Tryz.sizeOf0
 v0 := Tryz.zeroValue0
 t3 := Tryz.underlying3
 a3 := Tryz.isAgg3
 z3 := Tryz.sizeOf3
 v3 := Tryz.zeroValue3
 t4 := Tryz.underlying4
 a4 := Tryz.isAgg4
 z4 := Tryz.sizeOf4
 v4 := Tryz.zeroValue4
 t5 := Tryz.underlying5
 a5 := Tryz.isAgg5
 z5 := Tryz.sizeOf5
 v5 := Tryz.zeroValue5
 t20 := Tryz.underlying20
 a20 := Tryz.isAgg20
 z20 := Tryz.sizeOf20
 v20 := Tryz.zeroValue20
 t37 := Tryz.underlying99
 a37 := Tryz.isAgg99
 z37 := Tryz.sizeOf99
 v37 := Tryz.zeroValue99
 t75 := Tryz.underlying94
 a75 := Tryz.isAgg94
 z75 := Tryz.sizeOf94
 v75 := Tryz.zeroValue94
 t91 := Tryz.underlying181
 a91 := Tryz.isAgg181
 z91 := Tryz.sizeOf181
 v91 := Tryz.zeroValue181
 t93 := Tryz.underlying183
 a93 := Tryz.isAgg183
 z93 := Tryz.sizeOf183
 v93 := Tryz.zeroValue183
 t130 := Tryz.underlying200
 a130 := Tryz.isAgg200
 z130 := Tryz.sizeOf200
 v130 := Tryz.zeroValue200
 t131 := Tryz.underlying147
 a131 := Tryz.isAgg147
 z131 := Tryz.sizeOf147
 v131 := Tryz.zeroValue147
 g14 := by kernel_rfl
 t9 := Tryz.underlying9
 a9 := Tryz.isAgg9
 z9 := Tryz.sizeOf9
 v9 := Tryz.zeroValue9
 t80 := Tryz.underlying86
 a80 := Tryz.isAgg86
 z80 := Tryz.sizeOf86
 v80 := Tryz.zeroValue86
 i0 := by kernel_rfl
 i3 := by kernel_rfl
 i4 := by kernel_rfl
 i5 := by kernel_rfl
 i9 := by kernel_rfl
 i20 := by kernel_rfl
 i37 := by kernel_rfl
 i75 := by kernel_rfl
 i80 := by kernel_rfl
 i91 := by kernel_rfl
 i93 := by kernel_rfl
 i130 := by kernel_rfl
 i131 := by kernel_rfl
 m14 := by kernel_rfl }
def Tryz.laysM178_ren : Go.Shelf.Ren := ⟨fun | 178 => 180 | 251 => 198 | 252 => 199 | 181 => 208 | 184 => 209 | 290 => 210 | 324 => 213 | n => n, fun | 130 => 200 | 9 => 9 | 3 => 3 | 75 => 94 | 0 => 0 | 93 => 183 | 91 => 181 | 131 => 147 | 4 => 4 | 37 => 99 | 20 => 20 | 80 => 86 | 5 => 5 | n => n, fun | 14 => 4 | n => n⟩
theorem Tryz.laysM178 : Go.Proofs.LaysM.n178 Tryz.prog Tryz.laysM178_ren := {
 mixed := by kernel_rfl
 f178 := Tryz.func180.trans (congrArg some (by kernel_rfl))
 f181 := Tryz.func208.trans (congrArg some (by kernel_rfl))
 f184 := Tryz.func209.trans (congrArg some (by kernel_rfl))
 f251 := Tryz.func198.trans (congrArg some (by kernel_rfl))
 f252 := Tryz.func199.trans (congrArg some (by kernel_rfl))
 f290 := Tryz.func210.trans (congrArg some (by kernel_rfl))
 f324 := Tryz.func213.trans (congrArg some (by kernel_rfl))
 t0 := Tryz.underlying0
 a0 := Tryz.isAgg0
 z0 := Tryz.sizeOf0
 v0 := Tryz.zeroValue0
 t3 := Tryz.underlying3
 a3 := Tryz.isAgg3
 z3 := Tryz.sizeOf3
 v3 := Tryz.zeroValue3
 t4 := Tryz.underlying4
 a4 := Tryz.isAgg4
 z4 := Tryz.sizeOf4
 v4 := Tryz.zeroValue4
 t9 := Tryz.underlying9
 a9 := Tryz.isAgg9
 z9 := Tryz.sizeOf9
 v9 := Tryz.zeroValue9
 t20 := Tryz.underlying20
 a20 := Tryz.isAgg20
 z20 := Tryz.sizeOf20
 v20 := Tryz.zeroValue20
 t37 := Tryz.underlying99
 a37 := Tryz.isAgg99
 z37 := Tryz.sizeOf99
 v37 := Tryz.zeroValue99
 t75 := Tryz.underlying94
 a75 := Tryz.isAgg94
 z75 := Tryz.sizeOf94
 v75 := Tryz.zeroValue94
 t91 := Tryz.underlying181
 a91 := Tryz.isAgg181
 z91 := Tryz.sizeOf181
 v91 := Tryz.zeroValue181
 t93 := Tryz.underlying183
 a93 := Tryz.isAgg183
 z93 := Tryz.sizeOf183
 v93 := Tryz.zeroValue183
 t130 := Tryz.underlying200
 a130 := Tryz.isAgg200
 z130 := Tryz.sizeOf200
 v130 := Tryz.zeroValue200
 t131 := Tryz.underlying147
 a131 := Tryz.isAgg147
 z131 := Tryz.sizeOf147
 v131 := Tryz.zeroValue147
 g14 := by kernel_rfl
 t5 := Tryz.underlying5
 a5 := Tryz.isAgg5
 z5 := Tryz.sizeOf5
 v5 := Tryz.zeroValue5
 t80 := Tryz.underlying86
 a80 := Tryz.isAgg86
 z80 := Tryz.sizeOf86
 v80 := Tryz.zeroValue86
 i0 := by kernel_rfl
 i3 := by kernel_rfl
 i4 := by kernel_rfl
 i5 := by kernel_rfl
 i9 := by kernel_rfl
 i20 := by kernel_rfl
 i37 := by kernel_rfl
 i75 := by kernel_rfl
 i80 := by kernel_rfl
 i91 := by kernel_rfl
 i93 := by kernel_rfl
 i130 := by kernel_rfl
 i131 := by kernel_rfl
 m14 := by kernel_rfl }
open Go.RowKit in
theorem Tryz.Buffer_WriteByte_k (B b : Nat) (bs : List Value) (c : Int) (w : World) (h : Lib.IsBuffer 183 5 B b bs w) (hBw : B ≤ w.heap.size) (h1 : ∀ v ∈ bs, v.oneCell' = true) (hlim : bs.length + 1 ≤ 140737488355328) :
 Calls Tryz.prog 179 #[.pointer (some ⟨b, 0, none⟩), .int .u8 c] w fun e w' => e = .returned .nilIface ∧ Lib.IsBuffer 183 5 B b (bs ++ [.int .u8 c]) w' ∧ Below B w w' ∧ Lib.OthersKept 5 (some b) w w' := Any.Buffer_WriteByte_k Tryz.laysM179 B b bs c w h hBw h1 hlim
open Go.RowKit in
theorem Tryz.Buffer_WriteString_k (B b : Nat) (bs : List Value) (s : ByteArray) (w : World) (h : Lib.IsBuffer 183 5 B b bs w) (hBw : B ≤ w.heap.size) (h1 : ∀ v ∈ bs, v.oneCell' = true) (hlim : bs.length + s.size ≤ 140737488355328) :
 Calls Tryz.prog 180 #[.pointer (some ⟨b, 0, none⟩), .string s] w fun e w' => e = .returned (.tuple #[.int .i64 s.size, .nilIface]) ∧ Lib.IsBuffer 183 5 B b (bs ++ Lib.byteCells s.data.toList) w' ∧ Below B w w' ∧ Lib.OthersKept 5 (some b) w w' := Any.Buffer_WriteString_k Tryz.laysM178 B b bs s w h hBw h1 hlim
def Tryz.lays111_ren : Go.Shelf.Ren := ⟨fun | 111 => 26 | n => n, fun | 28 => 43 | 3 => 3 | 4 => 4 | 0 => 0 | n => n, fun | n => n⟩
theorem Tryz.lays111 : Go.Proofs.Lays.n111 Tryz.prog Tryz.lays111_ren := {
 mixed := by kernel_rfl
 f111 := Tryz.func26.trans (congrArg some (by kernel_rfl))
 t0 := Tryz.underlying0
 a0 := Tryz.isAgg0
 z0 := Tryz.sizeOf0
 v0 := Tryz.zeroValue0
 t3 := Tryz.underlying3
 a3 := Tryz.isAgg3
 z3 := Tryz.sizeOf3
 v3 := Tryz.zeroValue3
 t4 := Tryz.underlying4
 a4 := Tryz.isAgg4
 z4 := Tryz.sizeOf4
 v4 := Tryz.zeroValue4
 t28 := Tryz.underlying43
 a28 := Tryz.isAgg43
 z28 := Tryz.sizeOf43
 v28 := Tryz.zeroValue43 }
open Go.RowKit Go.Lib in
theorem Tryz.slices_Equal_int (b1 o1 n c b2 o2 m d : Nat) (xs ys : List Int) (w : World) (hx : n ≤ xs.length) (hy : m ≤ ys.length) (hbig : n ≤ 9223372036854775807) (hbig2 : m ≤ 9223372036854775807) (hc1 : ∀ j, j < xs.length → w.cell? ⟨b1, o1 + j, none⟩ = some (.int .i64 (xs.getD j 0))) (hc2 : ∀ j, j < ys.length → w.cell? ⟨b2, o2 + j, none⟩ = some (.int .i64 (ys.getD j 0))) :
 Calls Tryz.prog 26 #[.slice (some ⟨b1, o1, none⟩) n c, .slice (some ⟨b2, o2, none⟩) m d] w fun e w' => e = .returned (.bool (xs.take n == ys.take m)) ∧ ∃ q, w' = w.drewN q := Any.slices_Equal_int Tryz.lays111 b1 o1 n c b2 o2 m d xs ys w hx hy hbig hbig2 hc1 hc2
open Go.RowKit Go.Lib in
theorem Tryz.slices_Equal_int_empty (a1 a2 : Option Addr) (c m d : Nat) (w : World) (hbig2 : m ≤ 9223372036854775807) :
 Calls Tryz.prog 26 #[.slice a1 0 c, .slice a2 m d] w fun e w' => e = .returned (.bool (decide (m = 0))) ∧ w' = w := Any.slices_Equal_int_empty Tryz.lays111 a1 a2 c m d w hbig2
open Go.RowKit Go.Lib in
theorem Tryz.slices_Equal_int_lens (a1 a2 : Option Addr) (n c m d : Nat) (w : World) (hnm : n ≠ m) :
 Calls Tryz.prog 26 #[.slice a1 n c, .slice a2 m d] w fun e w' => e = .returned (.bool false) ∧ w' = w := Any.slices_Equal_int_lens Tryz.lays111 a1 a2 n c m d w hnm
end Go.Proofs
namespace Go.Proofs.YtgcigdahjabimaaGreatDoor
open Go.RowKit Go.Shelf
attribute [local go_sem] Oper.semAt_some

section
variable {W W' : World} {B b : Nat} {bs : List Value}
abbrev Buf (B b : Nat) (bs : List Value) (w : World) : Prop := Lib.IsBuffer 183 5 B b bs w
def Wrote (B b : Nat) (W W' : World) : Prop := Below B W W' ∧ Lib.OthersKept 5 (some b) W W'
theorem Wrote.refl (B b : Nat) (W : World) : Wrote B b W W := ⟨Below.refl _ _, Lib.OthersKept.refl _ _ _⟩
theorem Wrote.trans {W'' : World} (h : Wrote B b W W') (k : Wrote B b W' W'') : Wrote B b W W'' := ⟨h.1.trans k.1, h.2.trans k.2⟩
theorem Wrote.of (h : Keeps W W') (hB : B ≤ W.heap.size) : Wrote B b W W' :=
 ⟨h.mono hB, fun k _ hk _ _ => (h.block k ((Array.getElem?_eq_some_iff.1 hk).1)).trans hk⟩
theorem Wrote.own {k : Nat} {t : TypeId} {vs : List Value} (h : Wrote B b W W') (ho : Own W k t vs) (hk : k ≠ b) (ht : t ≠ 5) : Own W' k t vs :=
 h.2 k _ ho (by simpa using hk) (fun c fz e => ht (by cases e; rfl))
theorem Wrote.size (h : Wrote B b W W') : W.heap.size ≤ W'.heap.size := h.1.size
theorem Wrote.from {m : Nat} (h : Wrote B b W W') (hb : Buf B b bs W) : KeepsFrom m W W' := by
 refine ⟨h.size, fun k o _ hk ho => ?_⟩
 obtain ⟨_, v, lr, hbk, _⟩ := hb
 refine h.2 k o hk (fun e => ?_) (fun c fz e => by subst e; simp [Obj.isCells] at ho)
 cases e
 rw [hbk] at hk
 cases hk
 simp [Obj.isCells] at ho
theorem Wrote.keeps {w : World} (h : Wrote B b W W') (hk : Keeps w W) (hB : w.heap.size ≤ B) : Keeps w W' := Below.trans hk (h.1.mono hB)
theorem Wrote.back {k : Nat} {t : TypeId} {vs : List Value} {n : Nat} (h : Wrote B b W W') (ho : Own W k t vs) (hk : k ≠ b) (ht : t ≠ 5) (hn : n ≤ B) : BackKp n k W W' :=
 ⟨h.1.mono hn, (h.own ho hk ht).trans ho.symm⟩
end
theorem Buf.nc {A B : World} {row : Option Nat} {B0 b : Nat} {bs : List Value} (h : Buf B0 b bs A) (hg : A.grownBy B row) (hr : ∀ r, row = some r → ∃ o : Obj, A.heap[r]? = some o ∧ o.isCells = false) : Buf B0 b bs B := by
 obtain ⟨hB, v, lr, hb, ⟨hl, hrow⟩, hne⟩ := h
 refine ⟨hB, v, lr, Own.nc (vs := [v, .int .i64 0, .int .i8 lr]) hb hg hr, ⟨hl, hrow.imp id ?_⟩, hne⟩
 rintro ⟨g, cap, cur, e, h1, h2, h3⟩
 exact ⟨g, cap, cur, e, h1, (by have := Own.nc (vs := cur.toList) (by simpa [Own] using h2) hg hr; simpa [Own] using this), h3⟩
theorem TabIs.keep {P : Program} {n : String} {g : Nat} {k : IntKind} {zs : List Int} {w w' : World} (hg : P.globalNamed n = some g) (h : Lib.TabIs P w n k zs) (hb : Keeps w w') : Lib.TabIs P w' n k zs := by
 unfold Lib.TabIs World.var? at h ⊢
 rw [hg] at h ⊢
 simp only [Option.bind_some] at h ⊢
 have hlt : g < w.heap.size := by
  rcases Nat.lt_or_ge g w.heap.size with h' | h'
  ·exact h'
  ·rw [Array.getElem?_eq_none h'] at h; simp at h
 rw [hb.block g hlt]
 exact h

def PowTab (w : World) : Prop := Lib.TabIs Tryz.prog w "internal/strconv.uint64pow10" .u64 Lib.pow10Tab
theorem PowTab.keep {w w' : World} (h : PowTab w) (hk : Keeps w w') : PowTab w' := TabIs.keep (g := 3) (by rfl) h hk
theorem itoa_any (x : Nat) (hx : x < 1000000000) (w : World) (h : PowTab w) :
 Calls Tryz.prog 80 #[.int .i64 (x : Nat)] w fun e w' => e = .returned (.string ⟨(Lib.decDigits x).toArray⟩) ∧ Keeps w w' := by
 refine (Tryz.strconv_Itoa (x : Nat) (by omega) (by omega) w h).mono ?_
 rintro e w' ⟨rfl, k, os, rfl⟩
 exact ⟨by rw [Lib.itoa_nonneg], Go.Lib.below_grow _ _ (Nat.le_refl _) _ _⟩
def sgnB (neg : Bool) : List UInt8 := if neg then [45] else []
theorem one_cells (l : List UInt8) : ∀ v ∈ Lib.byteCells l, v.oneCell' = true := by
 intro v hv
 simp only [Lib.byteCells, List.mem_map] at hv
 obtain ⟨b, -, rfl⟩ := hv
 rfl
theorem byteCells_append (a b : List UInt8) : Lib.byteCells (a ++ b) = Lib.byteCells a ++ Lib.byteCells b := by simp [Lib.byteCells]
theorem byteCells_length (a : List UInt8) : (Lib.byteCells a).length = a.length := by simp [Lib.byteCells]

set_option maxRecDepth 100000 in
set_option maxHeartbeats 400000 in
theorem text_zero (neg : Bool) (xs : List Nat) (V : Value) (w : World) (h : IntArg w V neg xs) (hm : xs.length ≤ 900000) (h0 : mag neg xs = 0) :
 Calls Tryz.prog 153 #[V] w fun e w' => e = .returned (.string ⟨#[48]⟩) ∧ Keeps w w' := by
 obtain ⟨v, rfl, hv⟩ := h
 have hkk := box2 w (.cells #[.bool neg, v] 29)
 have hG := Lib.hid (groups_any neg xs (.agg #[.bool neg, v]) _ ⟨v, rfl, hv.below hkk⟩ (by omega))
 rw [h0] at hG
 clear h0
 go_enter Tryz.func153, Tryz.ntmps153
 go_wp2_with fail
 refine hG.out.mono ?_
 rintro e w1 ⟨v1, rfl, hv1, hk1⟩
 obtain ⟨A, n, c, rfl, e1, -, -, -, -⟩ := hv1.open_
 rw [dig_zero] at e1
 simp only [List.length_nil] at e1
 subst e1
 go_wp2
 go_ret
 exact ⟨rfl, (hkk.trans' hk1).trans' (box2 _ _)⟩

set_option maxRecDepth 100000 in
set_option maxHeartbeats 1000000 in
theorem text_pos (neg : Bool) (xs : List Nat) (V : Value) (w : World) (m : Nat) (h : IntArg w V neg xs) (hm : xs.length ≤ 900000) (ht : PowTab w) (e0 : mag neg xs = m) (h0 : 0 < m) :
 Calls Tryz.prog 153 #[V] w fun e w' => e = .returned (.string ⟨(sgnB neg ++ Lib.decDigits m).toArray⟩) ∧ Keeps w w' := by
 obtain ⟨v, rfl, hv⟩ := h
 have hkk := box2 w (.cells #[.bool neg, v] 29)
 have hX := Own.new w 29 [.bool neg, v]
 have hG := Lib.hid (groups_any neg xs (.agg #[.bool neg, v]) _ ⟨v, rfl, hv.below hkk⟩ (by omega))
 have hle := mag_length neg xs
 have hpos : 0 < (dig m).length := by
  rcases Nat.eq_zero_or_pos (dig m).length with h | h
  ·have := val_dig m
   rw [List.eq_nil_of_length_eq_zero h] at this
   simp [val] at this
   omega
  ·exact h
 rw [e0] at hG hle
 clear e0
 refine (callsIn_wide (n := 4)).1 ?_
 refine callsIn_of_wp_marks Tryz.func153 rfl trivial ?_ rfl
 simp only [Tryz.ntmps153, List.size_toArray, List.length_cons, List.length_nil, Nat.reduceAdd, Nat.reduceSub, Array.replicate_succ, Array.replicate_zero, List.push_toArray, List.append_toArray, List.nil_append, List.cons_append]
 gi_wp2_with fail
 refine ⟨trivial, ?_⟩
 refine (callsIn_wide.2 hG.out).mono ?_
 rintro e w1 ⟨v1, rfl, hv1, hk1⟩
 have hk0 := hkk.trans' hk1
 obtain ⟨A, n, c, rfl, e1, hc, hcm, hA0, hr⟩ := hv1.open_
 have hX1 := hX.below hk1
 have hX2 := (hX1.alloc (.cells #[.slice A n c] 27)).alloc (.cells #[.slice none 0 0, .int .i64 0, .int .i8 0] 183)
 have x0 := hX2.c0
 have x0' := hX1.c0
 have hn : n ≤ 900000 := by omega
 have hn0 : ((n : Int) == 0) = false := by rw [beq_eq_false_iff_ne]; omega
 have hnz : ((0 : Int) < n) := by omega
 have HE := Lib.hid e1
 have hlt : ∀ b o, A = some ⟨b, o, none⟩ → 0 < n → b < w1.heap.size + 1 := fun b o e hp => Nat.lt_succ_of_lt (hr.lt e hp)
 clear e1 hle
 cases neg with
 | false =>
  have hB2 : Buf (w1.heap.size + 1) (w1.heap.size + 1) [] ((w1.alloc (.cells #[.slice A n c] 27)).alloc (.cells #[.slice none 0 0, .int .i64 0, .int .i8 0] 183)) := by
   have := Lib.fresh_isBuffer 183 5 (w1.alloc (.cells #[.slice A n c] 27))
   simpa using this
  have hG0 := (Own.new w1 27 [.slice A n c]).alloc (.cells #[.slice none 0 0, .int .i64 0, .int .i8 0] 183)
  have kW := keep2 w1 (.cells #[.slice A n c] 27) (.cells #[.slice none 0 0, .int .i64 0, .int .i8 0] 183)

  have hB0 : Buf (w1.heap.size + 1) (w1.heap.size + 1) (Lib.byteCells (sgnB false)) _ := hB2
  gi_wp2_with fail
  generalize ((w1.alloc (.cells #[.slice A n c] 27)).alloc (.cells #[.slice none 0 0, .int .i64 0, .int .i8 0] 183)) = W0 at *
  refine ⟨trivial, ?_⟩
  refine (callsIn_wide.2 (back_any A n c _)).mono ?_
  rintro e w' ⟨rfl, rfl⟩
  gi_wp2_with fail
  have hBl := hB0.lt
  have hS := Own.new W0 27 [.slice A n c]
  have hRW : Row (W0.alloc (.cells #[.slice A n c] 27)) A n (u32 (dig m)) := hr.below (kW.trans' (box2 _ _))
  have hB1 := hB0.alloc (.cells #[.slice A n c] 27)
  have hG1 := hG0.alloc (.cells #[.slice A n c] 27)
  have kW1 : Keeps w (W0.alloc (.cells #[.slice A n c] 27)) := (hk0.trans' kW).trans' (box2 _ _)
  have hkw : w.heap.size ≤ w1.heap.size := hk0.size
  apply wpIn_range_idx (N := n) rfl (by omega) (gf := 194) (lb := #[.pointer (some ⟨W0.heap.size, 0, none⟩)]) rfl trivial (enters_of Tryz.func194 (by kernel_rfl) rfl)
   (back_seq Fence.wide _ trivial rfl (by omega) W0.heap.size (w1.heap.size + 1) n c A (dig m) (by omega) _ hS hRW hlt) BackKp.t (BackKp.b (by simp; omega) (by simp)) bl (fun _ => rfl)
   (fun k W => Buf (w1.heap.size + 1) (w1.heap.size + 1) (Lib.byteCells (sgnB false ++ txt (val ((dig m).drop (n - k))))) W ∧ Own W w1.heap.size 27 [.slice A n c] ∧ Own W W0.heap.size 27 [.slice A n c] ∧ Keeps w W) (fun _ _ _ => False)
   (fun k A B row hs hg hr => ⟨hs.1.nc hg (fun r e => (hr r e).2), hs.2.1.nc hg (fun r e => (hr r e).2), hs.2.2.1.nc hg (fun r e => (hr r e).2), ownFrom_below (β := Nat) (Nat.le_refl _) (by simp; omega) k A B row hs.2.2.2 hg hr⟩)
   (fun _ _ _ _ _ hs _ _ => hs)
   ⟨by rw [Nat.sub_zero, List.drop_of_length_le (by rw [HE.out]; omega)]; simpa [val, txt] using hB1, hG1, hS, kW1⟩
  case hassign =>
   intro l x W K hK
   unfold backEnc
   gi_wp2
   exact hK
  case hbody =>
   rintro l k W ⟨h1, h2, h3, h4⟩ hk
   obtain ⟨q, hq⟩ : ∃ q, n - 1 - k = q := ⟨_, rfl⟩
   have hst := txt_round m n k q HE.out hk hq
   have hx := (AllB.dig m).ix q
   have hdl := decDigits_len (ix (dig m) q) hx
   have hI := Lib.hid (itoa_any (ix (dig m) q) hx W (PowTab.keep ht h4))
   have hxi : ((ix (dig m) q : Nat) : Int) < 1000000000 := by omega
   rw [hq]
   generalize ix (dig m) q = x at *
   generalize hds : Lib.decDigits x = ds at *
   generalize hV : txt (val ((dig m).drop (n - k))) = tv at *
   have htl : tv.length ≤ 8100000 := by
    have := txt_drop_len m (n - k)
    rw [hV, HE.out] at this
    omega
   have hqk : q + k + 1 = n := by omega
   have HQ := Lib.hid hqk
   have HST := Lib.hid hst
   have HDS := Lib.hid hds
   have HTL := Lib.hid htl
   have HK := Lib.hid hk
   have HL := Lib.hid hdl
   have hL9 : ((ds.length : Nat) : Int) ≤ 9 := by omega
   have hni : ((n : Nat) : Int) ≤ 900000 := by omega
   clear hq hst hds hV htl hx hdl hqk hk
   gi_wp2_with fail
   refine ⟨trivial, ?_⟩
   refine (CallsIn.inRound l (callsIn_wide.2 hI.out)).mono ?_
   rintro e W1 ⟨rfl, hkI⟩
   clear hI
   have g0 := (h2.below hkI).c0
   obtain ⟨P, hP⟩ : ∃ P, padN k ds.length = P := ⟨_, rfl⟩
   have HP := Lib.hid hP
   clear hP
   have b1 : Buf (w1.heap.size + 1) (w1.heap.size + 1) (Lib.byteCells (sgnB false ++ tv)) W1 := h1.old hkI
   have hsl : (sgnB false).length ≤ 1 := by decide
   have HSL := Lib.hid hsl
   clear hsl
   have hP9 : P ≤ 9 := by
    have := HP.out
    unfold padN at this
    split at this <;> omega
   gi_wp2
   gi_loopw [8] (fun i wr => ∃ j : Nat, j ≤ P ∧ i = .int .i64 (((ds.length : Nat) : Int) + (j : Nat)) ∧ Buf (w1.heap.size + 1) (w1.heap.size + 1) (Lib.byteCells (sgnB false ++ tv ++ List.replicate j 48)) wr ∧ Wrote (w1.heap.size + 1) (w1.heap.size + 1) W1 wr) (fun i _ => (((ds.length : Nat) : Int) + (P : Nat) - intOf i).toNat)
   case atStart => exact ⟨0, by omega, by go_num, by simpa using b1, Wrote.refl _ _ _⟩
   case round =>
    obtain ⟨j, hj, rfl, hb, hwr⟩ := hrel
    have gr := (hwr.own (h2.below hkI) (by omega) (by decide)).c0
    have hlen : (Lib.byteCells (sgnB false ++ tv ++ List.replicate j 48)).length ≤ 8100010 := by
     rw [byteCells_length, List.length_append, List.length_append, List.length_replicate]
     have := HTL.out
     have := HSL.out
     omega
    have HLN := Lib.hid hlen
    clear hlen
    have hsz : w1.heap.size + 1 ≤ wr.heap.size := Nat.le_of_lt hb.lt
    by_cases hjP : j < P
    ·have hp : k ≠ 0 ∧ ds.length + j < 9 := by
      have := HP.out
      unfold padN at this
      split at this <;> omega
     have hq1 := HQ.out
     have t1 : decide (((ds.length : Nat) : Int) + ((j : Nat) : Int) < 9) = true := decide_eq_true (by omega)
     have t2 : decide (((q : Nat) : Int) < ((n : Nat) : Int) - 1) = true := decide_eq_true (by omega)
     clear hp hq1
     gi_wp2_with fail
     refine ⟨trivial, ?_⟩
     refine (CallsIn.inRound l (callsIn_wide.2 (Tryz.Buffer_WriteByte_k _ _ _ 48 wr hb hsz (one_cells _) (by have := HLN.out; omega)))).mono ?_
     rintro e W2 ⟨rfl, hb2, hbw, hok⟩
     gi_wp2
     go_roundw
     case rel => exact ⟨j + 1, hjP, by go_num, by rw [List.replicate_succ', ← List.append_assoc, byteCells_append]; exact hb2, hwr.trans ⟨hbw, hok⟩⟩
     case measure => simp [intOf]; omega
    ·obtain rfl : j = P := by omega
     have fin : ∀ W2, Buf (w1.heap.size + 1) (w1.heap.size + 1) (Lib.byteCells (sgnB false ++ tv ++ List.replicate j 48) ++ Lib.byteCells ds) W2 → Wrote (w1.heap.size + 1) (w1.heap.size + 1) wr W2 →
      KeepsFrom (W0.alloc (.cells #[.slice A n c] 27)).heap.size W W2 ∧ BackKp (w1.heap.size + 1) W0.heap.size W W2 ∧ Buf (w1.heap.size + 1) (w1.heap.size + 1) (Lib.byteCells (sgnB false ++ txt (val ((dig m).drop (n - (k + 1)))))) W2 ∧ Own W2 w1.heap.size 27 [.slice A n c] ∧ Own W2 W0.heap.size 27 [.slice A n c] ∧ Keeps w W2 := fun W2 hb2 hw2 => by
      have hwI : Wrote (w1.heap.size + 1) (w1.heap.size + 1) W W1 := Wrote.of hkI (Nat.le_of_lt h1.lt)
      have hww := (hwI.trans hwr).trans hw2
      refine ⟨hww.from h1, hww.back h3 (by omega) (by decide) (Nat.le_refl _), ?_, hww.own h2 (by omega) (by decide), hww.own h3 (by omega) (by decide), hww.keeps h4 (by omega)⟩
      rw [HST.out, HP.out, ← List.append_assoc, ← List.append_assoc, byteCells_append]
      exact hb2
     by_cases h9 : ds.length + j < 9
     ·have hp : k = 0 := by
       have := HP.out
       unfold padN at this
       split at this <;> omega
      have hq1 := HQ.out
      have t1 : decide (((ds.length : Nat) : Int) + ((j : Nat) : Int) < 9) = true := decide_eq_true (by omega)
      have t2 : decide (((q : Nat) : Int) < ((n : Nat) : Int) - 1) = false := decide_eq_false (by omega)
      clear hp hq1
      gi_wp2_with fail
      refine ⟨trivial, ?_⟩
      refine (CallsIn.inRound l (callsIn_wide.2 (Tryz.Buffer_WriteString_k _ _ _ ⟨ds.toArray⟩ wr hb hsz (one_cells _) (by have := HLN.out; have := HL.out; simp only [ByteArray.size, List.size_toArray]; omega)))).mono ?_
      rintro e W2 ⟨rfl, hb2, hbw, hok⟩
      gi_wp2
      exact fin W2 hb2 ⟨hbw, hok⟩
     ·have t1 : decide (((ds.length : Nat) : Int) + ((j : Nat) : Int) < 9) = false := decide_eq_false (by omega)
      gi_wp2_with fail
      refine ⟨trivial, ?_⟩
      refine (CallsIn.inRound l (callsIn_wide.2 (Tryz.Buffer_WriteString_k _ _ _ ⟨ds.toArray⟩ wr hb hsz (one_cells _) (by have := HLN.out; have := HL.out; simp only [ByteArray.size, List.size_toArray]; omega)))).mono ?_
      rintro e W2 ⟨rfl, hb2, hbw, hok⟩
      gi_wp2
      exact fin W2 hb2 ⟨hbw, hok⟩
  case hdone =>
   rintro D W hD ⟨h1, h2, h3, h4⟩ hDf
   rw [Nat.sub_self, List.drop_zero, val_dig, txt_pos _ (by omega)] at h1
   gi_wp2_with fail
   refine ⟨trivial, ?_⟩
   refine (callsIn_wide.2 (Tryz.Buffer_String _ _ _ W h1)).mono ?_
   rintro e W2 ⟨rfl, N, rfl⟩
   gi_wp2
   refine ⟨by simp, .inl ⟨_, _, rfl, run_takeDeferred (hDf : (W.drewN N).heap[D]? = _), ?_⟩⟩
   refine ⟨_, by simp [results, Tryz.results153, go_sem], rfl, (h4.drewN N).trans (belowK_b (w := w) (Nat.le_refl _) (W.drewN N) D _ _ (by simp at hD; omega) hDf rfl rfl)⟩
  case hstop =>
   rintro D c k W _ _ h _
   exact h.elim
 | true =>
  have hB2 : Buf (w1.heap.size + 1) (w1.heap.size + 1) [] ((w1.alloc (.cells #[.slice A n c] 27)).alloc (.cells #[.slice none 0 0, .int .i64 0, .int .i8 0] 183)) := by
   have := Lib.fresh_isBuffer 183 5 (w1.alloc (.cells #[.slice A n c] 27))
   simpa using this
  have hG0 := (Own.new w1 27 [.slice A n c]).alloc (.cells #[.slice none 0 0, .int .i64 0, .int .i8 0] 183)
  have kW := keep2 w1 (.cells #[.slice A n c] 27) (.cells #[.slice none 0 0, .int .i64 0, .int .i8 0] 183)

  gi_wp2_with fail
  generalize ((w1.alloc (.cells #[.slice A n c] 27)).alloc (.cells #[.slice none 0 0, .int .i64 0, .int .i8 0] 183)) = W9 at *
  refine ⟨trivial, ?_⟩
  refine (callsIn_wide.2 (Tryz.Buffer_WriteByte_k _ _ _ 45 W9 hB2 (Nat.le_of_lt hB2.lt) (by simp) (by simp))).mono ?_
  rintro e W0 ⟨rfl, hB0, hbw, hok⟩
  have hwr : Wrote (w1.heap.size + 1) (w1.heap.size + 1) W9 W0 := ⟨hbw, hok⟩
  replace hG0 := hwr.own hG0 (by omega) (by decide)
  replace kW := hwr.keeps kW (by omega)
  replace hX2 := hwr.own hX2 (by have := hX1.lt; omega) (by decide)
  clear x0 hwr hbw hok
  have hB0 : Buf (w1.heap.size + 1) (w1.heap.size + 1) (Lib.byteCells (sgnB true)) _ := hB0
  have x0 := hX2.c0
  have gg := hG0.c0
  gi_wp2_with fail
  refine ⟨trivial, ?_⟩
  refine (callsIn_wide.2 (back_any A n c _)).mono ?_
  rintro e w' ⟨rfl, rfl⟩
  gi_wp2_with fail
  have hBl := hB0.lt
  have hS := Own.new W0 27 [.slice A n c]
  have hRW : Row (W0.alloc (.cells #[.slice A n c] 27)) A n (u32 (dig m)) := hr.below (kW.trans' (box2 _ _))
  have hB1 := hB0.alloc (.cells #[.slice A n c] 27)
  have hG1 := hG0.alloc (.cells #[.slice A n c] 27)
  have kW1 : Keeps w (W0.alloc (.cells #[.slice A n c] 27)) := (hk0.trans' kW).trans' (box2 _ _)
  have hkw : w.heap.size ≤ w1.heap.size := hk0.size
  apply wpIn_range_idx (N := n) rfl (by omega) (gf := 194) (lb := #[.pointer (some ⟨W0.heap.size, 0, none⟩)]) rfl trivial (enters_of Tryz.func194 (by kernel_rfl) rfl)
   (back_seq Fence.wide _ trivial rfl (by omega) W0.heap.size (w1.heap.size + 1) n c A (dig m) (by omega) _ hS hRW hlt) BackKp.t (BackKp.b (by simp; omega) (by simp)) bl (fun _ => rfl)
   (fun k W => Buf (w1.heap.size + 1) (w1.heap.size + 1) (Lib.byteCells (sgnB true ++ txt (val ((dig m).drop (n - k))))) W ∧ Own W w1.heap.size 27 [.slice A n c] ∧ Own W W0.heap.size 27 [.slice A n c] ∧ Keeps w W) (fun _ _ _ => False)
   (fun k A B row hs hg hr => ⟨hs.1.nc hg (fun r e => (hr r e).2), hs.2.1.nc hg (fun r e => (hr r e).2), hs.2.2.1.nc hg (fun r e => (hr r e).2), ownFrom_below (β := Nat) (Nat.le_refl _) (by simp; omega) k A B row hs.2.2.2 hg hr⟩)
   (fun _ _ _ _ _ hs _ _ => hs)
   ⟨by rw [Nat.sub_zero, List.drop_of_length_le (by rw [HE.out]; omega)]; simpa [val, txt] using hB1, hG1, hS, kW1⟩
  case hassign =>
   intro l x W K hK
   unfold backEnc
   gi_wp2
   exact hK
  case hbody =>
   rintro l k W ⟨h1, h2, h3, h4⟩ hk
   obtain ⟨q, hq⟩ : ∃ q, n - 1 - k = q := ⟨_, rfl⟩
   have hst := txt_round m n k q HE.out hk hq
   have hx := (AllB.dig m).ix q
   have hdl := decDigits_len (ix (dig m) q) hx
   have hI := Lib.hid (itoa_any (ix (dig m) q) hx W (PowTab.keep ht h4))
   have hxi : ((ix (dig m) q : Nat) : Int) < 1000000000 := by omega
   rw [hq]
   generalize ix (dig m) q = x at *
   generalize hds : Lib.decDigits x = ds at *
   generalize hV : txt (val ((dig m).drop (n - k))) = tv at *
   have htl : tv.length ≤ 8100000 := by
    have := txt_drop_len m (n - k)
    rw [hV, HE.out] at this
    omega
   have hqk : q + k + 1 = n := by omega
   have HQ := Lib.hid hqk
   have HST := Lib.hid hst
   have HDS := Lib.hid hds
   have HTL := Lib.hid htl
   have HK := Lib.hid hk
   have HL := Lib.hid hdl
   have hL9 : ((ds.length : Nat) : Int) ≤ 9 := by omega
   have hni : ((n : Nat) : Int) ≤ 900000 := by omega
   clear hq hst hds hV htl hx hdl hqk hk
   gi_wp2_with fail
   refine ⟨trivial, ?_⟩
   refine (CallsIn.inRound l (callsIn_wide.2 hI.out)).mono ?_
   rintro e W1 ⟨rfl, hkI⟩
   clear hI
   have g0 := (h2.below hkI).c0
   obtain ⟨P, hP⟩ : ∃ P, padN k ds.length = P := ⟨_, rfl⟩
   have HP := Lib.hid hP
   clear hP
   have b1 : Buf (w1.heap.size + 1) (w1.heap.size + 1) (Lib.byteCells (sgnB true ++ tv)) W1 := h1.old hkI
   have hsl : (sgnB true).length ≤ 1 := by decide
   have HSL := Lib.hid hsl
   clear hsl
   have hP9 : P ≤ 9 := by
    have := HP.out
    unfold padN at this
    split at this <;> omega
   gi_wp2
   gi_loopw [8] (fun i wr => ∃ j : Nat, j ≤ P ∧ i = .int .i64 (((ds.length : Nat) : Int) + (j : Nat)) ∧ Buf (w1.heap.size + 1) (w1.heap.size + 1) (Lib.byteCells (sgnB true ++ tv ++ List.replicate j 48)) wr ∧ Wrote (w1.heap.size + 1) (w1.heap.size + 1) W1 wr) (fun i _ => (((ds.length : Nat) : Int) + (P : Nat) - intOf i).toNat)
   case atStart => exact ⟨0, by omega, by go_num, by simpa using b1, Wrote.refl _ _ _⟩
   case round =>
    obtain ⟨j, hj, rfl, hb, hwr⟩ := hrel
    have gr := (hwr.own (h2.below hkI) (by omega) (by decide)).c0
    have hlen : (Lib.byteCells (sgnB true ++ tv ++ List.replicate j 48)).length ≤ 8100010 := by
     rw [byteCells_length, List.length_append, List.length_append, List.length_replicate]
     have := HTL.out
     have := HSL.out
     omega
    have HLN := Lib.hid hlen
    clear hlen
    have hsz : w1.heap.size + 1 ≤ wr.heap.size := Nat.le_of_lt hb.lt
    by_cases hjP : j < P
    ·have hp : k ≠ 0 ∧ ds.length + j < 9 := by
      have := HP.out
      unfold padN at this
      split at this <;> omega
     have hq1 := HQ.out
     have t1 : decide (((ds.length : Nat) : Int) + ((j : Nat) : Int) < 9) = true := decide_eq_true (by omega)
     have t2 : decide (((q : Nat) : Int) < ((n : Nat) : Int) - 1) = true := decide_eq_true (by omega)
     clear hp hq1
     gi_wp2_with fail
     refine ⟨trivial, ?_⟩
     refine (CallsIn.inRound l (callsIn_wide.2 (Tryz.Buffer_WriteByte_k _ _ _ 48 wr hb hsz (one_cells _) (by have := HLN.out; omega)))).mono ?_
     rintro e W2 ⟨rfl, hb2, hbw, hok⟩
     gi_wp2
     go_roundw
     case rel => exact ⟨j + 1, hjP, by go_num, by rw [List.replicate_succ', ← List.append_assoc, byteCells_append]; exact hb2, hwr.trans ⟨hbw, hok⟩⟩
     case measure => simp [intOf]; omega
    ·obtain rfl : j = P := by omega
     have fin : ∀ W2, Buf (w1.heap.size + 1) (w1.heap.size + 1) (Lib.byteCells (sgnB true ++ tv ++ List.replicate j 48) ++ Lib.byteCells ds) W2 → Wrote (w1.heap.size + 1) (w1.heap.size + 1) wr W2 →
      KeepsFrom (W0.alloc (.cells #[.slice A n c] 27)).heap.size W W2 ∧ BackKp (w1.heap.size + 1) W0.heap.size W W2 ∧ Buf (w1.heap.size + 1) (w1.heap.size + 1) (Lib.byteCells (sgnB true ++ txt (val ((dig m).drop (n - (k + 1)))))) W2 ∧ Own W2 w1.heap.size 27 [.slice A n c] ∧ Own W2 W0.heap.size 27 [.slice A n c] ∧ Keeps w W2 := fun W2 hb2 hw2 => by
      have hwI : Wrote (w1.heap.size + 1) (w1.heap.size + 1) W W1 := Wrote.of hkI (Nat.le_of_lt h1.lt)
      have hww := (hwI.trans hwr).trans hw2
      refine ⟨hww.from h1, hww.back h3 (by omega) (by decide) (Nat.le_refl _), ?_, hww.own h2 (by omega) (by decide), hww.own h3 (by omega) (by decide), hww.keeps h4 (by omega)⟩
      rw [HST.out, HP.out, ← List.append_assoc, ← List.append_assoc, byteCells_append]
      exact hb2
     by_cases h9 : ds.length + j < 9
     ·have hp : k = 0 := by
       have := HP.out
       unfold padN at this
       split at this <;> omega
      have hq1 := HQ.out
      have t1 : decide (((ds.length : Nat) : Int) + ((j : Nat) : Int) < 9) = true := decide_eq_true (by omega)
      have t2 : decide (((q : Nat) : Int) < ((n : Nat) : Int) - 1) = false := decide_eq_false (by omega)
      clear hp hq1
      gi_wp2_with fail
      refine ⟨trivial, ?_⟩
      refine (CallsIn.inRound l (callsIn_wide.2 (Tryz.Buffer_WriteString_k _ _ _ ⟨ds.toArray⟩ wr hb hsz (one_cells _) (by have := HLN.out; have := HL.out; simp only [ByteArray.size, List.size_toArray]; omega)))).mono ?_
      rintro e W2 ⟨rfl, hb2, hbw, hok⟩
      gi_wp2
      exact fin W2 hb2 ⟨hbw, hok⟩
     ·have t1 : decide (((ds.length : Nat) : Int) + ((j : Nat) : Int) < 9) = false := decide_eq_false (by omega)
      gi_wp2_with fail
      refine ⟨trivial, ?_⟩
      refine (CallsIn.inRound l (callsIn_wide.2 (Tryz.Buffer_WriteString_k _ _ _ ⟨ds.toArray⟩ wr hb hsz (one_cells _) (by have := HLN.out; have := HL.out; simp only [ByteArray.size, List.size_toArray]; omega)))).mono ?_
      rintro e W2 ⟨rfl, hb2, hbw, hok⟩
      gi_wp2
      exact fin W2 hb2 ⟨hbw, hok⟩
  case hdone =>
   rintro D W hD ⟨h1, h2, h3, h4⟩ hDf
   rw [Nat.sub_self, List.drop_zero, val_dig, txt_pos _ (by omega)] at h1
   gi_wp2_with fail
   refine ⟨trivial, ?_⟩
   refine (callsIn_wide.2 (Tryz.Buffer_String _ _ _ W h1)).mono ?_
   rintro e W2 ⟨rfl, N, rfl⟩
   gi_wp2
   refine ⟨by simp, .inl ⟨_, _, rfl, run_takeDeferred (hDf : (W.drewN N).heap[D]? = _), ?_⟩⟩
   refine ⟨_, by simp [results, Tryz.results153, go_sem], rfl, (h4.drewN N).trans (belowK_b (w := w) (Nat.le_refl _) (W.drewN N) D _ _ (by simp at hD; omega) hDf rfl rfl)⟩
  case hstop =>
   rintro D c k W _ _ h _
   exact h.elim

theorem text_any (neg : Bool) (xs : List Nat) (V : Value) (w : World) (h : IntArg w V neg xs) (hm : xs.length ≤ 900000) (ht : PowTab w) :
 Calls Tryz.prog 153 #[V] w fun e w' => e = .returned (.string ⟨(textL (cnt neg xs)).toArray⟩) ∧ Keeps w w' := by
 rcases Nat.eq_zero_or_pos (mag neg xs) with h0 | h0
 ·have e : cnt neg xs = 0 := by unfold cnt; rw [h0]; exact sgn_zero neg
  rw [e]
  exact text_zero neg xs V w h hm h0
 ·have e : textL (cnt neg xs) = sgnB neg ++ Lib.decDigits (mag neg xs) := by
   unfold textL cnt sgnB
   rw [sgn_natAbs]
   cases neg with
   | false => rw [if_neg (by simp [sgn]; omega), if_neg (by simp [sgn]), if_neg (by simp)]
   | true => rw [if_neg (by simp [sgn]; omega), if_pos (by simp [sgn]; omega), if_pos rfl]
  rw [e]
  exact text_pos neg xs V w _ h hm ht rfl h0
theorem text_num {w : World} {V : Value} {z : Int} (h : IntNum w V z) (ht : PowTab w) : Calls Tryz.prog 153 #[V] w fun e w' => e = .returned (.string ⟨(textL z).toArray⟩) ∧ Keeps w w' := by
 obtain ⟨n, xs, h, rfl, l⟩ := h
 exact text_any n xs V w h l ht
theorem valid_num (neg : Bool) (xs : List Nat) (V : Value) (w : World) (h : IntArg w V neg xs) (hm : xs.length ≤ 900000) : Calls Tryz.prog 85 #[V] w fun e w' => e = .returned (.bool (validB neg xs)) ∧ Keeps w w' := by
 obtain ⟨v, rfl, hv⟩ := h
 obtain ⟨A, n, c, rfl, e, -, -, -, hr⟩ := hv.open_
 exact valid_any neg A n c xs w e hr (by omega)
theorem Own.u32s {w : World} {b : Nat} {t : TypeId} {xs : List Nat} (h : Own w b t (u32s xs)) (hm : xs.length ≤ 1000000) : U32 w (.slice (some ⟨b, 0, none⟩) xs.length xs.length) xs :=
 U32.mk h.row (Nat.le_refl _) (by unfold maxLen; omega) (by intro e; cases e)


end Go.Proofs.YtgcigdahjabimaaGreatDoor
namespace Go.Proofs.YtgcigdahjabimaaGreatDoor

def dstOf (ops : Array Oper) (i : Nat) : Option Tmp := (ops[i]?).bind (·.dst)
def bindsOf (ops : Array Oper) (i : Nat) : List Nat := ((ops[i]?).map fun o => (o.after.toList.filter (Region.binds .any)).map (·.on)).getD []
def depsOf (ops : Array Oper) (m i : Nat) : List Nat := (List.range m).filter fun j => (bindsOf ops i).contains j
def reachOf (ops : Array Oper) : Nat → Nat → List Nat
 | 0, _ => []
 | n + 1, i => bindsOf ops i ++ (bindsOf ops i).flatMap (reachOf ops n)
def fr (ops : Array Oper) (vs : Nat → Value) (a : Act) : List Nat → Act
 | [] => a
 | i :: l => (fr ops vs a l).put (dstOf ops i) (vs i)

def isSel (o : Oper) : Bool := match o.op with | .select .. => true | _ => false
def regionOk (ops : Array Oper) (m : Nat) : Bool :=
 ((List.range m).all fun j => (List.range m).all fun k => j == k || dstOf ops j == none || dstOf ops j != dstOf ops k) &&
 ((List.range m).all fun i => (List.range m).all fun j => match ops[i]?, dstOf ops j with | some o, some d => !(o.looksAt ops).contains d || (bindsOf ops i).contains j | _, _ => true) &&
 ((List.range m).all fun i => match ops[i]? with | some o => !isSel o | none => false) &&
 ((List.range ops.size).all fun i => (bindsOf ops i).all fun j => decide (j < i)) &&
 ((List.range ops.size).all fun k => decide (k < m) || (List.range k).all fun j => (reachOf ops 5 k).contains j || (reachOf ops 9 k).contains j)

theorem act_ext {a b : Act} (h1 : a.tmps = b.tmps) (h2 : a.defers = b.defers) : a = b := by cases a; cases b; cases h1; cases h2; rfl
theorem put_tmps (a : Act) (d : Option Tmp) (v : Value) : (a.put d v).tmps = (match d with | some t => a.tmps.setIfInBounds t v | none => a.tmps) := by cases d <;> rfl
theorem put_defers' (a : Act) (d : Option Tmp) (v : Value) : (a.put d v).defers = a.defers := by cases d <;> rfl
theorem put_size' (a : Act) (d : Option Tmp) (v : Value) : (a.put d v).tmps.size = a.tmps.size := by cases d <;> simp [put_tmps]

section phi
variable {P : Program} {ops : Array Oper} {Q : Exit → Act → World → Prop} {vs : Nat → Value} {a : Act}

theorem fr_size : ∀ l, (fr ops vs a l).tmps.size = a.tmps.size
 | [] => rfl
 | i :: l => by rw [fr, put_size', fr_size l]
theorem fr_defers : ∀ l, (fr ops vs a l).defers = a.defers
 | [] => rfl
 | i :: l => by rw [fr, put_defers', fr_defers l]
theorem fr_out {t : Tmp} : ∀ l, (∀ k ∈ l, dstOf ops k ≠ some t) → (fr ops vs a l).tmps[t]? = a.tmps[t]?
 | [], _ => rfl
 | i :: l, h => by
  have ih := fr_out l (fun k hk => h k (List.mem_cons_of_mem _ hk))
  have hi := h i List.mem_cons_self
  rw [fr, put_tmps]
  cases hd : dstOf ops i with
  | none => exact ih
  | some d =>
   have hne : d ≠ t := fun e => hi (by rw [hd, e])
   simp only
   rw [Array.getElem?_setIfInBounds_ne hne]
   exact ih
theorem fr_in {t : Tmp} {j : Nat} : ∀ l, j ∈ l → dstOf ops j = some t → (∀ k ∈ l, dstOf ops k = some t → k = j) → (fr ops vs a l).tmps[t]? = (a.tmps.setIfInBounds t (vs j))[t]?
 | [], h, _, _ => by cases h
 | i :: l, hj, hd, hu => by
  rw [fr, put_tmps]
  by_cases hi : dstOf ops i = some t
  ·obtain rfl : i = j := hu i List.mem_cons_self hi
   rw [hi]
   simp only [Array.getElem?_setIfInBounds_self, fr_size]
  ·have hne : j ≠ i := fun e => hi (e ▸ hd)
   have hjl : j ∈ l := by
    rcases List.mem_cons.1 hj with h | h
    ·exact absurd h hne
    ·exact h
   have ih := fr_in l hjl hd (fun k hk => hu k (List.mem_cons_of_mem _ hk))
   cases hdi : dstOf ops i with
   | none => exact ih
   | some d =>
    have hne : d ≠ t := fun e => hi (by rw [hdi, e])
    simp only
    rw [Array.getElem?_setIfInBounds_ne hne]
    exact ih
theorem fr_same {t : Tmp} {l l' : List Nat} (hu : ∀ j k, j ∈ l ∨ j ∈ l' → k ∈ l ∨ k ∈ l' → dstOf ops j = some t → dstOf ops k = some t → j = k)
 (h : ∀ j, dstOf ops j = some t → (j ∈ l ↔ j ∈ l')) : (fr ops vs a l).tmps[t]? = (fr ops vs a l').tmps[t]? := by
 by_cases hx : ∃ j, j ∈ l ∧ dstOf ops j = some t
 ·obtain ⟨j, hj, hd⟩ := hx
  rw [fr_in l hj hd fun k hk hkd => hu k j (.inl hk) (.inl hj) hkd hd, fr_in l' ((h j hd).1 hj) hd fun k hk hkd => hu k j (.inr hk) (.inl hj) hkd hd]
 ·have h1 : ∀ k ∈ l, dstOf ops k ≠ some t := fun k hk hd => hx ⟨k, hk, hd⟩
  have h2 : ∀ k ∈ l', dstOf ops k ≠ some t := fun k hk hd => hx ⟨k, (h k hd).2 hk, hd⟩
  rw [fr_out l h1, fr_out l' h2]

theorem put_inj {s f : Act} {d : Option Tmp} {u v : Value} (hsz : f.tmps.size = s.tmps.size) (h : s.put d u = s.put d v) : f.put d u = f.put d v := by
 cases d with
 | none => rfl
 | some t =>
  by_cases ht : t < s.tmps.size
  ·have h1 : (s.put (some t) u).tmps[t]? = (s.put (some t) v).tmps[t]? := by rw [h]
   simp [put_tmps, ht] at h1
   rw [h1]
  ·have ht' : f.tmps.size ≤ t := by rw [hsz]; exact Nat.le_of_not_lt ht
   simp only [Act.put]
   rw [Array.setIfInBounds_eq_of_size_le ht', Array.setIfInBounds_eq_of_size_le ht']

theorem wpOp_move {i : Nat} {o : Oper} {s f : Act} {w : World} {X : Value → World → Prop} (hi : ops[i]? = some o) (he : execOp f.eval o = execOp s.eval o)
 (hw : Region.wanted o (yielded ops f.tmps) = Region.wanted o (yielded ops s.tmps)) (hsz : f.tmps.size = s.tmps.size)
 (hh : ∀ K : Act → World → Prop, (∀ v w', X v w' → K (s.put o.dst v) w') → wpOp P ops (fun _ _ _ => False) i K s w) :
 wpOp P ops Q i (fun a' w' => ∃ v, a' = f.put o.dst v ∧ X v w') f w := by
 have h := hh (fun a' w' => a'.defers = s.defers ∧ ∀ v, a' = s.put o.dst v → ∃ v', f.put o.dst v = f.put o.dst v' ∧ X v' w')
  (fun v w' hX => ⟨put_defers' _ _ _, fun v2 e => ⟨v, put_inj hsz e.symm, hX⟩⟩)
 clear hh
 unfold wpOp at *
 simp only [hi] at *
 rw [hw]
 split
 ·rename_i hw1
  simp only [hw1, if_true] at h
  have no : ¬ LetsOut (fun (_ : Exit) (_ : Act) (_ : World) => False) := fun ⟨_, _, h⟩ => h
  rcases h with h | ⟨_, h⟩
  ·refine .inl ?_
   unfold Oper.wp at *
   rw [he]
   generalize (execOp s.eval o).run P w = r at *
   cases r with
   | ok n w' =>
    cases n <;> simp only [Oper.upon] at h ⊢
    case value u => exact h.2 u rfl
    case skip => exact h.2 _ rfl
    case defer d =>
     have := h.1
     rw [put_defers'] at this
     have := congrArg List.length this
     simp at this
    case enter g args =>
     refine Calls.mono h fun e w'' he => ?_
     cases e with
     | returned u => exact he.2 u rfl
     | panicked c => exact he.elim
     | outgrown => exact absurd he no
    case row row args => exact Rows.mono h fun u w'' he => he.2 u rfl
   | halt x w' =>
    cases x <;> simp only [Oper.upon] at h
  ·exact absurd h no
 ·rename_i hw1
  simp only [hw1] at h
  exact h.2 _ rfl

theorem fr_ext {us : Nat → Value} : ∀ l, (∀ j ∈ l, us j = vs j) → fr ops us a l = fr ops vs a l
 | [], _ => rfl
 | i :: l, h => by rw [fr, fr, fr_ext l (fun j hj => h j (List.mem_cons_of_mem _ hj)), h i List.mem_cons_self]

theorem nodup_len : ∀ (n : Nat) (l : List Nat), l.Nodup → (∀ x ∈ l, x < n) → l.length ≤ n
 | 0, [], _, _ => Nat.le_refl _
 | 0, x :: l, _, h => absurd (h x List.mem_cons_self) (by omega)
 | n + 1, l, hn, h => by
  by_cases hm : n ∈ l
  ·have ih := nodup_len n (l.erase n) (hn.erase n) (fun x hx => by
    have := (hn.mem_erase_iff).1 hx
    have := h x this.2
    omega)
   rw [List.length_erase_of_mem hm] at ih
   omega
  ·have ih := nodup_len n l hn (fun x hx => by
    have := h x hx
    have : x ≠ n := fun e => hm (e ▸ hx)
    omega)
   omega
theorem least {p : Nat → Prop} (h : ∃ j, p j) : ∃ j, p j ∧ ∀ k, k < j → ¬ p k := by
 obtain ⟨j, hj⟩ := h
 induction j using Nat.strongRecOn with
 | _ j ih =>
  by_cases hk : ∃ k, k < j ∧ p k
  ·obtain ⟨k, hk, hp⟩ := hk
   exact ih k hk hp
  ·exact ⟨j, hj, fun k hkj hp => hk ⟨k, hkj, hp⟩⟩

theorem reach_closed {S : Nat → Prop} (hS : ∀ j, S j → ∀ k ∈ bindsOf ops j, S k) : ∀ (n i : Nat), (∀ j ∈ bindsOf ops i, S j) → ∀ j ∈ reachOf ops n i, S j
 | 0, _, _, _, h => by simp [reachOf] at h
 | n + 1, i, hi, j, h => by
  rw [reachOf, List.mem_append, List.mem_flatMap] at h
  rcases h with h | ⟨k, hk, h⟩
  ·exact hi j h
  ·exact reach_closed hS n k (hS k (hi k hk)) j h

theorem ready_iff {j : Nat} {listed : Array Bool} : j ∈ Region.ready .any ops listed ↔ listed.getD j true = false ∧ j < ops.size ∧ ∀ k ∈ bindsOf ops j, listed.getD k false = true := by
 rw [mem_ready]
 constructor
 ·rintro ⟨h0, o, ho, h⟩
  refine ⟨h0, (Array.getElem?_eq_some_iff.1 ho).1, fun k hk => ?_⟩
  simp only [bindsOf, ho, Option.map_some, Option.getD_some, List.mem_map, List.mem_filter] at hk
  obtain ⟨e, ⟨he, hb⟩, rfl⟩ := hk
  exact h e (by simpa using he) hb
 ·rintro ⟨h0, hlt, h⟩
  refine ⟨h0, ops[j], by simp [hlt], fun e he hb => h e.on ?_⟩
  simp only [bindsOf, hlt, Array.getElem?_eq_getElem, Option.map_some, Option.getD_some, List.mem_map, List.mem_filter]
  exact ⟨e, ⟨by simpa using he, hb⟩, rfl⟩

theorem getD_both {listed : Array Bool} {j : Nat} (h : j < listed.size) (d : Bool) : listed.getD j d = listed.getD j false := by simp [h]
theorem bindsOf_out {j : Nat} (h : ¬ j < ops.size) : bindsOf ops j = [] := by simp [bindsOf, h]

structure RegionOk (ops : Array Oper) (m : Nat) : Prop where
 apart : ∀ j k, j < m → k < m → ∀ d, dstOf ops j = some d → dstOf ops k = some d → j = k
 reads : ∀ i j, i < m → j < m → ∀ o d, ops[i]? = some o → dstOf ops j = some d → d ∈ o.looksAt ops → j ∈ bindsOf ops i
 noSel : ∀ i, i < m → ∃ o, ops[i]? = some o ∧ isSel o = false
 back : ∀ i j, j ∈ bindsOf ops i → j < i
 tail : ∀ k, k < ops.size → m ≤ k → ∀ j, j < k → ∃ n, j ∈ reachOf ops n k
theorem regionOk_spec {m : Nat} (h : regionOk ops m = true) : RegionOk ops m := by
 simp only [regionOk, Bool.and_eq_true, List.all_eq_true, List.mem_range] at h
 obtain ⟨⟨⟨⟨h1, h2⟩, h3⟩, h4⟩, h5⟩ := h
 refine ⟨fun j k hj hk d hdj hdk => ?_, fun i j hi hj o d ho hd hl => ?_, fun i hi => ?_, fun i j hj => ?_, fun k hk hmk j hj => ?_⟩
 ·have := h1 j hj k hk
  simpa [hdj, hdk] using this
 ·have := h2 i hi j hj
  simpa [ho, hd, hl] using this
 ·have := h3 i hi
  cases ho : ops[i]? with
  | none => simp [ho] at this
  | some o => exact ⟨o, rfl, by simpa [ho] using this⟩
 ·by_cases hi : i < ops.size
  ·have := h4 i hi j hj
   simpa using this
  ·rw [bindsOf_out hi] at hj; cases hj
 ·have := h5 k hk
  simp only [Bool.or_eq_true, decide_eq_true_eq, List.all_eq_true, List.mem_range] at this
  rcases this with h | h
  ·omega
  ·have := h j hj
   simp only [List.contains_iff_mem] at this
   exact this.elim (fun h => ⟨_, h⟩) fun h => ⟨_, h⟩

theorem tail_any {m : Nat} (hok : RegionOk ops m) : ∀ (fuel k : Nat) (listed : Array Bool) (a : Act) (w : World), m ≤ k → ops.size ≤ k + fuel → k ≤ ops.size → listed.size = ops.size →
 (∀ j, j < ops.size → (listed.getD j false = true ↔ j < k)) → wpList P ops Q (ops.toList.drop k) a w → wpAny P .any ops Q fuel listed a w := by
 intro fuel
 induction fuel with
 | zero =>
  intro k listed a w hmk hf hks hsz hl h
  have hk : k = ops.size := by omega
  refine ⟨?_, ?_⟩
  ·apply List.eq_nil_iff_forall_not_mem.2
   intro j hj
   obtain ⟨h0, hlt, -⟩ := ready_iff.1 hj
   rw [getD_both (by omega)] at h0
   have := (hl j hlt).2 (by omega)
   rw [h0] at this; cases this
  ·rw [hk, List.drop_of_length_le (by simp)] at h
   exact h
 | succ fuel ih =>
  intro k listed a w hmk hf hks hsz hl h
  by_cases hk : k = ops.size
  ·refine wpAny_done (List.eq_nil_iff_forall_not_mem.2 fun j hj => ?_) ?_ _
   ·obtain ⟨h0, hlt, -⟩ := ready_iff.1 hj
    rw [getD_both (by omega)] at h0
    have := (hl j hlt).2 (by omega)
    rw [h0] at this; cases this
   ·rw [hk, List.drop_of_length_le (by simp)] at h
    exact h
  have hk : k < ops.size := by omega
  have hkr : k ∈ Region.ready .any ops listed := by
   refine ready_iff.2 ⟨?_, hk, fun j hj => (hl j (Nat.lt_trans (hok.back k j hj) hk)).2 (hok.back k j hj)⟩
   rw [getD_both (by omega)]
   cases hc : listed.getD k false with
   | false => rfl
   | true => exact absurd ((hl k hk).1 hc) (by omega)
  refine ⟨fun e => (by rw [e] at hkr; cases hkr), fun i hi => ?_⟩
  obtain ⟨h0, hlt, hb⟩ := ready_iff.1 hi
  rw [getD_both (by omega)] at h0
  have hge : k ≤ i := Nat.le_of_not_lt fun hik => by
   have := (hl i hlt).2 hik
   rw [h0] at this; cases this
  have hle : i ≤ k := Nat.le_of_not_lt fun hki => by
   obtain ⟨fu, hkin⟩ := hok.tail i hlt (by omega) k hki
   have hc := reach_closed (ops := ops) (S := (· < k)) (fun j hj k' hk' => Nat.lt_trans (hok.back j k' hk') hj) fu i (fun j hj => (hl j (Nat.lt_trans (hok.back i j hj) hlt)).1 (hb j hj)) k hkin
   exact absurd hc (Nat.lt_irrefl k)
  obtain rfl : i = k := by omega
  have hd : ops.toList.drop i = ops[i] :: ops.toList.drop (i + 1) := by
   rw [List.drop_eq_getElem_cons (by simpa using hk)]; simp
  rw [hd] at h
  unfold wpOp
  simp only [hk, Array.getElem?_eq_getElem]
  have next : ∀ a w, wpList P ops Q (ops.toList.drop (i + 1)) a w → wpAny P .any ops Q fuel (listed.setIfInBounds i true) a w := fun a w h' => by
   refine ih (i + 1) _ a w (by omega) (by omega) (by omega) (by simpa using hsz) (fun j hj => ?_) h'
   by_cases hji : j = i
   ·subst hji
    simp [hsz, hk]
   ·rw [getD_set_ne false (Ne.symm hji), hl j hj]
    omega
  unfold wpList at h
  split
  ·rename_i hw
   simp only [hw, if_true] at h
   exact h.imp (Oper.wp_mono next) id
  ·rename_i hw
   simp only [hw] at h
   exact next _ _ h

def Hands (Φ : Nat → Value → World → Prop) (own : List Nat) (i : Nat) (w : World) (v : Value) (w' : World) : Prop :=
 Keeps w w' ∧ Φ i v w' ∧ (i ∈ own → v = .pointer (some ⟨w.heap.size, 0, none⟩) ∧ w.heap.size < w'.heap.size)

theorem looks_fr {m i : Nat} {o : Oper} {l : List Nat} (hok : RegionOk ops m) (hi : i < m) (ho : ops[i]? = some o) (hl : ∀ j ∈ l, j < m) (hb : ∀ j ∈ bindsOf ops i, j ∈ l) {t : Tmp} (ht : t ∈ o.looksAt ops) :
 (fr ops vs a l).tmps[t]? = (fr ops vs a (depsOf ops m i)).tmps[t]? := by
 have hdm : ∀ j ∈ depsOf ops m i, j < m ∧ j ∈ bindsOf ops i := fun j hj => by
  simp only [depsOf, List.mem_filter, List.mem_range, List.contains_iff_mem] at hj
  exact hj
 refine fr_same (fun j k hj hk hdj hdk => hok.apart j k (hj.elim (hl j) fun h => (hdm j h).1) (hk.elim (hl k) fun h => (hdm k h).1) t hdj hdk) fun j hdj => ⟨fun hj => ?_, fun hj => hb j (hdm j hj).2⟩
 have := hok.reads i j hi (hl j hj) o t ho hdj ht
 simp only [depsOf, List.mem_filter, List.mem_range, List.contains_iff_mem]
 exact ⟨hl j hj, this⟩

theorem head_any {m : Nat} (hok : RegionOk ops m) (Φ : Nat → Value → World → Prop) (own : List Nat) (w0 : World) (a0 : Act)
 (hΦ : ∀ i v w w', i < m → Φ i v w → Keeps w w' → Φ i v w')
 (hstep : ∀ i, i < m → ∀ vs w, Keeps w0 w → (∀ j ∈ depsOf ops m i, Φ j (vs j) w) → ∀ K : Act → World → Prop,
  (∀ v w', Hands Φ own i w v w' → K ((fr ops vs a0 (depsOf ops m i)).put (dstOf ops i) v) w') → wpOp P ops (fun _ _ _ => False) i K (fr ops vs a0 (depsOf ops m i)) w)
 (htail : ∀ vs w, Keeps w0 w → (∀ i, i < m → Φ i (vs i) w) → (∀ i j, i < m → j < m → i ∈ own → j ∈ own → i ≠ j → vs i ≠ vs j) → wpList P ops Q (ops.toList.drop m) (fr ops vs a0 (List.range m)) w) :
 ∀ (fuel : Nat) (l : List Nat) (vs : Nat → Value) (listed : Array Bool) (w : World), l.Nodup → (∀ j ∈ l, j < m) → ops.size ≤ l.length + fuel → listed.size = ops.size →
  (∀ j, j < ops.size → (listed.getD j false = true ↔ j ∈ l)) → (∀ j ∈ l, ∀ k ∈ bindsOf ops j, k ∈ l) → Keeps w0 w → (∀ j ∈ l, Φ j (vs j) w) →
  (∀ j ∈ l, j ∈ own → ∃ b, vs j = .pointer (some ⟨b, 0, none⟩) ∧ b < w.heap.size) → (∀ i ∈ l, ∀ j ∈ l, i ∈ own → j ∈ own → i ≠ j → vs i ≠ vs j) →
  wpAny P .any ops Q fuel listed (fr ops vs a0 l) w := by
 have hms : m ≤ ops.size := by
  rcases Nat.eq_zero_or_pos m with h | h
  ·omega
  ·obtain ⟨o, ho, -⟩ := hok.noSel (m - 1) (by omega)
   have := (Array.getElem?_eq_some_iff.1 ho).1
   omega
 intro fuel
 induction fuel with
 | zero =>
  intro l vs listed w hn hl hf hsz hll hcl hk hΦl ho1 ho2
  refine (?_ : wpAny P .any ops Q 0 listed _ w)
  have hlen := nodup_len m l hn hl
  have hall : ∀ j, j < m → j ∈ l := fun j hj => Classical.byContradiction fun hc => by
   have := nodup_len m (j :: l) (List.nodup_cons.2 ⟨hc, hn⟩) (fun x hx => by rcases List.mem_cons.1 hx with rfl | h; exact hj; exact hl x h)
   simp at this
   omega
  have hfr : fr ops vs a0 l = fr ops vs a0 (List.range m) := by
   have ht : (fr ops vs a0 l).tmps = (fr ops vs a0 (List.range m)).tmps := Array.ext_getElem? fun t => fr_same
    (fun j k hj hk hdj hdk => hok.apart j k (hj.elim (hl j) List.mem_range.1) (hk.elim (hl k) List.mem_range.1) t hdj hdk) (fun j _ => ⟨fun h => List.mem_range.2 (hl j h), fun h => hall j (List.mem_range.1 h)⟩)
   have hd : (fr ops vs a0 l).defers = (fr ops vs a0 (List.range m)).defers := by rw [fr_defers, fr_defers]
   exact act_ext ht hd
  rw [hfr]
  refine tail_any hok 0 m listed _ w (Nat.le_refl _) (by omega) hms hsz (fun j hj => ?_) (htail vs w hk (fun i hi => hΦl i (hall i hi)) (fun i j hi hj => ho2 i (hall i hi) j (hall j hj)))
  rw [hll j hj]
  exact ⟨hl j, hall j⟩
 | succ fuel ih =>
  intro l vs listed w hn hl hf hsz hll hcl hk hΦl ho1 ho2
  by_cases hall : ∀ j, j < m → j ∈ l
  ·have hfr : fr ops vs a0 l = fr ops vs a0 (List.range m) := by
    have ht : (fr ops vs a0 l).tmps = (fr ops vs a0 (List.range m)).tmps := Array.ext_getElem? fun t => fr_same
     (fun j k hj hk hdj hdk => hok.apart j k (hj.elim (hl j) List.mem_range.1) (hk.elim (hl k) List.mem_range.1) t hdj hdk) (fun j _ => ⟨fun h => List.mem_range.2 (hl j h), fun h => hall j (List.mem_range.1 h)⟩)
    have hd : (fr ops vs a0 l).defers = (fr ops vs a0 (List.range m)).defers := by rw [fr_defers, fr_defers]
    exact act_ext ht hd
   have hlen := nodup_len m l hn hl
   rw [hfr]
   refine tail_any hok (fuel + 1) m listed _ w (Nat.le_refl _) (by omega) hms hsz (fun j hj => ?_) (htail vs w hk (fun i hi => hΦl i (hall i hi)) (fun i j hi hj => ho2 i (hall i hi) j (hall j hj)))
   rw [hll j hj]
   exact ⟨hl j, hall j⟩
  ·refine ⟨fun e => ?_, fun i hi => ?_⟩
   ·exfalso
    obtain ⟨j, ⟨hj, hjl⟩, hmin⟩ := least (p := fun j => j < ops.size ∧ j ∉ l) (Classical.byContradiction fun hc => hall fun j hj => Classical.byContradiction fun hjl => hc ⟨j, by omega, hjl⟩)
    have : j ∈ Region.ready .any ops listed := by
     refine ready_iff.2 ⟨?_, hj, fun k hk => ?_⟩
     ·rw [getD_both (by omega)]
      cases hc : listed.getD j false with
      | false => rfl
      | true => exact absurd ((hll j hj).1 hc) hjl
     ·have hkj := hok.back j k hk
      refine (hll k (by omega)).2 (Classical.byContradiction fun hkl => hmin k hkj ⟨by omega, hkl⟩)
    rw [e] at this
    cases this
   ·obtain ⟨h0, hlt, hb⟩ := ready_iff.1 hi
    have hbl : ∀ j ∈ bindsOf ops i, j ∈ l := fun j hj => (hll j (by have := hok.back i j hj; omega)).1 (hb j hj)
    have him : i < m := Nat.lt_of_not_le fun hmi => hall fun j hj => by
     obtain ⟨fu, hfu⟩ := hok.tail i hlt hmi j (by omega)
     have := reach_closed (ops := ops) (S := (· ∈ l)) hcl fu i hbl j hfu
     exact this
    have hil : i ∉ l := fun h => by
     have := (hll i hlt).2 h
     rw [getD_both (by omega), this] at h0
     cases h0
    obtain ⟨o, ho, hsel⟩ := hok.noSel i him
    have hsel' : ∀ cs b, o.op ≠ .select cs b := fun cs b e => by simp [isSel, e] at hsel
    have heval : ∀ t, t ∈ o.looksAt ops → (fr ops vs a0 l).tmps[t]? = (fr ops vs a0 (depsOf ops m i)).tmps[t]? := fun t ht => looks_fr hok him ho hl hbl ht
    have he : execOp (fr ops vs a0 l).eval o = execOp (fr ops vs a0 (depsOf ops m i)).eval o := execOp_congr o hsel' fun x hx => by
     cases x with
     | tmp t =>
      have := heval t (List.mem_append_left _ (List.mem_filterMap.2 ⟨.tmp t, by simpa using hx, rfl⟩))
      simp only [Act.eval, Array.getD_eq_getD_getElem?, this]
     | _ => rfl
    have hw : Region.wanted o (yielded ops (fr ops vs a0 l).tmps) = Region.wanted o (yielded ops (fr ops vs a0 (depsOf ops m i)).tmps) := by
     unfold Region.wanted
     cases hg : o.guard with
     | none => rfl
     | some gw =>
      obtain ⟨g, want⟩ := gw
      have : yielded ops (fr ops vs a0 l).tmps g = yielded ops (fr ops vs a0 (depsOf ops m i)).tmps g := by
       unfold yielded
       cases ht : (ops[g]?).bind (·.dst) with
       | none => rfl
       | some t =>
        have := heval t (by simp [Oper.looksAt, hg, ht])
        simp only [Option.bind_some, this]
      simp only [this]
    have hdst : dstOf ops i = o.dst := by simp [dstOf, ho]
    have hdeps : ∀ j ∈ depsOf ops m i, j ∈ l := fun j hj => by
     simp only [depsOf, List.mem_filter, List.mem_range, List.contains_iff_mem] at hj
     exact hbl j hj.2
    have hmove := wpOp_move (P := P) (Q := Q) (X := Hands Φ own i w) ho he hw (by rw [fr_size, fr_size]) (hdst ▸ hstep i him vs w hk fun j hj => hΦl j (hdeps j hj))
    refine wpOp_mono (fun a' w' hX => ?_) hmove
    obtain ⟨v, rfl, hkw, hv, hown⟩ := hX
    have hfr : (fr ops vs a0 l).put o.dst v = fr ops (fun j => if j = i then v else vs j) a0 (i :: l) := by
     rw [fr, hdst, fr_ext (us := fun j => if j = i then v else vs j) (vs := vs) l (fun j hj => by simp [show j ≠ i from fun e => hil (e ▸ hj)])]
     simp
    have hsize : w.heap.size ≤ w'.heap.size := hkw.size
    rw [hfr]
    refine ih (i :: l) _ _ w' (List.nodup_cons.2 ⟨hil, hn⟩) (fun j hj => ?_) (by simp only [List.length_cons]; omega) (by simpa using hsz) (fun j hj => ?_) (fun j hj k hk' => ?_) (hk.trans' hkw) (fun j hj => ?_) (fun j hj hjo => ?_) (fun j hj k hk' hjo hko hne => ?_)
    ·rcases List.mem_cons.1 hj with rfl | h
     ·exact him
     ·exact hl j h
    ·by_cases hji : j = i
     ·subst hji
      simp [hsz, hlt]
     ·rw [getD_set_ne false (Ne.symm hji), hll j hj]
      simp [hji]
    ·rcases List.mem_cons.1 hj with rfl | h
     ·exact List.mem_cons_of_mem _ (hbl k hk')
     ·exact List.mem_cons_of_mem _ (hcl j h k hk')
    ·by_cases hji : j = i
     ·subst hji
      simpa using hv
     ·have hjl : j ∈ l := (List.mem_cons.1 hj).resolve_left hji
      simp only [hji, if_false]
      exact hΦ j _ w w' (hl j hjl) (hΦl j hjl) hkw
    ·by_cases hji : j = i
     ·subst hji
      simp only [if_true]
      exact ⟨_, (hown hjo).1, (hown hjo).2⟩
     ·have hjl : j ∈ l := (List.mem_cons.1 hj).resolve_left hji
      simp only [hji, if_false]
      obtain ⟨b, hb, hlt⟩ := ho1 j hjl hjo
      exact ⟨b, hb, by omega⟩
    ·by_cases hji : j = i
     ·subst hji
      have hkj : k ≠ j := fun e => hne e.symm
      have hkl : k ∈ l := (List.mem_cons.1 hk').resolve_left hkj
      simp only [if_true, hkj, if_false]
      obtain ⟨b, hb, hlt⟩ := ho1 k hkl hko
      rw [(hown hjo).1, hb]
      intro e
      simp only [Value.pointer.injEq, Option.some.injEq, Addr.mk.injEq] at e
      omega
     ·have hjl : j ∈ l := (List.mem_cons.1 hj).resolve_left hji
      by_cases hki : k = i
      ·subst hki
       simp only [if_true, hji, if_false]
       obtain ⟨b, hb, hlt⟩ := ho1 j hjl hjo
       rw [(hown hko).1, hb]
       intro e
       simp only [Value.pointer.injEq, Option.some.injEq, Addr.mk.injEq] at e
       omega
      ·have hkl : k ∈ l := (List.mem_cons.1 hk').resolve_left hki
       simp only [hji, hki, if_false]
       exact ho2 j hjl k hkl hjo hko hne

theorem wp_region_phi {id m : Nat} {a0 : Act} {w0 : World} (hm : P.follows .mixedOrders = true) (hok : regionOk ops m = true) (Φ : Nat → Value → World → Prop) (own : List Nat)
 (hΦ : ∀ i v w w', i < m → Φ i v w → Keeps w w' → Φ i v w')
 (hstep : ∀ i, i < m → ∀ vs w, Keeps w0.drew w → (∀ j ∈ depsOf ops m i, Φ j (vs j) w) → ∀ K : Act → World → Prop,
  (∀ v w', Hands Φ own i w v w' → K ((fr ops vs a0 (depsOf ops m i)).put (dstOf ops i) v) w') → wpOp P ops (fun _ _ _ => False) i K (fr ops vs a0 (depsOf ops m i)) w)
 (htail : ∀ vs w, Keeps w0.drew w → (∀ i, i < m → Φ i (vs i) w) → (∀ i j, i < m → j < m → i ∈ own → j ∈ own → i ≠ j → vs i ≠ vs j) → wpList P ops Q (ops.toList.drop m) (fr ops vs a0 (List.range m)) w) :
 (Code.region id ops true).wp P Q a0 w0 := by
 refine wp_region_any hm ?_
 exact head_any (regionOk_spec hok) Φ own w0.drew a0 hΦ hstep htail ops.size [] (fun _ => undef) _ _ List.nodup_nil (fun _ h => by cases h) (by simp) (by simp)
  (fun j hj => by simp [hj]) (fun _ h => by cases h) (RowKit.Below.refl _ _) (fun _ h => by cases h) (fun _ h => by cases h) (fun _ h => by cases h)

def frD (vs : Nat → Value) (a : Act) : List (Nat × Option Tmp) → Act
 | [] => a
 | (i, d) :: l => (frD vs a l).put d (vs i)
theorem fr_frD : ∀ l, fr ops vs a l = frD vs a (l.map fun j => (j, dstOf ops j))
 | [] => rfl
 | i :: l => by rw [fr, List.map_cons, frD, fr_frD l]
end phi
end Go.Proofs.YtgcigdahjabimaaGreatDoor
namespace Go.Proofs.YtgcigdahjabimaaGreatDoor
open Go.RowKit

section
variable {P : Program} {ops : Array Oper} {Q : Exit → Act → World → Prop} {vs : Nat → Value} {a : Act} {m i : Nat} {o : Oper} {Φ : Nat → Value → World → Prop} {own : List Nat} {w : World}
structure Step (P : Program) (ops : Array Oper) (Φ : Nat → Value → World → Prop) (own : List Nat) (m i : Nat) (vs : Nat → Value) (a : Act) (w : World) : Prop where
 go : ∀ K : Act → World → Prop, (∀ v w', Hands Φ own i w v w' → K ((fr ops vs a (depsOf ops m i)).put (dstOf ops i) v) w') → wpOp P ops (fun _ _ _ => False) i K (fr ops vs a (depsOf ops m i)) w
theorem step_yes (ds : List (Nat × Option Tmp)) (hi : ops[i]? = some o) (hl : (depsOf ops m i).map (fun j => (j, dstOf ops j)) = ds)
 (h : ∀ K : Act → World → Prop, (∀ v w', Hands Φ own i w v w' → K ((frD vs a ds).put o.dst v) w') → Region.wanted o (yielded ops (frD vs a ds).tmps) = true ∧ Oper.wp P o (frD vs a ds) w K (fun _ _ _ => False)) :
 Step P ops Φ own m i vs a w := by
 have hd : dstOf ops i = o.dst := by simp [dstOf, hi]
 refine ⟨?_⟩
 rw [fr_frD, hl, hd]
 intro K hK
 obtain ⟨hw, hh⟩ := h K hK
 unfold wpOp
 simp only [hi, hw, if_true]
 exact .inl hh
theorem step_no (ds : List (Nat × Option Tmp)) (hi : ops[i]? = some o) (hl : (depsOf ops m i).map (fun j => (j, dstOf ops j)) = ds)
 (h : Region.wanted o (yielded ops (frD vs a ds).tmps) = false) (hΦ : Φ i undef w) (ho : i ∉ own) :
 Step P ops Φ own m i vs a w := by
 have hd : dstOf ops i = o.dst := by simp [dstOf, hi]
 refine ⟨?_⟩
 rw [fr_frD, hl, hd]
 intro K hK
 unfold wpOp
 simp only [hi, h, Bool.false_eq_true, if_false]
 exact hK _ _ ⟨Below.refl _ _, hΦ, fun h => absurd h ho⟩
theorem wp_region_steps {id : Nat} {w0 : World} (hm : P.follows .mixedOrders = true) (hok : regionOk ops m = true) (Φ : Nat → Value → World → Prop) (own : List Nat)
 (hΦ : ∀ i v w w', i < m → Φ i v w → Keeps w w' → Φ i v w')
 (hstep : ∀ i, i < m → ∀ vs w, Keeps w0.drew w → (∀ j ∈ depsOf ops m i, Φ j (vs j) w) → Step P ops Φ own m i vs a w)
 (htail : ∀ vs w, Keeps w0.drew w → (∀ i, i < m → Φ i (vs i) w) → (∀ i j, i < m → j < m → i ∈ own → j ∈ own → i ≠ j → vs i ≠ vs j) → wpList P ops Q (ops.toList.drop m) (fr ops vs a (List.range m)) w) :
 (Code.region id ops true).wp P Q a w0 :=
 wp_region_phi hm hok Φ own hΦ (fun i hi vs w hk hd => (hstep i hi vs w hk hd).go) htail
end
end Go.Proofs.YtgcigdahjabimaaGreatDoor
namespace Go.Proofs.YtgcigdahjabimaaGreatDoor
open Go.RowKit Go.Shelf

def Boxes (w : World) (t : TypeId) : List (Nat × Value × Value) → Prop
 | [] => True
 | p :: l => Own w p.1 t [p.2.1, p.2.2] ∧ Boxes w t l
theorem Boxes.below {w w' : World} {t : TypeId} (hk : Keeps w w') : ∀ {l : List (Nat × Value × Value)}, Boxes w t l → Boxes w' t l
 | [], _ => trivial
 | _ :: _, h => ⟨h.1.below hk, Boxes.below hk h.2⟩
theorem Boxes.drew {w : World} {t : TypeId} : ∀ {l : List (Nat × Value × Value)}, Boxes w t l → Boxes w.drew t l
 | [], _ => trivial
 | _ :: _, h => ⟨h.1, Boxes.drew h.2⟩
theorem Boxes.o {w : World} {t : TypeId} {b : Nat} {x y : Value} {l : List (Nat × Value × Value)} (h : Boxes w t ((b, x, y) :: l)) : Own w b t [x, y] := h.1
theorem Boxes.c0 {w : World} {t : TypeId} {b : Nat} {x y : Value} {l : List (Nat × Value × Value)} (h : Boxes w t ((b, x, y) :: l)) : w.cell? ⟨b, 0, none⟩ = some x := h.1.c0
theorem Boxes.c1 {w : World} {t : TypeId} {b : Nat} {x y : Value} {l : List (Nat × Value × Value)} (h : Boxes w t ((b, x, y) :: l)) : w.cell? ⟨b, 1, none⟩ = some y := h.1.c1
def Ints (w : World) : List (Value × Int) → Prop
 | [] => True
 | p :: l => IntNum w p.1 p.2 ∧ Ints w l
theorem Ints.below {w w' : World} (hk : Keeps w w') : ∀ {l : List (Value × Int)}, Ints w l → Ints w' l
 | [], _ => trivial
 | _ :: _, h => ⟨h.1.below hk, Ints.below hk h.2⟩
theorem Ints.drew {w : World} : ∀ {l : List (Value × Int)}, Ints w l → Ints w.drew l
 | [], _ => trivial
 | _ :: _, h => ⟨h.1.drew, Ints.drew h.2⟩
theorem Ints.h {w : World} {V : Value} {z : Int} {l : List (Value × Int)} (h : Ints w ((V, z) :: l)) : IntNum w V z := h.1
theorem gives_eq {P : Program} {F : FuncId} {args : Array Value} {w : World} {z z' : Int} (h : Calls P F args w (Gives z w)) (e : z = z') : Calls P F args w (Gives z' w) := by subst e; exact h
theorem sign_s {w : World} {V : Value} {x s : Int} (h : IntNum w V x) (e : x.sign = s) : Calls Tryz.prog 86 #[V] w fun e w' => e = .returned (.int .i64 s) ∧ Keeps w w' := by subst e; exact sign_num h
theorem rsign_s {w : World} {V : Value} {x s : Int} (h : IntNum w V x) (e : x.sign = s) : Calls Tryz.prog 65 #[V] w fun e w' => e = .returned (.int .i64 s) ∧ Keeps w w' := by subst e; exact rsign_num h
theorem icompare_s {w : World} {V1 V2 : Value} {x y s : Int} (h1 : IntNum w V1 x) (h2 : IntNum w V2 y) (e : (x - y).sign = s) : Calls Tryz.prog 87 #[V1, V2] w fun e w' => e = .returned (.int .i64 s) ∧ Keeps w w' := by subst e; exact compare_num h1 h2
end Go.Proofs.YtgcigdahjabimaaGreatDoor
namespace Go.Proofs.YtgcigdahjabimaaGreatDoor
open Go.RowKit

theorem gz {α : Type _} {x d : α} {xs : List α} : (x :: xs).getD 0 d = x := rfl
theorem gs {α : Type _} {x d : α} {xs : List α} {n : Nat} : (x :: xs).getD (n + 1) d = xs.getD n d := rfl
theorem cm {l : List Nat} {a : Nat} (h : l.contains a = true) : a ∈ l := List.contains_iff_mem.1 h
abbrev Bx := Nat × TypeId × List Value
def Bxs (w : World) : List Bx → Prop
 | [] => True
 | p :: l => Own w p.1 p.2.1 p.2.2 ∧ Bxs w l
def Stab (p : World → Prop) : Prop := ∀ w w', Same32 w w' → p w → p w'
def Ps (w : World) : List (World → Prop) → Prop
 | [] => True
 | p :: l => (Stab p ∧ p w) ∧ Ps w l
theorem Ps.map {w w' : World} (hs : Same32 w w') : ∀ {l : List (World → Prop)}, Ps w l → Ps w' l
 | [], _ => trivial
 | _ :: _, h => ⟨⟨h.1.1, h.1.1 _ _ hs h.1.2⟩, Ps.map hs h.2⟩
theorem Ps.get {w : World} : ∀ {l : List (World → Prop)} {i : Nat} {p : World → Prop}, Ps w l → l[i]? = some p → p w
 | [], i, p, _, h => by simp at h
 | q :: l, 0, p, hb, h => by obtain rfl : q = p := by simpa using h
                             exact hb.1.2
 | q :: l, i + 1, p, hb, h => Ps.get (l := l) (i := i) hb.2 (by simpa using h)
theorem Keeps.same32 {w w' : World} (hk : Keeps w w') : Same32 w w' := fun _ _ h => h.below hk
theorem Bxs.map {w w' : World} : ∀ {l : List Bx}, (∀ p ∈ l, Own w p.1 p.2.1 p.2.2 → Own w' p.1 p.2.1 p.2.2) → Bxs w l → Bxs w' l
 | [], _, _ => trivial
 | p :: _, h, hb => ⟨h p List.mem_cons_self hb.1, Bxs.map (fun q hq => h q (List.mem_cons_of_mem _ hq)) hb.2⟩
theorem Bxs.get {w : World} : ∀ {l : List Bx} {i : Nat} {p : Bx}, Bxs w l → l[i]? = some p → Own w p.1 p.2.1 p.2.2
 | [], i, p, _, h => by simp at h
 | q :: l, 0, p, hb, h => by obtain rfl : q = p := by simpa using h
                             exact hb.1
 | q :: l, i + 1, p, hb, h => Bxs.get (l := l) (i := i) hb.2 (by simpa using h)
theorem Bxs.mem {w : World} : ∀ {l : List Bx} {p : Bx}, Bxs w l → p ∈ l → Own w p.1 p.2.1 p.2.2
 | [], p, _, h => by cases h
 | q :: l, p, hb, h => by
  rcases List.mem_cons.1 h with rfl | h
  ·exact hb.1
  ·exact Bxs.mem hb.2 h
theorem Bxs.set {w w' : World} {B : Nat} {t : TypeId} {c' : List Value} (hO : Own w' B t c') : ∀ {l : List Bx} {i : Nat} {p : Bx}, l[i]? = some p → p.1 = B → l.Pairwise (fun p q => p.1 ≠ q.1) →
 (∀ q ∈ l, q.1 ≠ B → Own w q.1 q.2.1 q.2.2 → Own w' q.1 q.2.1 q.2.2) → Bxs w l → Bxs w' (l.set i (B, t, c'))
 | [], i, p, h, _, _, _, _ => by simp at h
 | q :: l, 0, p, h, e, hd, hm, hb => by
  obtain rfl : q = p := by simpa using h
  rw [List.pairwise_cons] at hd
  exact ⟨hO, Bxs.map (fun r hr ho => hm r (List.mem_cons_of_mem _ hr) (fun e2 => hd.1 r hr (by rw [e, e2])) ho) hb.2⟩
 | q :: l, i + 1, p, h, e, hd, hm, hb => by
  have h : l[i]? = some p := by simpa using h
  rw [List.pairwise_cons] at hd
  refine ⟨hm q List.mem_cons_self (fun e2 => hd.1 p (List.mem_of_getElem? h) (by rw [e, e2])) hb.1, ?_⟩
  exact Bxs.set (l := l) hO h e hd.2 (fun r hr => hm r (List.mem_cons_of_mem _ hr)) hb.2
theorem RatNum.map {w w' : World} {V : Value} {q : Rat} (h : RatNum w V q) (hs : Same32 w w') : RatNum w' V q := by
 obtain ⟨n1, xs, n2, ys, ⟨x, v, y, u, rfl, ⟨v1, e1, h1⟩, ⟨v2, e2, h2⟩⟩, e, l⟩ := h
 exact ⟨n1, xs, n2, ys, ⟨_, _, _, _, rfl, ⟨v1, e1, hs _ _ h1⟩, ⟨v2, e2, hs _ _ h2⟩⟩, e, l⟩
theorem RatRep.map {w w' : World} {V : Value} {q : Rat} (h : RatRep w V q) (hs : Same32 w w') : RatRep w' V q := by
 obtain ⟨x, v, y, u, rfl, h1, h2⟩ := h
 exact ⟨x, v, y, u, rfl, h1.map hs, h2.map hs⟩

structure St (w0 w : World) (bs : List Bx) (ps : List (World → Prop)) : Prop where
 k : Keeps w0 w
 b : Bxs w bs
 lo : ∀ p ∈ bs, w0.heap.size ≤ p.1
 d : bs.Pairwise (fun p q => p.1 ≠ q.1)
 p : Ps w ps
section
variable {w0 w w' : World} {bs : List Bx} {ps : List (World → Prop)}
theorem St.start (w : World) : St w w [] [] := ⟨Below.refl _ _, trivial, by simp, List.Pairwise.nil, trivial⟩
theorem St.below (S : St w0 w bs ps) (hk : Keeps w w') : St w0 w' bs ps :=
 ⟨S.k.trans' hk, Bxs.map (fun _ _ h => h.below hk) S.b, S.lo, S.d, S.p.map hk.same32⟩
theorem St.drew (S : St w0 w bs ps) : St w0 w.drew bs ps := ⟨Below.drew S.k, Bxs.map (w := w) (w' := w.drew) (fun _ _ h => h) S.b, S.lo, S.d, Ps.map (w := w) (w' := w.drew) (fun _ _ h => h) S.p⟩
theorem St.alloc (S : St w0 w bs ps) (t : TypeId) (vs : List Value) : St w0 (w.alloc (.cells vs.toArray t)) ((w.heap.size, t, vs) :: bs) ps := by
 have hk := box2 w (.cells vs.toArray t)
 have S' := S.below hk
 refine ⟨S'.k, ⟨Own.new w t vs, S'.b⟩, ?_, ?_, S'.p⟩
 ·intro p hp
  rcases List.mem_cons.1 hp with rfl | hp
  ·exact S.k.size
  ·exact S.lo p hp
 ·rw [List.pairwise_cons]
  exact ⟨fun q hq e => by have := (S.b.mem hq).lt; simp only at e; omega, S.d⟩
theorem St.add (S : St w0 w bs ps) {p : World → Prop} (hp : Stab p) (h : p w) : St w0 w bs (p :: ps) := ⟨S.k, S.b, S.lo, S.d, ⟨⟨hp, h⟩, S.p⟩⟩
theorem St.addN (S : St w0 w bs ps) {V : Value} {z : Int} (h : IntNum w V z) : St w0 w bs ((fun w => IntNum w V z) :: ps) := S.add (fun _ _ hs h => h.map hs) h
theorem St.addI (S : St w0 w bs ps) {V : Value} {z : Int} (h : IntRep w V z) : St w0 w bs ((fun w => IntRep w V z) :: ps) := S.add (fun _ _ hs h => h.map hs) h
theorem St.addR (S : St w0 w bs ps) {V : Value} {q : Rat} (h : RatNum w V q) : St w0 w bs ((fun w => RatNum w V q) :: ps) := S.add (fun _ _ hs h => h.map hs) h
theorem St.addQ (S : St w0 w bs ps) {V : Value} {q : Rat} (h : RatRep w V q) : St w0 w bs ((fun w => RatRep w V q) :: ps) := S.add (fun _ _ hs h => h.map hs) h
theorem IntArg.map {V : Value} {neg : Bool} {xs : List Nat} (h : IntArg w V neg xs) (hs : Same32 w w') : IntArg w' V neg xs := by
 obtain ⟨v, rfl, hv⟩ := h
 exact ⟨v, rfl, hs _ _ hv⟩
theorem St.addA (S : St w0 w bs ps) {V : Value} {neg : Bool} {xs : List Nat} (h : IntArg w V neg xs) : St w0 w bs ((fun w => IntArg w V neg xs) :: ps) := S.add (fun _ _ hs h => h.map hs) h
theorem St.ai (S : St w0 w bs ps) (i : Nat) {V : Value} {neg : Bool} {xs : List Nat} (h : ps[i]? = some (fun w => IntArg w V neg xs)) : IntArg w V neg xs := S.p.get h
theorem St.ni (S : St w0 w bs ps) (i : Nat) {V : Value} {z : Int} (h : ps[i]? = some (fun w => IntNum w V z)) : IntNum w V z := S.p.get h
theorem St.ii (S : St w0 w bs ps) (i : Nat) {V : Value} {z : Int} (h : ps[i]? = some (fun w => IntRep w V z)) : IntRep w V z := S.p.get h
theorem St.ri (S : St w0 w bs ps) (i : Nat) {V : Value} {q : Rat} (h : ps[i]? = some (fun w => RatNum w V q)) : RatNum w V q := S.p.get h
theorem St.qi (S : St w0 w bs ps) (i : Nat) {V : Value} {q : Rat} (h : ps[i]? = some (fun w => RatRep w V q)) : RatRep w V q := S.p.get h
theorem St.o (S : St w0 w bs ps) (i : Nat) {p : Bx} (h : bs[i]? = some p) : Own w p.1 p.2.1 p.2.2 := S.b.get h
theorem St.c (S : St w0 w bs ps) (i j : Nat) {B : Nat} {t : TypeId} {vs : List Value} {v : Value} (h : bs[i]? = some (B, t, vs)) (h2 : vs[j]? = some v) : w.cell? ⟨B, j, none⟩ = some v := by
 have := S.o i h
 rw [this.cell]; exact h2
theorem St.f (S : St w0 w bs ps) (i j : Nat) {B : Nat} {t : TypeId} {vs : List Value} (h : bs[i]? = some (B, t, vs)) : w.frozen? ⟨B, j, none⟩ = false := (S.o i h).frozen j
theorem set_lo {l : List Bx} {n i B : Nat} {t : TypeId} {c c' : List Value} (hi : l[i]? = some (B, t, c)) (h : ∀ p ∈ l, n ≤ p.1) : ∀ p ∈ l.set i (B, t, c'), n ≤ p.1 := by
 intro p hp
 rcases List.mem_or_eq_of_mem_set hp with hp | rfl
 ·exact h p hp
 ·exact h (B, t, c) (List.mem_of_getElem? hi)
theorem set_d : ∀ {l : List Bx} {i B : Nat} {t : TypeId} {c c' : List Value}, l[i]? = some (B, t, c) → l.Pairwise (fun p q => p.1 ≠ q.1) → (l.set i (B, t, c')).Pairwise (fun p q => p.1 ≠ q.1)
 | [], i, B, t, c, c', h, _ => by simp at h
 | q :: l, 0, B, t, c, c', h, hd => by
  obtain rfl : q = (B, t, c) := by simpa using h
  rw [List.pairwise_cons] at hd
  exact List.pairwise_cons.2 ⟨hd.1, hd.2⟩
 | q :: l, i + 1, B, t, c, c', h, hd => by
  have h : l[i]? = some (B, t, c) := by simpa using h
  rw [List.pairwise_cons] at hd
  refine List.pairwise_cons.2 ⟨fun p hp => ?_, set_d h hd.2⟩
  rcases List.mem_or_eq_of_mem_set hp with hp | rfl
  ·exact hd.1 p hp
  ·exact hd.1 (B, t, c) (List.mem_of_getElem? h)
theorem St.put (S : St w0 w bs ps) (i j : Nat) {B : Nat} {t : TypeId} {vs : List Value} (hi : bs[i]? = some (B, t, vs)) (hv : vs.all noU32 = true) (u : Value) :
 St w0 (w.setCell ⟨B, j, none⟩ u) (bs.set i (B, t, vs.set j u)) ps := by
 have hO := S.o i hi
 have hs : Same32 w (w.setCell ⟨B, j, none⟩ u) := fun v xs h => h.put hO hv j u
 have hlo := S.lo _ (List.mem_of_getElem? hi)
 exact ⟨S.k.set hlo u, Bxs.set (hO.set j u) hi rfl S.d (fun q _ e h => h.far e u) S.b, set_lo hi S.lo, set_d hi S.d, S.p.map hs⟩
theorem St.put2 (S : St w0 w bs ps) (i : Nat) {B : Nat} {t : TypeId} {x y x' y' : Value} (hi : bs[i]? = some (B, t, [x, y])) (hv : [x, y].all noU32 = true) (hv' : [x'].all noU32 = true) :
 St w0 ((w.setCell ⟨B, 0, none⟩ x').setCell ⟨B, 1, none⟩ y') (bs.set i (B, t, [x', y'])) ps := by
 have hy : noU32 y = true ∧ noU32 x' = true := by simp at hv hv'; exact ⟨hv.2, hv'⟩
 have S1 := S.put i 0 hi hv x'
 have h1 : (bs.set i (B, t, [x, y].set 0 x'))[i]? = some (B, t, [x', y]) := by
  rw [List.getElem?_set_self (List.getElem?_eq_some_iff.1 hi).1]; rfl
 have S2 := S1.put i 1 h1 (by simp [hy]) y'
 rw [List.set_set] at S2
 exact S2
theorem St.put4 (S : St w0 w bs ps) (i : Nat) {B : Nat} {t : TypeId} {x y z u x' y' z' u' : Value} (hi : bs[i]? = some (B, t, [x, y, z, u])) (hv : [x, y, z, u].all noU32 = true) (hv' : [x', y', z'].all noU32 = true) :
 St w0 ((((w.setCell ⟨B, 0, none⟩ x').setCell ⟨B, 1, none⟩ y').setCell ⟨B, 2, none⟩ z').setCell ⟨B, 3, none⟩ u') (bs.set i (B, t, [x', y', z', u'])) ps := by
 simp only [List.all_cons, List.all_nil, Bool.and_true, Bool.and_eq_true] at hv hv'
 have hlt := (List.getElem?_eq_some_iff.1 hi).1
 have S1 := S.put i 0 hi (by simp [hv]) x'
 have h1 : (bs.set i (B, t, [x, y, z, u].set 0 x'))[i]? = some (B, t, [x', y, z, u]) := by rw [List.getElem?_set_self hlt]; rfl
 have S2 := S1.put i 1 h1 (by simp [hv, hv']) y'
 rw [List.set_set] at S2
 have h2 : (bs.set i (B, t, [x', y, z, u].set 1 y'))[i]? = some (B, t, [x', y', z, u]) := by rw [List.getElem?_set_self hlt]; rfl
 have S3 := S2.put i 2 h2 (by simp [hv, hv']) z'
 rw [List.set_set] at S3
 have h3 : (bs.set i (B, t, [x', y', z, u].set 2 z'))[i]? = some (B, t, [x', y', z', u]) := by rw [List.getElem?_set_self hlt]; rfl
 have S4 := S3.put i 3 h3 (by simp [hv, hv']) u'
 rw [List.set_set] at S4
 exact S4
end
theorem St.cc2 {w0 w : World} {bs : List Bx} {ps : List (World → Prop)} (S : St w0 w bs ps) (i : Nat) {B : Nat} {t : TypeId} {v0 v1 : Value} (h : bs[i]? = some (B, t, [v0, v1])) : w.cell? ⟨B, 0, none⟩ = some v0 ∧ w.cell? ⟨B, 1, none⟩ = some v1 := ⟨S.c i 0 h rfl, S.c i 1 h rfl⟩
theorem St.ff2 {w0 w : World} {bs : List Bx} {ps : List (World → Prop)} (S : St w0 w bs ps) (i : Nat) {B : Nat} {t : TypeId} {vs : List Value} (h : bs[i]? = some (B, t, vs)) : w.frozen? ⟨B, 0, none⟩ = false ∧ w.frozen? ⟨B, 1, none⟩ = false := ⟨S.f i 0 h, S.f i 1 h⟩
theorem St.cc4 {w0 w : World} {bs : List Bx} {ps : List (World → Prop)} (S : St w0 w bs ps) (i : Nat) {B : Nat} {t : TypeId} {v0 v1 v2 v3 : Value} (h : bs[i]? = some (B, t, [v0, v1, v2, v3])) : w.cell? ⟨B, 0, none⟩ = some v0 ∧ w.cell? ⟨B, 1, none⟩ = some v1 ∧ w.cell? ⟨B, 2, none⟩ = some v2 ∧ w.cell? ⟨B, 3, none⟩ = some v3 := ⟨S.c i 0 h rfl, S.c i 1 h rfl, S.c i 2 h rfl, S.c i 3 h rfl⟩
theorem St.ff4 {w0 w : World} {bs : List Bx} {ps : List (World → Prop)} (S : St w0 w bs ps) (i : Nat) {B : Nat} {t : TypeId} {vs : List Value} (h : bs[i]? = some (B, t, vs)) : w.frozen? ⟨B, 0, none⟩ = false ∧ w.frozen? ⟨B, 1, none⟩ = false ∧ w.frozen? ⟨B, 2, none⟩ = false ∧ w.frozen? ⟨B, 3, none⟩ = false := ⟨S.f i 0 h, S.f i 1 h, S.f i 2 h, S.f i 3 h⟩
theorem St.cc6 {w0 w : World} {bs : List Bx} {ps : List (World → Prop)} (S : St w0 w bs ps) (i : Nat) {B : Nat} {t : TypeId} {v0 v1 v2 v3 v4 v5 : Value} (h : bs[i]? = some (B, t, [v0, v1, v2, v3, v4, v5])) : w.cell? ⟨B, 0, none⟩ = some v0 ∧ w.cell? ⟨B, 1, none⟩ = some v1 ∧ w.cell? ⟨B, 2, none⟩ = some v2 ∧ w.cell? ⟨B, 3, none⟩ = some v3 ∧ w.cell? ⟨B, 4, none⟩ = some v4 ∧ w.cell? ⟨B, 5, none⟩ = some v5 := ⟨S.c i 0 h rfl, S.c i 1 h rfl, S.c i 2 h rfl, S.c i 3 h rfl, S.c i 4 h rfl, S.c i 5 h rfl⟩
theorem St.ff6 {w0 w : World} {bs : List Bx} {ps : List (World → Prop)} (S : St w0 w bs ps) (i : Nat) {B : Nat} {t : TypeId} {vs : List Value} (h : bs[i]? = some (B, t, vs)) : w.frozen? ⟨B, 0, none⟩ = false ∧ w.frozen? ⟨B, 1, none⟩ = false ∧ w.frozen? ⟨B, 2, none⟩ = false ∧ w.frozen? ⟨B, 3, none⟩ = false ∧ w.frozen? ⟨B, 4, none⟩ = false ∧ w.frozen? ⟨B, 5, none⟩ = false := ⟨S.f i 0 h, S.f i 1 h, S.f i 2 h, S.f i 3 h, S.f i 4 h, S.f i 5 h⟩
theorem St.cc8 {w0 w : World} {bs : List Bx} {ps : List (World → Prop)} (S : St w0 w bs ps) (i : Nat) {B : Nat} {t : TypeId} {v0 v1 v2 v3 v4 v5 v6 v7 : Value} (h : bs[i]? = some (B, t, [v0, v1, v2, v3, v4, v5, v6, v7])) : w.cell? ⟨B, 0, none⟩ = some v0 ∧ w.cell? ⟨B, 1, none⟩ = some v1 ∧ w.cell? ⟨B, 2, none⟩ = some v2 ∧ w.cell? ⟨B, 3, none⟩ = some v3 ∧ w.cell? ⟨B, 4, none⟩ = some v4 ∧ w.cell? ⟨B, 5, none⟩ = some v5 ∧ w.cell? ⟨B, 6, none⟩ = some v6 ∧ w.cell? ⟨B, 7, none⟩ = some v7 := ⟨S.c i 0 h rfl, S.c i 1 h rfl, S.c i 2 h rfl, S.c i 3 h rfl, S.c i 4 h rfl, S.c i 5 h rfl, S.c i 6 h rfl, S.c i 7 h rfl⟩
theorem St.ff8 {w0 w : World} {bs : List Bx} {ps : List (World → Prop)} (S : St w0 w bs ps) (i : Nat) {B : Nat} {t : TypeId} {vs : List Value} (h : bs[i]? = some (B, t, vs)) : w.frozen? ⟨B, 0, none⟩ = false ∧ w.frozen? ⟨B, 1, none⟩ = false ∧ w.frozen? ⟨B, 2, none⟩ = false ∧ w.frozen? ⟨B, 3, none⟩ = false ∧ w.frozen? ⟨B, 4, none⟩ = false ∧ w.frozen? ⟨B, 5, none⟩ = false ∧ w.frozen? ⟨B, 6, none⟩ = false ∧ w.frozen? ⟨B, 7, none⟩ = false := ⟨S.f i 0 h, S.f i 1 h, S.f i 2 h, S.f i 3 h, S.f i 4 h, S.f i 5 h, S.f i 6 h, S.f i 7 h⟩
end Go.Proofs.YtgcigdahjabimaaGreatDoor
