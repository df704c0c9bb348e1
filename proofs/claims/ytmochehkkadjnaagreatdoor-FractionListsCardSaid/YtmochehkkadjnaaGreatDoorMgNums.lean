/- The contracts once more, in one form: an api.Int that counts z. Fractions as core's Rat: what reduced, sums, products, orders come to; lengths. No program in sight. api.Rat in memory: raw arguments, canonical values. No program in sight. A store into a box of the call's own. No program in sight. Decimal texts of naturals, digit by digit and group by group. No program in sight. Texts joined. No program in sight. The shelf's contracts at this dump, laid by the kit's lay-plain.mjs, cut down to those that are used. The walk of integer.Text. -/
import Derived.Test.YtmochehkkadjnaaGreatDoorRefH
import Derived.Test.YtmochehkkadjnaaGreatDoorMgNum
import Derived.Lib.ItoaNum
import Derived.Shelf.Strings.Builder1
import Derived.Shelf.Strings.Builder2
import Derived.Shelf.Strings.Trim
import Derived.Shelf.Small.Utf8
import Derived.Shelf.Small.Strs
import Derived.Shelf.Strings.BuilderF
import Derived.Shelf.Strings.BuilderK
import Derived.Shelf.Strconv.Atoi
import Derived.Shelf.Strconv.Itoa0
import Derived.Shelf.Strconv.Itoa1
import Derived.Shelf.LaysM
import Derived.Shelf.Strconv.Itoa2
import Derived.Shelf.Strconv.Itoa3
import Derived.Shelf.Bytes.Len
import Derived.Shelf.Bytes.TryGrow
import Derived.Shelf.Bytes.GrowSliceCatch
import Derived.Shelf.Bytes.GrowSlice
import Derived.Shelf.Bytes.String
import Derived.Shelf.Strconv.AtoiErrFast
import Derived.Shelf.Strconv.ParseIntEmpty
import Derived.Shelf.Strconv.AtoiFail
import Derived.Shelf.Strconv.Clone
import Derived.Shelf.Strconv.SyntaxError
import Derived.Shelf.LaysC
import Derived.Shelf.Strconv.ToError
import Derived.Shelf.Strconv.Lower
import Derived.Shelf.Strconv.ParseUint10
import Derived.Shelf.Strconv.ParseUint10Empty
import Derived.Shelf.Strconv.ParseUint10Any
import Derived.Shelf.Strconv.ParseInt10
import Derived.Shelf.Strconv.AtoiLong
import Derived.Shelf.Strconv.AtoiInnerAll
import Derived.Shelf.Strconv.RangeError
import Derived.Shelf.Strconv.ToErrorRange
import Derived.Shelf.Strconv.AtoiAll
import Derived.Shelf.Strings.Search1
import Derived.Shelf.Bytes.GrowRow0Kept
import Derived.Shelf.Strings.Search2
import Derived.Shelf.Bytes.GrowRowKept
import Derived.Shelf.Bytes.GrowNilKept
import Derived.Shelf.Strings.Cut
import Derived.Shelf.Bytes.GrowKept
import Derived.Shelf.Bytes.WriteByteKept
import Derived.Shelf.Strings.Shaped
import Derived.Shelf.Bytes.WriteStringKept
import Derived.Shelf.Bytes.ResetKept
import Derived.Shelf.Bytes.BufferK
import Derived.Shelf.Strings.Prefix
import Derived.Shelf.Strings.Runes
import Derived.Shelf.Strings.AsciiSet
import Derived.Shelf.Bits.Mul64
import Derived.Shelf.Strings.Repeat
import Derived.Shelf.Unicode.DecodeSlow
import Derived.Ground.Names2Prog
import Derived.Shelf.Slices.SearchI
import Derived.Ground.SlgnProg
import Derived.Shelf.SlicesE.Clone
import Derived.Test.YtmochehkkadjnaaGreatDoorProg
import Derived.Test.YtmochehkkadjnaaGreatDoorMgIntD
import Derived.Test.YtmochehkkadjnaaGreatDoorMgCmp
import Derived.Test.YtmochehkkadjnaaGreatDoorMgRefA
import Derived.Lib.LaidTab
import Derived.Lib.AppendIntMem
import Derived.Lib.BufferOld
namespace Go.Proofs.YtmochehkkadjnaaGreatDoor
open Go.RowKit Go.Shelf

def IntNum (w : World) (V : Value) (z : Int) : Prop := ∃ neg xs, IntArg w V neg xs ∧ cnt neg xs = z ∧ xs.length ≤ 900000
def lenI (z : Int) : Nat := (dig z.natAbs).length
theorem IntNum.below {w w' : World} {V : Value} {z : Int} (h : IntNum w V z) (hk : Keeps w w') : IntNum w' V z := by
  obtain ⟨neg, xs, h, e, hl⟩ := h
  exact ⟨neg, xs, h.below hk, e, hl⟩
theorem IntRep.num {w : World} {V : Value} {z : Int} (h : IntRep w V z) (hl : lenI z ≤ 900000) : IntNum w V z := ⟨_, _, h.arg, cnt_rep z, hl⟩
theorem IntRep.drew {w : World} {V : Value} {z : Int} (h : IntRep w V z) : IntRep w.drew V z := h
theorem IntNum.drew {w : World} {V : Value} {z : Int} (h : IntNum w V z) : IntNum w.drew V z := h
theorem lenI_add (a b : Int) : lenI (a + b) ≤ max (lenI a) (lenI b) + 1 := rep_add_length a b
theorem lenI_mul (a b : Int) : lenI (a * b) ≤ lenI a + lenI b := by
  unfold lenI
  rw [Int.natAbs_mul]
  exact dig_length_mul _ _
theorem lenI_neg (a : Int) : lenI (-a) = lenI a := by unfold lenI; rw [Int.natAbs_neg]
theorem lenI_cnt (neg : Bool) (xs : List Nat) : lenI (cnt neg xs) ≤ xs.length := cnt_length neg xs

section
variable {V1 V2 : Value} {x y : Int} {w : World}
def Gives (z : Int) (w : World) (e : Ending) (w' : World) : Prop := ∃ V, e = .returned V ∧ IntRep w' V z ∧ Keeps w w'
theorem add_num (h1 : IntNum w V1 x) (h2 : IntNum w V2 y) : Calls Tryz.prog 92 #[V1, V2] w (Gives (x + y) w) := by
  obtain ⟨n1, xs, h1, rfl, l1⟩ := h1
  obtain ⟨n2, ys, h2, rfl, l2⟩ := h2
  exact add_any n1 n2 xs ys V1 V2 w h1 h2 (by omega) (by omega)
theorem mul_num (h1 : IntNum w V1 x) (h2 : IntNum w V2 y) : Calls Tryz.prog 93 #[V1, V2] w (Gives (x * y) w) := by
  obtain ⟨n1, xs, h1, rfl, l1⟩ := h1
  obtain ⟨n2, ys, h2, rfl, l2⟩ := h2
  exact mul_any n1 n2 xs ys V1 V2 w h1 h2 (by omega) (by omega)
theorem radd_num (h1 : IntNum w V1 x) (h2 : IntNum w V2 y) : Calls Tryz.prog 101 #[V1, V2] w (Gives (x + y) w) := by
  obtain ⟨n1, xs, h1, rfl, l1⟩ := h1
  obtain ⟨n2, ys, h2, rfl, l2⟩ := h2
  exact radd_any n1 n2 xs ys V1 V2 w h1 h2 (by omega) (by omega)
theorem rmul_num (h1 : IntNum w V1 x) (h2 : IntNum w V2 y) : Calls Tryz.prog 120 #[V1, V2] w (Gives (x * y) w) := by
  obtain ⟨n1, xs, h1, rfl, l1⟩ := h1
  obtain ⟨n2, ys, h2, rfl, l2⟩ := h2
  exact rmul_any n1 n2 xs ys V1 V2 w h1 h2 (by omega) (by omega)
theorem neg_num (h1 : IntNum w V1 x) : Calls Tryz.prog 94 #[V1] w (Gives (-x) w) := by
  obtain ⟨n1, xs, h1, rfl, l1⟩ := h1
  exact neg_any n1 xs V1 w h1 (by omega)
theorem rneg_num (h1 : IntNum w V1 x) : Calls Tryz.prog 118 #[V1] w (Gives (-x) w) := by
  obtain ⟨n1, xs, h1, rfl, l1⟩ := h1
  exact rneg_any n1 xs V1 w h1 (by omega)
theorem abs_num (h1 : IntNum w V1 x) : Calls Tryz.prog 109 #[V1] w (Gives x.natAbs w) := by
  obtain ⟨n1, xs, h1, rfl, l1⟩ := h1
  exact abs_any n1 xs V1 w h1 (by omega)
theorem sign_num (h1 : IntNum w V1 x) : Calls Tryz.prog 80 #[V1] w fun e w' => e = .returned (.int .i64 x.sign) ∧ Keeps w w' := by
  obtain ⟨n1, xs, h1, rfl, l1⟩ := h1
  exact sign_any n1 xs V1 w h1 (by omega)
theorem rsign_num (h1 : IntNum w V1 x) : Calls Tryz.prog 82 #[V1] w fun e w' => e = .returned (.int .i64 x.sign) ∧ Keeps w w' := by
  obtain ⟨n1, xs, h1, rfl, l1⟩ := h1
  exact rsign_any n1 xs V1 w h1 (by omega)
theorem rcompare_num (h1 : IntNum w V1 x) (h2 : IntNum w V2 y) : Calls Tryz.prog 44 #[V1, V2] w fun e w' => e = .returned (.int .i64 (x - y).sign) ∧ Keeps w w' := by
  obtain ⟨n1, xs, h1, rfl, l1⟩ := h1
  obtain ⟨n2, ys, h2, rfl, l2⟩ := h2
  exact rcompare_any n1 n2 xs ys V1 V2 w h1 h2 (by omega) (by omega)
theorem compare_num (h1 : IntNum w V1 x) (h2 : IntNum w V2 y) : Calls Tryz.prog 87 #[V1, V2] w fun e w' => e = .returned (.int .i64 (x - y).sign) ∧ Keeps w w' := by
  obtain ⟨n1, xs, h1, rfl, l1⟩ := h1
  obtain ⟨n2, ys, h2, rfl, l2⟩ := h2
  exact compareI_any n1 n2 xs ys V1 V2 w h1 h2 (by omega) (by omega)
end
end Go.Proofs.YtmochehkkadjnaaGreatDoor

namespace Go.Proofs.YtmochehkkadjnaaGreatDoor
open Go.RowKit

theorem lenR_mono {x y : Int} (h : x.natAbs ≤ y.natAbs) : lenI x ≤ lenI y := dig_length_mono h
theorem lenI_one : lenI 1 ≤ 1 := dig_length_le (n := (1 : Int).natAbs) (k := 1) (by decide)
theorem lenI_zero : lenI 0 = 0 := by simp [lenI, dig_zero]
def szR (q : Rat) : Nat := max (lenI q.num) (lenI (q.den : Int))
theorem szR_num {q : Rat} {k : Nat} (h : szR q ≤ k) : lenI q.num ≤ k := Nat.le_trans (Nat.le_max_left _ _) h
theorem szR_den {q : Rat} {k : Nat} (h : szR q ≤ k) : lenI (q.den : Int) ≤ k := Nat.le_trans (Nat.le_max_right _ _) h
theorem szR_mk {q : Rat} {k : Nat} (h1 : lenI q.num ≤ k) (h2 : lenI (q.den : Int) ≤ k) : szR q ≤ k := Nat.max_le.2 ⟨h1, h2⟩
theorem den_posI (q : Rat) : (0 : Int) < q.den := Int.ofNat_lt.2 q.den_pos
theorem natAbs_div_le (a : Int) (g : Nat) : (a / (g : Int)).natAbs ≤ a.natAbs := by
  rcases Nat.eq_zero_or_pos g with h | h
  · subst h; simp
  · rcases Int.le_total 0 a with ha | ha
    · have h1 : 0 ≤ a / (g : Int) := Int.ediv_nonneg ha (by omega)
      have h2 : a / (g : Int) ≤ a := Int.ediv_le_self _ ha
      omega
    · have h2 : a ≤ a / (g : Int) := by
        rw [Int.le_ediv_iff_mul_le (by omega)]
        have : a * (g : Int) ≤ a * 1 := Int.mul_le_mul_of_nonpos_left ha (by omega)
        omega
      have h1 : a / (g : Int) ≤ 0 := by
        have := Int.ediv_le_ediv (c := (g : Int)) (by omega) ha
        simpa using this
      omega
theorem szR_divInt (a b : Int) (hb : b ≠ 0) : szR (Rat.divInt a b) ≤ max (lenI a) (lenI b) := by
  have h1 : (Rat.divInt a b).num.natAbs ≤ a.natAbs := by
    rw [Rat.num_divInt]
    refine Nat.le_trans (natAbs_div_le _ _) ?_
    rw [Int.natAbs_mul, Int.natAbs_sign_of_ne_zero hb, Nat.one_mul]
    exact Nat.le_refl _
  have h2 : ((Rat.divInt a b).den : Int).natAbs ≤ b.natAbs := by
    rw [Int.natAbs_natCast, Rat.den_divInt, if_neg hb]; exact Nat.div_le_self _ _
  exact szR_mk (Nat.le_trans (lenR_mono h1) (Nat.le_max_left _ _)) (Nat.le_trans (lenR_mono h2) (Nat.le_max_right _ _))
theorem red_pos {a b : Int} (hb : 0 < b) : a.fdiv (Int.gcd a b : Nat) = (Rat.divInt a b).num ∧ b.fdiv (Int.gcd a b : Nat) = ((Rat.divInt a b).den : Int) := by
  have hg : (0 : Int) ≤ (Int.gcd a b : Nat) := by omega
  rw [Rat.num_divInt, Rat.den_divInt, if_neg (by omega), Int.sign_eq_one_of_pos hb, Int.one_mul, Int.gcd_comm b a]
  refine ⟨Int.fdiv_eq_ediv_of_nonneg _ hg, ?_⟩
  rw [Int.fdiv_eq_ediv_of_nonneg _ hg, Int.natCast_ediv]
  congr 1
  omega
theorem red_neg {a b : Int} (hb : b < 0) : (-a).fdiv (Int.gcd (-a) (-b) : Nat) = (Rat.divInt a b).num ∧ (-b).fdiv (Int.gcd (-a) (-b) : Nat) = ((Rat.divInt a b).den : Int) := by
  rw [← Rat.neg_divInt_neg a b]
  exact red_pos (by omega)
theorem red_ref {a b : Int} (hb : b < 0) : a.fdiv (-(Int.gcd a b : Nat)) = (Rat.divInt a b).num ∧ b.fdiv (-(Int.gcd a b : Nat)) = ((Rat.divInt a b).den : Int) := by
  obtain ⟨h1, h2⟩ := red_neg (a := a) hb
  rw [Int.gcd_neg, Int.neg_gcd] at h1 h2
  rw [← h1, ← h2]
  refine ⟨?_, ?_⟩
  · rw [← Int.neg_fdiv_neg, Int.neg_neg]
  · rw [← Int.neg_fdiv_neg, Int.neg_neg]
theorem add_divInt (x y : Rat) : x + y = Rat.divInt (x.num * y.den + y.num * x.den) (x.den * y.den) := by
  rw [Rat.add_def', ← Rat.divInt_ofNat, Int.natCast_mul]
theorem sub_divInt (x y : Rat) : x - y = Rat.divInt (x.num * y.den - y.num * x.den) (x.den * y.den) := by
  rw [Rat.sub_def', ← Rat.divInt_ofNat, Int.natCast_mul]
theorem mul_divInt (x y : Rat) : x * y = Rat.divInt (x.num * y.num) (x.den * y.den) := by
  rw [Rat.mul_def', ← Rat.divInt_ofNat, Int.natCast_mul]
theorem div_divInt (x y : Rat) : x / y = Rat.divInt (x.num * y.den) (x.den * y.num) := by
  rw [Rat.div_def, Rat.inv_def]
  conv => lhs; rw [← Rat.num_divInt_den x]
  rw [Rat.divInt_mul_divInt]
def cmpR (x y : Rat) : Int := (x.num * y.den - y.num * x.den).sign
theorem sign_ediv_gcd (n : Int) (g : Nat) (hg : 0 < g) (h : (g : Int) ∣ n) : (n / (g : Int)).sign = n.sign := by
  obtain ⟨k, rfl⟩ := h
  rw [Int.mul_ediv_cancel_left _ (by omega), Int.sign_mul, Int.sign_eq_one_of_pos (a := (g : Int)) (by omega), Int.one_mul]
theorem sign_divInt (a b : Int) (hb : 0 < b) : (Rat.divInt a b).num.sign = a.sign := by
  rw [Rat.num_divInt, Int.sign_eq_one_of_pos hb, Int.one_mul]
  exact sign_ediv_gcd a _ (Int.gcd_pos_of_ne_zero_left _ (by omega)) (Int.gcd_dvd_right ..)
theorem den_mul_pos (x y : Rat) : (0 : Int) < x.den * y.den := Int.mul_pos (den_posI x) (den_posI y)
theorem rat_sub_sign (x y : Rat) : (x - y).num.sign = cmpR x y := by
  rw [sub_divInt, sign_divInt _ _ (den_mul_pos x y)]; rfl
theorem cmpR_pos (x y : Rat) : 0 < cmpR x y ↔ y < x := by
  rw [Rat.lt_iff]
  unfold cmpR
  constructor
  · intro h
    have := Int.sign_eq_one_iff_pos.1 (show (x.num * y.den - y.num * x.den).sign = 1 by
      rcases Int.lt_trichotomy (x.num * y.den - y.num * x.den) 0 with h1 | h1 | h1
      · rw [Int.sign_eq_neg_one_of_neg h1] at h; omega
      · rw [h1] at h; simp at h
      · exact Int.sign_eq_one_of_pos h1)
    omega
  · intro h
    rw [Int.sign_eq_one_of_pos (by omega)]; omega
theorem cmpR_neg (x y : Rat) : cmpR x y = -cmpR y x := by
  unfold cmpR
  rw [← Int.sign_neg, Int.neg_sub]
theorem cmpR_lt (x y : Rat) : cmpR x y < 0 ↔ x < y := by rw [cmpR_neg, ← cmpR_pos]; omega
theorem cmpR_le (x y : Rat) : cmpR x y ≤ 0 ↔ x ≤ y := by rw [← Rat.not_lt, ← cmpR_pos]; omega
theorem cmpR_zero (x y : Rat) : cmpR x y = 0 ↔ x = y := by
  unfold cmpR
  rw [Int.sign_eq_zero_iff_zero, Rat.eq_iff_mul_eq_mul]
  omega
theorem szR_add (x y : Rat) : szR (x + y) ≤ szR x + szR y + 1 := by
  have h := szR_divInt (x.num * y.den + y.num * x.den) (x.den * y.den) (by have := den_mul_pos x y; omega)
  rw [← add_divInt] at h
  have h1 := lenI_add (x.num * y.den) (y.num * x.den)
  have h2 := lenI_mul x.num y.den
  have h3 := lenI_mul y.num x.den
  have h4 := lenI_mul x.den y.den
  have a1 := szR_num (Nat.le_refl (szR x))
  have a2 := szR_den (Nat.le_refl (szR x))
  have b1 := szR_num (Nat.le_refl (szR y))
  have b2 := szR_den (Nat.le_refl (szR y))
  omega
theorem szR_mul (x y : Rat) : szR (x * y) ≤ szR x + szR y := by
  have h := szR_divInt (x.num * y.num) (x.den * y.den) (by have := den_mul_pos x y; omega)
  rw [← mul_divInt] at h
  have h2 := lenI_mul x.num y.num
  have h4 := lenI_mul x.den y.den
  have a1 := szR_num (Nat.le_refl (szR x))
  have a2 := szR_den (Nat.le_refl (szR x))
  have b1 := szR_num (Nat.le_refl (szR y))
  have b2 := szR_den (Nat.le_refl (szR y))
  omega
theorem szR_neg (x : Rat) : szR (-x) = szR x := by unfold szR; rw [Rat.neg_num, Rat.neg_den, lenI_neg]
theorem szR_sub (x y : Rat) : szR (x - y) ≤ szR x + szR y + 1 := by
  have := szR_add x (-y)
  rwa [szR_neg, ← Rat.sub_eq_add_neg] at this
theorem szR_div (x y : Rat) (hy : y ≠ 0) : szR (x / y) ≤ szR x + szR y := by
  have hn : y.num ≠ 0 := fun h => hy (Rat.num_eq_zero.1 h)
  have h := szR_divInt (x.num * y.den) (x.den * y.num) (Int.mul_ne_zero (by have := den_posI x; omega) hn)
  rw [← div_divInt] at h
  have h2 := lenI_mul x.num y.den
  have h4 := lenI_mul x.den y.num
  have a1 := szR_num (Nat.le_refl (szR x))
  have a2 := szR_den (Nat.le_refl (szR x))
  have b1 := szR_num (Nat.le_refl (szR y))
  have b2 := szR_den (Nat.le_refl (szR y))
  omega
theorem szR_int (n : Int) : szR (n : Rat) ≤ max (lenI n) 1 := by
  refine szR_mk ?_ ?_
  · rw [Rat.num_intCast]; omega
  · rw [Rat.den_intCast]
    exact Nat.le_trans lenI_one (Nat.le_max_right _ _)
theorem lenI_floor (x : Rat) : lenI x.floor ≤ lenI x.num := by
  rw [Rat.floor_def]; exact lenR_mono (natAbs_div_le _ _)
theorem lenI_ceil (x : Rat) : lenI x.ceil ≤ lenI x.num := by
  rw [Rat.ceil_eq_neg_floor_neg, lenI_neg]
  have := lenI_floor (-x)
  rwa [Rat.neg_num, lenI_neg] at this
theorem divInt_fields {a b : Int} (hb : 0 < b) (hg : Int.gcd a b = 1) : (Rat.divInt a b).num = a ∧ ((Rat.divInt a b).den : Int) = b := by
  obtain ⟨h1, h2⟩ := red_pos (a := a) hb
  rw [hg] at h1 h2
  rw [← h1, ← h2]
  refine ⟨?_, ?_⟩ <;> exact Int.fdiv_one _
theorem gcd_fields (q : Rat) : Int.gcd q.num q.den = 1 := q.reduced
end Go.Proofs.YtmochehkkadjnaaGreatDoor

namespace Go.Proofs.YtmochehkkadjnaaGreatDoor
open Go.RowKit

def RatRep (w : World) (V : Value) (q : Rat) : Prop := ∃ x v y u, V = .agg #[x, v, y, u] ∧ IntRep w (.agg #[x, v]) q.num ∧ IntRep w (.agg #[y, u]) (q.den : Int)
def RatArg (w : World) (V : Value) (n1 : Bool) (xs : List Nat) (n2 : Bool) (ys : List Nat) : Prop := ∃ x v y u, V = .agg #[x, v, y, u] ∧ IntArg w (.agg #[x, v]) n1 xs ∧ IntArg w (.agg #[y, u]) n2 ys
def rvalidB (n1 : Bool) (xs : List Nat) (n2 : Bool) (ys : List Nat) : Bool :=
  validB n1 xs && (validB n2 ys && (decide (0 < cnt n2 ys) && decide (Int.gcd (cnt n1 xs) (cnt n2 ys) = 1)))
def rcnt (n1 : Bool) (xs : List Nat) (n2 : Bool) (ys : List Nat) : Rat := if rvalidB n1 xs n2 ys then Rat.divInt (cnt n1 xs) (cnt n2 ys) else 0
def RatNum (w : World) (V : Value) (q : Rat) : Prop := ∃ n1 xs n2 ys, RatArg w V n1 xs n2 ys ∧ rcnt n1 xs n2 ys = q ∧ xs.length ≤ 100000 ∧ ys.length ≤ 100000
def RGives (q : Rat) (w : World) (e : Ending) (w' : World) : Prop := ∃ V, e = .returned V ∧ RatRep w' V q ∧ Keeps w w'
section
variable {w w' : World} {V x v y u : Value} {q : Rat} {n1 n2 : Bool} {xs ys : List Nat}
theorem RatRep.below (h : RatRep w V q) (hk : Keeps w w') : RatRep w' V q := by
  obtain ⟨x, v, y, u, rfl, h1, h2⟩ := h
  exact ⟨x, v, y, u, rfl, h1.below hk, h2.below hk⟩
theorem RatRep.drew (h : RatRep w V q) : RatRep w.drew V q := h
theorem RatArg.below (h : RatArg w V n1 xs n2 ys) (hk : Keeps w w') : RatArg w' V n1 xs n2 ys := by
  obtain ⟨x, v, y, u, rfl, h1, h2⟩ := h
  exact ⟨x, v, y, u, rfl, h1.below hk, h2.below hk⟩
theorem RatNum.below (h : RatNum w V q) (hk : Keeps w w') : RatNum w' V q := by
  obtain ⟨n1, xs, n2, ys, h, e, l⟩ := h
  exact ⟨n1, xs, n2, ys, h.below hk, e, l⟩
theorem RatNum.drew (h : RatNum w V q) : RatNum w.drew V q := h
theorem rvalidB_rep (q : Rat) : rvalidB (decide (q.num < 0)) (dig q.num.natAbs) (decide ((q.den : Int) < 0)) (dig (q.den : Int).natAbs) = true := by
  unfold rvalidB
  rw [validB_rep, validB_rep, cnt_rep, cnt_rep, decide_eq_true (den_posI q), decide_eq_true (gcd_fields q)]
  rfl
theorem rcnt_rep (q : Rat) : rcnt (decide (q.num < 0)) (dig q.num.natAbs) (decide ((q.den : Int) < 0)) (dig (q.den : Int).natAbs) = q := by
  unfold rcnt
  rw [if_pos (rvalidB_rep q), cnt_rep, cnt_rep, Rat.num_divInt_den]
theorem RatRep.num (h : RatRep w V q) (hl : szR q ≤ 100000) : RatNum w V q := by
  obtain ⟨x, v, y, u, rfl, h1, h2⟩ := h
  exact ⟨_, _, _, _, ⟨x, v, y, u, rfl, h1.arg, h2.arg⟩, rcnt_rep q, szR_num hl, szR_den hl⟩
theorem rcnt_true (h : rvalidB n1 xs n2 ys = true) : (rcnt n1 xs n2 ys).num = cnt n1 xs ∧ ((rcnt n1 xs n2 ys).den : Int) = cnt n2 ys := by
  unfold rcnt
  rw [if_pos h]
  unfold rvalidB at h
  simp only [Bool.and_eq_true, decide_eq_true_eq] at h
  exact divInt_fields h.2.2.1 h.2.2.2
theorem rcnt_false (h : rvalidB n1 xs n2 ys = false) : rcnt n1 xs n2 ys = 0 := if_neg (by rw [h]; decide)
theorem szR_rcnt : szR (rcnt n1 xs n2 ys) ≤ max (max xs.length ys.length) 1 := by
  cases h : rvalidB n1 xs n2 ys with
  | true =>
    obtain ⟨h1, h2⟩ := rcnt_true h
    refine szR_mk ?_ ?_
    · rw [h1]; have := lenI_cnt n1 xs; omega
    · rw [h2]; have := lenI_cnt n2 ys; omega
  | false =>
    rw [rcnt_false h]
    refine szR_mk ?_ ?_
    · rw [Rat.zero_num, lenI_zero]; omega
    · rw [Rat.zero_den]; exact Nat.le_trans lenI_one (Nat.le_max_right _ _)
theorem RatNum.sz (h : RatNum w V q) : szR q ≤ 100000 := by
  obtain ⟨n1, xs, n2, ys, -, rfl, l1, l2⟩ := h
  have := szR_rcnt (n1 := n1) (xs := xs) (n2 := n2) (ys := ys)
  omega
theorem RatRep.whole {x v y u : Value} {z : Int} (h1 : IntRep w (.agg #[x, v]) z) (h2 : IntRep w (.agg #[y, u]) 1) : RatRep w (.agg #[x, v, y, u]) (z : Rat) :=
  ⟨x, v, y, u, rfl, by rw [Rat.num_intCast]; exact h1, by rw [Rat.den_intCast]; exact h2⟩
theorem RatRep.mk {x v y u : Value} {n d : Int} (h1 : IntRep w (.agg #[x, v]) n) (h2 : IntRep w (.agg #[y, u]) d) (e1 : n = q.num) (e2 : d = (q.den : Int)) : RatRep w (.agg #[x, v, y, u]) q := by
  subst e1 e2; exact ⟨x, v, y, u, rfl, h1, h2⟩
theorem RatRep.n (h : RatRep w (.agg #[x, v, y, u]) q) : IntRep w (.agg #[x, v]) q.num := by
  obtain ⟨_, _, _, _, e, h1, _⟩ := h
  cases e; exact h1
theorem RatRep.d (h : RatRep w (.agg #[x, v, y, u]) q) : IntRep w (.agg #[y, u]) (q.den : Int) := by
  obtain ⟨_, _, _, _, e, _, h2⟩ := h
  cases e; exact h2
theorem RatRep.open_ (h : RatRep w V q) : ∃ b A n c d B m e, V = .agg #[.bool b, .slice A n c, .bool d, .slice B m e] := by
  obtain ⟨x, v, y, u, rfl, h1, h2⟩ := h
  obtain ⟨A, n, c, e, -⟩ := h1.open_
  obtain ⟨B, m, d, e', -⟩ := h2.open_
  cases e; cases e'
  exact ⟨_, A, n, c, _, B, m, d, rfl⟩
theorem RatArg.open_ (h : RatArg w V n1 xs n2 ys) : ∃ A n c B m d, V = .agg #[.bool n1, .slice A n c, .bool n2, .slice B m d] := by
  obtain ⟨x, v, y, u, rfl, ⟨v1, e1, h1⟩, ⟨v2, e2, h2⟩⟩ := h
  cases e1; cases e2
  obtain ⟨A, n, c, rfl, -⟩ := h1.open_
  obtain ⟨B, m, d, rfl, -⟩ := h2.open_
  exact ⟨A, n, c, B, m, d, rfl⟩
theorem RatArg.a1 (h : RatArg w (.agg #[x, v, y, u]) n1 xs n2 ys) : IntArg w (.agg #[x, v]) n1 xs := by
  obtain ⟨_, _, _, _, e, h1, _⟩ := h
  cases e; exact h1
theorem RatArg.a2 (h : RatArg w (.agg #[x, v, y, u]) n1 xs n2 ys) : IntArg w (.agg #[y, u]) n2 ys := by
  obtain ⟨_, _, _, _, e, _, h2⟩ := h
  cases e; exact h2
theorem IntArg.nn {V : Value} {neg : Bool} {xs : List Nat} (h : IntArg w V neg xs) (hl : xs.length ≤ 900000) : IntNum w V (cnt neg xs) := ⟨neg, xs, h, rfl, hl⟩
theorem RatNum.open_ (h : RatNum w V q) : ∃ b A n c d B m e, V = .agg #[.bool b, .slice A n c, .bool d, .slice B m e] := by
  obtain ⟨n1, xs, n2, ys, h, -, -⟩ := h
  obtain ⟨A, n, c, B, m, d, rfl⟩ := h.open_
  exact ⟨n1, A, n, c, n2, B, m, d, rfl⟩
end
end Go.Proofs.YtmochehkkadjnaaGreatDoor

namespace Go.Proofs.YtmochehkkadjnaaGreatDoor
open Go.RowKit

def Same32 (w w' : World) : Prop := ∀ v xs, U32 w v xs → U32 w' v xs
theorem IntRep.map {w w' : World} {V : Value} {z : Int} (h : IntRep w V z) (hs : Same32 w w') : IntRep w' V z := by
  obtain ⟨v, rfl, hv⟩ := h
  exact ⟨v, rfl, hs _ _ hv⟩
theorem IntNum.map {w w' : World} {V : Value} {z : Int} (h : IntNum w V z) (hs : Same32 w w') : IntNum w' V z := by
  obtain ⟨neg, xs, ⟨v, rfl, hv⟩, e, l⟩ := h
  exact ⟨neg, xs, ⟨v, rfl, hs _ _ hv⟩, e, l⟩
end Go.Proofs.YtmochehkkadjnaaGreatDoor

namespace Go.Proofs.YtmochehkkadjnaaGreatDoor

def dch (x : Nat) : UInt8 := UInt8.ofNat (48 + x % 10)
def low : Nat → Nat → List UInt8
  | 0, _ => []
  | k + 1, x => low k (x / 10) ++ [dch x]
def txt (m : Nat) : List UInt8 := if m = 0 then [] else Lib.decDigits m
def textL (z : Int) : List UInt8 := if z = 0 then [48] else (if z < 0 then [45] else []) ++ Lib.decDigits z.natAbs

theorem low_length : ∀ k x, (low k x).length = k
  | 0, _ => rfl
  | k + 1, x => by rw [low, List.length_append, low_length k]; rfl
theorem low_zero : ∀ k, low k 0 = List.replicate k 48
  | 0 => rfl
  | k + 1 => by rw [low, show (0 : Nat) / 10 = 0 from rfl, low_zero k, List.replicate_succ']; rfl
theorem txt_step (m : Nat) (h : 0 < m) : txt m = txt (m / 10) ++ [dch m] := by
  unfold txt
  rw [if_neg (by omega), Lib.decDigits]
  by_cases h10 : m < 10
  · rw [dif_pos h10, if_pos (by omega)]
    simp [dch, Nat.mod_eq_of_lt h10]
  · rw [dif_neg h10, if_neg (by omega)]; rfl
theorem txt_group : ∀ (k V x : Nat), 0 < V → x < 10 ^ k → txt (V * 10 ^ k + x) = txt V ++ low k x
  | 0, V, x, _, hx => by
    obtain rfl : x = 0 := by simpa using hx
    simp [low]
  | k + 1, V, x, hV, hx => by
    have hp : 0 < V * 10 ^ (k + 1) := Nat.mul_pos hV (Nat.pow_pos (by omega))
    rw [txt_step _ (by omega), low]
    have e1 : (V * 10 ^ (k + 1) + x) / 10 = V * 10 ^ k + x / 10 := by
      rw [Nat.pow_succ, ← Nat.mul_assoc, Nat.mul_comm (V * 10 ^ k) 10, Nat.mul_add_div (by omega)]
    have e2 : dch (V * 10 ^ (k + 1) + x) = dch x := by
      unfold dch
      rw [Nat.pow_succ, ← Nat.mul_assoc, Nat.mul_comm (V * 10 ^ k) 10, Nat.mul_add_mod]
    rw [e1, e2, txt_group k V (x / 10) hV (by rw [Nat.pow_succ] at hx; omega), List.append_assoc]
theorem pad_low : ∀ (k x : Nat), x < 10 ^ k → 0 < k → List.replicate (k - (Lib.decDigits x).length) 48 ++ Lib.decDigits x = low k x
  | k + 1, x, hx, _ => by
    rw [low]
    by_cases h10 : x < 10
    · rw [Lib.decDigits, dif_pos h10, show x / 10 = 0 by omega, low_zero]
      simp [dch, Nat.mod_eq_of_lt h10]
    · rw [Lib.decDigits, dif_neg h10]
      have hk : 0 < k := Nat.pos_of_ne_zero fun e => by subst e; simp at hx; omega
      rw [← pad_low k (x / 10) (by rw [Nat.pow_succ] at hx; omega) hk]
      simp only [List.length_append, List.length_cons, List.length_nil, List.append_assoc]
      rw [show k + 1 - ((Lib.decDigits (x / 10)).length + (0 + 1)) = k - (Lib.decDigits (x / 10)).length by omega]
      rfl
theorem decDigits_len (x : Nat) (h : x < 1000000000) : (Lib.decDigits x).length ≤ 9 ∧ 0 < (Lib.decDigits x).length := by
  have h1 := congrArg List.length (pad_low 9 x (by omega) (by omega))
  rw [List.length_append, List.length_replicate, low_length] at h1
  refine ⟨by omega, ?_⟩
  rw [Lib.decDigits]
  split <;> simp
theorem txt_pos (m : Nat) (h : m ≠ 0) : txt m = Lib.decDigits m := if_neg h
theorem txt_pad (V x : Nat) (hV : 0 < V) (hx : x < 1000000000) : txt (V * 1000000000 + x) = txt V ++ (List.replicate (9 - (Lib.decDigits x).length) 48 ++ Lib.decDigits x) := by
  rw [pad_low 9 x (by omega) (by omega), ← txt_group 9 V x hV (by omega)]
theorem drop_pos (m q : Nat) (h : q < (dig m).length) : 0 < val ((dig m).drop q) := by
  rcases Nat.eq_zero_or_pos (val ((dig m).drop q)) with h0 | h0
  · have h1 := val_split (dig m) q (by omega)
    rw [h0, Nat.mul_zero, Nat.add_zero, val_dig] at h1
    have h2 := val_lt ((AllB.dig m).take q)
    rw [List.length_take, Nat.min_eq_left (by omega), ← h1] at h2
    have h3 := dig_length_le h2
    omega
  · exact h0
theorem txt_len : ∀ (K m : Nat), m < 10 ^ K → (txt m).length ≤ K
  | 0, m, h => by
    obtain rfl : m = 0 := by simpa using h
    simp [txt]
  | K + 1, m, h => by
    rcases Nat.eq_zero_or_pos m with rfl | hp
    · simp [txt]
    · rw [txt_step m hp, List.length_append]
      have := txt_len K (m / 10) (by rw [Nat.pow_succ] at h; omega)
      simp only [List.length_cons, List.length_nil]
      omega
theorem txt_drop_len (m j : Nat) : (txt (val ((dig m).drop j))).length ≤ 9 * (dig m).length := by
  have h := val_lt ((AllB.dig m).drop j)
  have h2 := txt_len (9 * ((dig m).drop j).length) _ (by rw [Nat.pow_mul]; exact h)
  rw [List.length_drop] at h2
  omega
def padN (k L : Nat) : Nat := if k = 0 then 0 else 9 - L
theorem txt_round (m n k q : Nat) (hn : (dig m).length = n) (hk : k < n) (hq : n - 1 - k = q) :
    txt (val ((dig m).drop (n - (k + 1)))) = txt (val ((dig m).drop (n - k))) ++ (List.replicate (padN k (Lib.decDigits (ix (dig m) q)).length) 48 ++ Lib.decDigits (ix (dig m) q)) := by
  have hd := val_drop (dig m) q (by omega)
  rw [show n - (k + 1) = q by omega, hd, show n - k = q + 1 by omega]
  unfold padN
  by_cases h0 : k = 0
  · have h1 : val ((dig m).drop (q + 1)) = 0 := by rw [List.drop_of_length_le (by omega)]; simp [val]
    have h2 := drop_pos m q (by omega)
    rw [hd, h1] at h2
    rw [if_pos h0, h1, Nat.mul_zero, Nat.add_zero, txt_pos _ (by omega)]
    simp [txt]
  · rw [if_neg h0, Nat.add_comm, Nat.mul_comm, txt_pad _ _ (drop_pos m (q + 1) (by omega)) ((AllB.dig m).ix q)]
end Go.Proofs.YtmochehkkadjnaaGreatDoor

namespace Go.Proofs.YtmochehkkadjnaaGreatDoor
open Go

theorem cat_str (a b : List UInt8) : ByteArray.mk a.toArray ++ ByteArray.mk b.toArray = ByteArray.mk (a ++ b).toArray := by
  apply ByteArray.ext
  rw [ByteArray.data_append]
  simp
end Go.Proofs.YtmochehkkadjnaaGreatDoor

namespace Go.Proofs
open Go.Shelf
def Tryz.lays169_ren : Go.Shelf.Ren := ⟨fun | 169 => 112 | n => n, fun | 70 => 79 | 9 => 9 | 0 => 0 | 72 => 82 | 37 => 80 | 127 => 136 | 3 => 3 | 5 => 5 | n => n, fun | n => n⟩
theorem Tryz.lays169 : Go.Proofs.Lays.n169 Tryz.prog Tryz.lays169_ren := {
  mixed := by kernel_rfl
  f169 := Tryz.func112.trans (congrArg some (by kernel_rfl))
  t0 := Tryz.underlying0
  a0 := Tryz.isAgg0
  z0 := Tryz.sizeOf0
  v0 := Tryz.zeroValue0
  t3 := Tryz.underlying3
  a3 := Tryz.isAgg3
  z3 := Tryz.sizeOf3
  v3 := Tryz.zeroValue3
  t9 := Tryz.underlying9
  a9 := Tryz.isAgg9
  z9 := Tryz.sizeOf9
  v9 := Tryz.zeroValue9
  t37 := Tryz.underlying80
  a37 := Tryz.isAgg80
  z37 := Tryz.sizeOf80
  v37 := Tryz.zeroValue80
  t70 := Tryz.underlying79
  a70 := Tryz.isAgg79
  z70 := Tryz.sizeOf79
  v70 := Tryz.zeroValue79
  t72 := Tryz.underlying82
  a72 := Tryz.isAgg82
  z72 := Tryz.sizeOf82
  v72 := Tryz.zeroValue82
  t127 := Tryz.underlying136
  a127 := Tryz.isAgg136
  z127 := Tryz.sizeOf136
  v127 := Tryz.zeroValue136 }
theorem Tryz.Builder_Extra_169 : Builder.Extra Tryz.prog Tryz.lays169_ren := {
  sizeBuilder := by kernel_rfl
  liesBuilder := by kernel_rfl
  t5 := Tryz.underlying5
  a5 := Tryz.isAgg5
  z5 := Tryz.sizeOf5
  v5 := Tryz.zeroValue5
  infoByte := by kernel_rfl
  cellsByte := by kernel_rfl
  sizeByte := by kernel_rfl
  neB5 := by decide }
open Go.RowKit in
theorem Tryz.Builder_String_any (B b : Nat) (l : List UInt8) (w : World) (h : Lib.IsBuilder 82 5 B b (Lib.byteCells l) w) (hBw : B ≤ w.heap.size) :
    Calls Tryz.prog 112 #[.pointer (some ⟨b, 0, none⟩)] w fun e w' => e = .returned (.string ⟨l.toArray⟩) ∧ Below B w w' := Any.Builder_String_any Tryz.lays169 Tryz.Builder_Extra_169 B b l w h hBw
def Tryz.laysM171_ren : Go.Shelf.Ren := ⟨fun | 171 => 161 | 243 => 194 | 246 => 208 | 283 => 222 | 284 => 223 | 285 => 224 | 286 => 225 | 129 => 234 | 317 => 233 | 318 => 235 | 319 => 236 | 320 => 237 | 337 => 240 | 338 => 241 | n => n, fun | 3 => 3 | 9 => 9 | 2 => 2 | 4 => 4 | 171 => 182 | 0 => 0 | 53 => 105 | 37 => 80 | 5 => 5 | 173 => 185 | 212 => 200 | 51 => 93 | 20 => 20 | 213 => 201 | 46 => 131 | 232 => 208 | 233 => 209 | n => n, fun | 17 => 6 | 18 => 7 | 19 => 8 | n => n⟩
theorem Tryz.laysM171 : Go.Proofs.LaysM.n171 Tryz.prog Tryz.laysM171_ren := {
  mixed := by kernel_rfl
  f129 := Tryz.func234.trans (congrArg some (by kernel_rfl))
  f171 := Tryz.func161.trans (congrArg some (by kernel_rfl))
  f243 := Tryz.func194.trans (congrArg some (by kernel_rfl))
  f246 := Tryz.func208.trans (congrArg some (by kernel_rfl))
  f283 := Tryz.func222.trans (congrArg some (by kernel_rfl))
  f284 := Tryz.func223.trans (congrArg some (by kernel_rfl))
  f285 := Tryz.func224.trans (congrArg some (by kernel_rfl))
  f286 := Tryz.func225.trans (congrArg some (by kernel_rfl))
  f317 := Tryz.func233.trans (congrArg some (by kernel_rfl))
  f318 := Tryz.func235.trans (congrArg some (by kernel_rfl))
  f319 := Tryz.func236.trans (congrArg some (by kernel_rfl))
  f320 := Tryz.func237.trans (congrArg some (by kernel_rfl))
  f337 := Tryz.func240.trans (congrArg some (by kernel_rfl))
  f338 := Tryz.func241.trans (congrArg some (by kernel_rfl))
  t0 := Tryz.underlying0
  a0 := Tryz.isAgg0
  z0 := Tryz.sizeOf0
  v0 := Tryz.zeroValue0
  t2 := Tryz.underlying2
  a2 := Tryz.isAgg2
  z2 := Tryz.sizeOf2
  v2 := Tryz.zeroValue2
  t3 := Tryz.underlying3
  a3 := Tryz.isAgg3
  z3 := Tryz.sizeOf3
  v3 := Tryz.zeroValue3
  t4 := Tryz.underlying4
  a4 := Tryz.isAgg4
  z4 := Tryz.sizeOf4
  v4 := Tryz.zeroValue4
  t5 := Tryz.underlying5
  a5 := Tryz.isAgg5
  z5 := Tryz.sizeOf5
  v5 := Tryz.zeroValue5
  t9 := Tryz.underlying9
  a9 := Tryz.isAgg9
  z9 := Tryz.sizeOf9
  v9 := Tryz.zeroValue9
  t20 := Tryz.underlying20
  a20 := Tryz.isAgg20
  z20 := Tryz.sizeOf20
  v20 := Tryz.zeroValue20
  t37 := Tryz.underlying80
  a37 := Tryz.isAgg80
  z37 := Tryz.sizeOf80
  v37 := Tryz.zeroValue80
  t46 := Tryz.underlying131
  a46 := Tryz.isAgg131
  z46 := Tryz.sizeOf131
  v46 := Tryz.zeroValue131
  t51 := Tryz.underlying93
  a51 := Tryz.isAgg93
  z51 := Tryz.sizeOf93
  v51 := Tryz.zeroValue93
  t53 := Tryz.underlying105
  a53 := Tryz.isAgg105
  z53 := Tryz.sizeOf105
  v53 := Tryz.zeroValue105
  t171 := Tryz.underlying182
  a171 := Tryz.isAgg182
  z171 := Tryz.sizeOf182
  v171 := Tryz.zeroValue182
  t173 := Tryz.underlying185
  a173 := Tryz.isAgg185
  z173 := Tryz.sizeOf185
  v173 := Tryz.zeroValue185
  t212 := Tryz.underlying200
  a212 := Tryz.isAgg200
  z212 := Tryz.sizeOf200
  v212 := Tryz.zeroValue200
  t213 := Tryz.underlying201
  a213 := Tryz.isAgg201
  z213 := Tryz.sizeOf201
  t232 := Tryz.underlying208
  a232 := Tryz.isAgg208
  z232 := Tryz.sizeOf208
  v232 := Tryz.zeroValue208
  t233 := Tryz.underlying209
  a233 := Tryz.isAgg209
  z233 := Tryz.sizeOf209
  v233 := Tryz.zeroValue209
  g17 := by kernel_rfl
  g18 := by kernel_rfl
  g19 := by kernel_rfl
  i0 := by kernel_rfl
  i2 := by kernel_rfl
  i3 := by kernel_rfl
  i4 := by kernel_rfl
  i5 := by kernel_rfl
  i9 := by kernel_rfl
  i20 := by kernel_rfl
  i37 := by kernel_rfl
  i46 := by kernel_rfl
  i51 := by kernel_rfl
  i53 := by kernel_rfl
  i171 := by kernel_rfl
  i173 := by kernel_rfl
  i212 := by kernel_rfl
  i232 := by kernel_rfl
  i233 := by kernel_rfl
  m17 := by kernel_rfl
  m18 := by kernel_rfl
  m19 := by kernel_rfl }
open Go.RowKit Go.Sort Go.Lib in
theorem Tryz.strconv_Itoa (n : Int) (h0 : -9223372036854775808 ≤ n) (h1 : n ≤ 9223372036854775807) (w : World) (htab : Lib.TabIs Tryz.prog w "internal/strconv.uint64pow10" .u64 Lib.pow10Tab) :
    Calls Tryz.prog 161 #[.int .i64 n] w fun e w' => e = .returned (.string ⟨(Lib.itoa n).toArray⟩) ∧ ∃ k os, w' = grow (w.drewN k) os := Any.strconv_Itoa Tryz.laysM171 n h0 h1 w htab
def Tryz.laysM182_ren : Go.Shelf.Ren := ⟨fun | 182 => 163 | n => n, fun | 130 => 157 | 9 => 9 | 4 => 4 | 0 => 0 | 93 => 126 | 37 => 80 | 3 => 3 | 91 => 124 | 5 => 5 | n => n, fun | n => n⟩
theorem Tryz.laysM182 : Go.Proofs.LaysM.n182 Tryz.prog Tryz.laysM182_ren := {
  mixed := by kernel_rfl
  f182 := Tryz.func163.trans (congrArg some (by kernel_rfl))
  t0 := Tryz.underlying0
  a0 := Tryz.isAgg0
  z0 := Tryz.sizeOf0
  v0 := Tryz.zeroValue0
  t3 := Tryz.underlying3
  a3 := Tryz.isAgg3
  z3 := Tryz.sizeOf3
  v3 := Tryz.zeroValue3
  t4 := Tryz.underlying4
  a4 := Tryz.isAgg4
  z4 := Tryz.sizeOf4
  v4 := Tryz.zeroValue4
  t9 := Tryz.underlying9
  a9 := Tryz.isAgg9
  z9 := Tryz.sizeOf9
  v9 := Tryz.zeroValue9
  t37 := Tryz.underlying80
  a37 := Tryz.isAgg80
  z37 := Tryz.sizeOf80
  v37 := Tryz.zeroValue80
  t93 := Tryz.underlying126
  a93 := Tryz.isAgg126
  z93 := Tryz.sizeOf126
  v93 := Tryz.zeroValue126
  t130 := Tryz.underlying157
  a130 := Tryz.isAgg157
  z130 := Tryz.sizeOf157
  v130 := Tryz.zeroValue157
  t5 := Tryz.underlying5
  a5 := Tryz.isAgg5
  z5 := Tryz.sizeOf5
  v5 := Tryz.zeroValue5
  t91 := Tryz.underlying124
  a91 := Tryz.isAgg124
  z91 := Tryz.sizeOf124
  v91 := Tryz.zeroValue124
  i0 := by kernel_rfl
  i3 := by kernel_rfl
  i4 := by kernel_rfl
  i5 := by kernel_rfl
  i9 := by kernel_rfl
  i37 := by kernel_rfl
  i91 := by kernel_rfl
  i93 := by kernel_rfl
  i130 := by kernel_rfl }
open Go.RowKit in
theorem Tryz.Buffer_String (B b : Nat) (l : List UInt8) (w : World) (h : Lib.IsBuffer 126 5 B b (Lib.byteCells l) w) :
    Calls Tryz.prog 163 #[.pointer (some ⟨b, 0, none⟩)] w fun e w' => e = .returned (.string ⟨l.toArray⟩) ∧ ∃ n, w' = w.drewN n := Any.Buffer_String Tryz.laysM182 B b l w h
def Tryz.laysM179_ren : Go.Shelf.Ren := ⟨fun | 179 => 159 | 251 => 191 | 252 => 192 | 181 => 205 | 184 => 206 | 290 => 207 | 324 => 221 | n => n, fun | 130 => 157 | 5 => 5 | 75 => 84 | 0 => 0 | 93 => 126 | 91 => 124 | 3 => 3 | 131 => 158 | 4 => 4 | 37 => 80 | 20 => 20 | 80 => 90 | 9 => 9 | n => n, fun | 14 => 0 | n => n⟩
theorem Tryz.laysM179 : Go.Proofs.LaysM.n179 Tryz.prog Tryz.laysM179_ren := {
  mixed := by kernel_rfl
  f179 := Tryz.func159.trans (congrArg some (by kernel_rfl))
  f181 := Tryz.func205.trans (congrArg some (by kernel_rfl))
  f184 := Tryz.func206.trans (congrArg some (by kernel_rfl))
  f251 := Tryz.func191.trans (congrArg some (by kernel_rfl))
  f252 := Tryz.func192.trans (congrArg some (by kernel_rfl))
  f290 := Tryz.func207.trans (congrArg some (by kernel_rfl))
  f324 := Tryz.func221.trans (congrArg some (by kernel_rfl))
  t0 := Tryz.underlying0
  a0 := Tryz.isAgg0
  z0 := Tryz.sizeOf0
  v0 := Tryz.zeroValue0
  t3 := Tryz.underlying3
  a3 := Tryz.isAgg3
  z3 := Tryz.sizeOf3
  v3 := Tryz.zeroValue3
  t4 := Tryz.underlying4
  a4 := Tryz.isAgg4
  z4 := Tryz.sizeOf4
  v4 := Tryz.zeroValue4
  t5 := Tryz.underlying5
  a5 := Tryz.isAgg5
  z5 := Tryz.sizeOf5
  v5 := Tryz.zeroValue5
  t20 := Tryz.underlying20
  a20 := Tryz.isAgg20
  z20 := Tryz.sizeOf20
  v20 := Tryz.zeroValue20
  t37 := Tryz.underlying80
  a37 := Tryz.isAgg80
  z37 := Tryz.sizeOf80
  v37 := Tryz.zeroValue80
  t75 := Tryz.underlying84
  a75 := Tryz.isAgg84
  z75 := Tryz.sizeOf84
  v75 := Tryz.zeroValue84
  t91 := Tryz.underlying124
  a91 := Tryz.isAgg124
  z91 := Tryz.sizeOf124
  v91 := Tryz.zeroValue124
  t93 := Tryz.underlying126
  a93 := Tryz.isAgg126
  z93 := Tryz.sizeOf126
  v93 := Tryz.zeroValue126
  t130 := Tryz.underlying157
  a130 := Tryz.isAgg157
  z130 := Tryz.sizeOf157
  v130 := Tryz.zeroValue157
  t131 := Tryz.underlying158
  a131 := Tryz.isAgg158
  z131 := Tryz.sizeOf158
  v131 := Tryz.zeroValue158
  g14 := by kernel_rfl
  t9 := Tryz.underlying9
  a9 := Tryz.isAgg9
  z9 := Tryz.sizeOf9
  v9 := Tryz.zeroValue9
  t80 := Tryz.underlying90
  a80 := Tryz.isAgg90
  z80 := Tryz.sizeOf90
  v80 := Tryz.zeroValue90
  i0 := by kernel_rfl
  i3 := by kernel_rfl
  i4 := by kernel_rfl
  i5 := by kernel_rfl
  i9 := by kernel_rfl
  i20 := by kernel_rfl
  i37 := by kernel_rfl
  i75 := by kernel_rfl
  i80 := by kernel_rfl
  i91 := by kernel_rfl
  i93 := by kernel_rfl
  i130 := by kernel_rfl
  i131 := by kernel_rfl
  m14 := by kernel_rfl }
def Tryz.laysM178_ren : Go.Shelf.Ren := ⟨fun | 178 => 162 | 251 => 191 | 252 => 192 | 181 => 205 | 184 => 206 | 290 => 207 | 324 => 221 | n => n, fun | 130 => 157 | 9 => 9 | 3 => 3 | 75 => 84 | 0 => 0 | 93 => 126 | 91 => 124 | 131 => 158 | 4 => 4 | 37 => 80 | 20 => 20 | 80 => 90 | 5 => 5 | n => n, fun | 14 => 0 | n => n⟩
theorem Tryz.laysM178 : Go.Proofs.LaysM.n178 Tryz.prog Tryz.laysM178_ren := {
  mixed := by kernel_rfl
  f178 := Tryz.func162.trans (congrArg some (by kernel_rfl))
  f181 := Tryz.func205.trans (congrArg some (by kernel_rfl))
  f184 := Tryz.func206.trans (congrArg some (by kernel_rfl))
  f251 := Tryz.func191.trans (congrArg some (by kernel_rfl))
  f252 := Tryz.func192.trans (congrArg some (by kernel_rfl))
  f290 := Tryz.func207.trans (congrArg some (by kernel_rfl))
  f324 := Tryz.func221.trans (congrArg some (by kernel_rfl))
  t0 := Tryz.underlying0
  a0 := Tryz.isAgg0
  z0 := Tryz.sizeOf0
  v0 := Tryz.zeroValue0
  t3 := Tryz.underlying3
  a3 := Tryz.isAgg3
  z3 := Tryz.sizeOf3
  v3 := Tryz.zeroValue3
  t4 := Tryz.underlying4
  a4 := Tryz.isAgg4
  z4 := Tryz.sizeOf4
  v4 := Tryz.zeroValue4
  t9 := Tryz.underlying9
  a9 := Tryz.isAgg9
  z9 := Tryz.sizeOf9
  v9 := Tryz.zeroValue9
  t20 := Tryz.underlying20
  a20 := Tryz.isAgg20
  z20 := Tryz.sizeOf20
  v20 := Tryz.zeroValue20
  t37 := Tryz.underlying80
  a37 := Tryz.isAgg80
  z37 := Tryz.sizeOf80
  v37 := Tryz.zeroValue80
  t75 := Tryz.underlying84
  a75 := Tryz.isAgg84
  z75 := Tryz.sizeOf84
  v75 := Tryz.zeroValue84
  t91 := Tryz.underlying124
  a91 := Tryz.isAgg124
  z91 := Tryz.sizeOf124
  v91 := Tryz.zeroValue124
  t93 := Tryz.underlying126
  a93 := Tryz.isAgg126
  z93 := Tryz.sizeOf126
  v93 := Tryz.zeroValue126
  t130 := Tryz.underlying157
  a130 := Tryz.isAgg157
  z130 := Tryz.sizeOf157
  v130 := Tryz.zeroValue157
  t131 := Tryz.underlying158
  a131 := Tryz.isAgg158
  z131 := Tryz.sizeOf158
  v131 := Tryz.zeroValue158
  g14 := by kernel_rfl
  t5 := Tryz.underlying5
  a5 := Tryz.isAgg5
  z5 := Tryz.sizeOf5
  v5 := Tryz.zeroValue5
  t80 := Tryz.underlying90
  a80 := Tryz.isAgg90
  z80 := Tryz.sizeOf90
  v80 := Tryz.zeroValue90
  i0 := by kernel_rfl
  i3 := by kernel_rfl
  i4 := by kernel_rfl
  i5 := by kernel_rfl
  i9 := by kernel_rfl
  i20 := by kernel_rfl
  i37 := by kernel_rfl
  i75 := by kernel_rfl
  i80 := by kernel_rfl
  i91 := by kernel_rfl
  i93 := by kernel_rfl
  i130 := by kernel_rfl
  i131 := by kernel_rfl
  m14 := by kernel_rfl }
open Go.RowKit in
theorem Tryz.Buffer_WriteByte_k (B b : Nat) (bs : List Value) (c : Int) (w : World) (h : Lib.IsBuffer 126 5 B b bs w) (hBw : B ≤ w.heap.size) (h1 : ∀ v ∈ bs, v.oneCell' = true) (hlim : bs.length + 1 ≤ 140737488355328) :
    Calls Tryz.prog 159 #[.pointer (some ⟨b, 0, none⟩), .int .u8 c] w fun e w' => e = .returned .nilIface ∧ Lib.IsBuffer 126 5 B b (bs ++ [.int .u8 c]) w' ∧ Below B w w' ∧ Lib.OthersKept 5 (some b) w w' := Any.Buffer_WriteByte_k Tryz.laysM179 B b bs c w h hBw h1 hlim
open Go.RowKit in
theorem Tryz.Buffer_WriteString_k (B b : Nat) (bs : List Value) (s : ByteArray) (w : World) (h : Lib.IsBuffer 126 5 B b bs w) (hBw : B ≤ w.heap.size) (h1 : ∀ v ∈ bs, v.oneCell' = true) (hlim : bs.length + s.size ≤ 140737488355328) :
    Calls Tryz.prog 162 #[.pointer (some ⟨b, 0, none⟩), .string s] w fun e w' => e = .returned (.tuple #[.int .i64 s.size, .nilIface]) ∧ Lib.IsBuffer 126 5 B b (bs ++ Lib.byteCells s.data.toList) w' ∧ Below B w w' ∧ Lib.OthersKept 5 (some b) w w' := Any.Buffer_WriteString_k Tryz.laysM178 B b bs s w h hBw h1 hlim
def Tryz.lays105_ren : Go.Shelf.Ren := ⟨fun | 105 => 110 | 212 => 164 | 99 => 126 | 165 => 165 | 166 => 111 | 170 => 166 | 169 => 112 | 263 => 195 | 264 => 196 | 206 => 170 | 240 => 158 | 241 => 197 | 276 => 190 | 277 => 209 | n => n, fun | 9 => 9 | 3 => 3 | 4 => 4 | 20 => 20 | 0 => 0 | 46 => 131 | 109 => 132 | 5 => 5 | 72 => 82 | 76 => 88 | 51 => 93 | 146 => 162 | 53 => 105 | 148 => 164 | 70 => 79 | 37 => 80 | 75 => 84 | 127 => 136 | 164 => 155 | 80 => 90 | n => n, fun | n => n⟩
theorem Tryz.lays105 : Go.Proofs.Lays.n105 Tryz.prog Tryz.lays105_ren := {
  mixed := by kernel_rfl
  f99 := Tryz.func126.trans (congrArg some (by kernel_rfl))
  f105 := Tryz.func110.trans (congrArg some (by kernel_rfl))
  f165 := Tryz.func165.trans (congrArg some (by kernel_rfl))
  f166 := Tryz.func111.trans (congrArg some (by kernel_rfl))
  f169 := Tryz.func112.trans (congrArg some (by kernel_rfl))
  f170 := Tryz.func166.trans (congrArg some (by kernel_rfl))
  f206 := Tryz.func170.trans (congrArg some (by kernel_rfl))
  f212 := Tryz.func164.trans (congrArg some (by kernel_rfl))
  f240 := Tryz.func158.trans (congrArg some (by kernel_rfl))
  f241 := Tryz.func197.trans (congrArg some (by kernel_rfl))
  f263 := Tryz.func195.trans (congrArg some (by kernel_rfl))
  f264 := Tryz.func196.trans (congrArg some (by kernel_rfl))
  f276 := Tryz.func190.trans (congrArg some (by kernel_rfl))
  f277 := Tryz.func209.trans (congrArg some (by kernel_rfl))
  t0 := Tryz.underlying0
  a0 := Tryz.isAgg0
  z0 := Tryz.sizeOf0
  v0 := Tryz.zeroValue0
  t3 := Tryz.underlying3
  a3 := Tryz.isAgg3
  z3 := Tryz.sizeOf3
  v3 := Tryz.zeroValue3
  t4 := Tryz.underlying4
  a4 := Tryz.isAgg4
  z4 := Tryz.sizeOf4
  v4 := Tryz.zeroValue4
  t5 := Tryz.underlying5
  a5 := Tryz.isAgg5
  z5 := Tryz.sizeOf5
  v5 := Tryz.zeroValue5
  t9 := Tryz.underlying9
  a9 := Tryz.isAgg9
  z9 := Tryz.sizeOf9
  v9 := Tryz.zeroValue9
  t20 := Tryz.underlying20
  a20 := Tryz.isAgg20
  z20 := Tryz.sizeOf20
  v20 := Tryz.zeroValue20
  t37 := Tryz.underlying80
  a37 := Tryz.isAgg80
  z37 := Tryz.sizeOf80
  v37 := Tryz.zeroValue80
  t46 := Tryz.underlying131
  a46 := Tryz.isAgg131
  z46 := Tryz.sizeOf131
  v46 := Tryz.zeroValue131
  t51 := Tryz.underlying93
  a51 := Tryz.isAgg93
  z51 := Tryz.sizeOf93
  v51 := Tryz.zeroValue93
  t53 := Tryz.underlying105
  a53 := Tryz.isAgg105
  z53 := Tryz.sizeOf105
  v53 := Tryz.zeroValue105
  t70 := Tryz.underlying79
  a70 := Tryz.isAgg79
  z70 := Tryz.sizeOf79
  v70 := Tryz.zeroValue79
  t72 := Tryz.underlying82
  a72 := Tryz.isAgg82
  z72 := Tryz.sizeOf82
  v72 := Tryz.zeroValue82
  t75 := Tryz.underlying84
  a75 := Tryz.isAgg84
  z75 := Tryz.sizeOf84
  v75 := Tryz.zeroValue84
  t76 := Tryz.underlying88
  a76 := Tryz.isAgg88
  z76 := Tryz.sizeOf88
  v76 := Tryz.zeroValue88
  t109 := Tryz.underlying132
  a109 := Tryz.isAgg132
  z109 := Tryz.sizeOf132
  v109 := Tryz.zeroValue132
  t127 := Tryz.underlying136
  a127 := Tryz.isAgg136
  z127 := Tryz.sizeOf136
  v127 := Tryz.zeroValue136
  t146 := Tryz.underlying162
  a146 := Tryz.isAgg162
  z146 := Tryz.sizeOf162
  v146 := Tryz.zeroValue162
  t148 := Tryz.underlying164
  a148 := Tryz.isAgg164
  z148 := Tryz.sizeOf164
  v148 := Tryz.zeroValue164
  t164 := Tryz.underlying155
  a164 := Tryz.isAgg155
  z164 := Tryz.sizeOf155
  v164 := Tryz.zeroValue155 }
theorem Tryz.Builder_Extra_105 : Builder.Extra Tryz.prog Tryz.lays105_ren := {
  sizeBuilder := by kernel_rfl
  liesBuilder := by kernel_rfl
  t5 := Tryz.underlying5
  a5 := Tryz.isAgg5
  z5 := Tryz.sizeOf5
  v5 := Tryz.zeroValue5
  infoByte := by kernel_rfl
  cellsByte := by kernel_rfl
  sizeByte := by kernel_rfl
  neB5 := by decide }
open Go.RowKit Go.Lib in
theorem Tryz.strings_Repeat (s : ByteArray) (c : Nat) (w : World) (hc : c ≤ 9223372036854775807) (hlen : s.size * c ≤ 140737488355328) :
    Calls Tryz.prog 110 #[.string s, .int .i64 c] w fun e w' => e = .returned (.string ⟨(Lib.repeatL s.data.toList c).toArray⟩) ∧ Below w.heap.size w w' := Any.strings_Repeat Tryz.lays105 Tryz.Builder_Extra_105 s c w hc hlen
end Go.Proofs

namespace Go.Proofs.YtmochehkkadjnaaGreatDoor
open Go.RowKit Go.Shelf
attribute [local go_sem] Oper.semAt_some

section
variable {W W' : World} {B b : Nat} {bs : List Value}
abbrev Buf (B b : Nat) (bs : List Value) (w : World) : Prop := Lib.IsBuffer 126 5 B b bs w
def Wrote (B b : Nat) (W W' : World) : Prop := Below B W W' ∧ Lib.OthersKept 5 (some b) W W'
theorem Wrote.refl (B b : Nat) (W : World) : Wrote B b W W := ⟨Below.refl _ _, Lib.OthersKept.refl _ _ _⟩
theorem Wrote.trans {W'' : World} (h : Wrote B b W W') (k : Wrote B b W' W'') : Wrote B b W W'' := ⟨h.1.trans k.1, h.2.trans k.2⟩
theorem Wrote.of (h : Keeps W W') (hB : B ≤ W.heap.size) : Wrote B b W W' :=
  ⟨h.mono hB, fun k _ hk _ _ => (h.block k ((Array.getElem?_eq_some_iff.1 hk).1)).trans hk⟩
theorem Wrote.own {k : Nat} {t : TypeId} {vs : List Value} (h : Wrote B b W W') (ho : Own W k t vs) (hk : k ≠ b) (ht : t ≠ 5) : Own W' k t vs :=
  h.2 k _ ho (by simpa using hk) (fun c fz e => ht (by cases e; rfl))
theorem Wrote.size (h : Wrote B b W W') : W.heap.size ≤ W'.heap.size := h.1.size
theorem Wrote.from {m : Nat} (h : Wrote B b W W') (hb : Buf B b bs W) : KeepsFrom m W W' := by
  refine ⟨h.size, fun k o _ hk ho => ?_⟩
  obtain ⟨_, v, lr, hbk, _⟩ := hb
  refine h.2 k o hk (fun e => ?_) (fun c fz e => by subst e; simp [Obj.isCells] at ho)
  cases e
  rw [hbk] at hk
  cases hk
  simp [Obj.isCells] at ho
theorem Wrote.keeps {w : World} (h : Wrote B b W W') (hk : Keeps w W) (hB : w.heap.size ≤ B) : Keeps w W' := Below.trans hk (h.1.mono hB)
theorem Wrote.back {k : Nat} {t : TypeId} {vs : List Value} {n : Nat} (h : Wrote B b W W') (ho : Own W k t vs) (hk : k ≠ b) (ht : t ≠ 5) (hn : n ≤ B) : BackKp n k W W' :=
  ⟨h.1.mono hn, (h.own ho hk ht).trans ho.symm⟩
end
theorem Buf.nc {A B : World} {row : Option Nat} {B0 b : Nat} {bs : List Value} (h : Buf B0 b bs A) (hg : A.grownBy B row) (hr : ∀ r, row = some r → ∃ o : Obj, A.heap[r]? = some o ∧ o.isCells = false) : Buf B0 b bs B := by
  obtain ⟨hB, v, lr, hb, ⟨hl, hrow⟩, hne⟩ := h
  refine ⟨hB, v, lr, Own.nc (vs := [v, .int .i64 0, .int .i8 lr]) hb hg hr, ⟨hl, hrow.imp id ?_⟩, hne⟩
  rintro ⟨g, cap, cur, e, h1, h2, h3⟩
  exact ⟨g, cap, cur, e, h1, (by have := Own.nc (vs := cur.toList) (by simpa [Own] using h2) hg hr; simpa [Own] using this), h3⟩
theorem TabIs.keep {P : Program} {n : String} {g : Nat} {k : IntKind} {zs : List Int} {w w' : World} (hg : P.globalNamed n = some g) (h : Lib.TabIs P w n k zs) (hb : Keeps w w') : Lib.TabIs P w' n k zs := by
  unfold Lib.TabIs World.var? at h ⊢
  rw [hg] at h ⊢
  simp only [Option.bind_some] at h ⊢
  have hlt : g < w.heap.size := by
    rcases Nat.lt_or_ge g w.heap.size with h' | h'
    · exact h'
    · rw [Array.getElem?_eq_none h'] at h; simp at h
  rw [hb.block g hlt]
  exact h

def PowTab (w : World) : Prop := Lib.TabIs Tryz.prog w "internal/strconv.uint64pow10" .u64 Lib.pow10Tab
theorem PowTab.keep {w w' : World} (h : PowTab w) (hk : Keeps w w') : PowTab w' := TabIs.keep (g := 6) (by rfl) h hk
theorem itoa_any (x : Nat) (hx : x < 1000000000) (w : World) (h : PowTab w) :
    Calls Tryz.prog 161 #[.int .i64 (x : Nat)] w fun e w' => e = .returned (.string ⟨(Lib.decDigits x).toArray⟩) ∧ Keeps w w' := by
  refine (Tryz.strconv_Itoa (x : Nat) (by omega) (by omega) w h).mono ?_
  rintro e w' ⟨rfl, k, os, rfl⟩
  exact ⟨by rw [Lib.itoa_nonneg], Go.Lib.below_grow _ _ (Nat.le_refl _) _ _⟩
def sgnB (neg : Bool) : List UInt8 := if neg then [45] else []
theorem one_cells (l : List UInt8) : ∀ v ∈ Lib.byteCells l, v.oneCell' = true := by
  intro v hv
  simp only [Lib.byteCells, List.mem_map] at hv
  obtain ⟨b, -, rfl⟩ := hv
  rfl
theorem byteCells_append (a b : List UInt8) : Lib.byteCells (a ++ b) = Lib.byteCells a ++ Lib.byteCells b := by simp [Lib.byteCells]
theorem byteCells_length (a : List UInt8) : (Lib.byteCells a).length = a.length := by simp [Lib.byteCells]

set_option maxRecDepth 100000 in
set_option maxHeartbeats 400000 in
theorem text_zero (neg : Bool) (xs : List Nat) (V : Value) (w : World) (h : IntArg w V neg xs) (hm : xs.length ≤ 900000) (h0 : mag neg xs = 0) :
    Calls Tryz.prog 108 #[V] w fun e w' => e = .returned (.string ⟨#[48]⟩) ∧ Keeps w w' := by
  obtain ⟨v, rfl, hv⟩ := h
  have hkk := box2 w (.cells #[.bool neg, v] 24)
  have hG := Lib.hid (groups_any neg xs (.agg #[.bool neg, v]) _ ⟨v, rfl, hv.below hkk⟩ (by omega))
  rw [h0] at hG
  clear h0
  go_enter Tryz.func108, Tryz.ntmps108
  go_wp2_with fail
  refine hG.out.mono ?_
  rintro e w1 ⟨v1, rfl, hv1, hk1⟩
  obtain ⟨A, n, c, rfl, e1, -, -, -, -⟩ := hv1.open_
  rw [dig_zero] at e1
  simp only [List.length_nil] at e1
  subst e1
  go_wp2
  go_ret
  exact ⟨rfl, (hkk.trans' hk1).trans' (box2 _ _)⟩

set_option maxRecDepth 100000 in
set_option maxHeartbeats 1000000 in
theorem text_pos (neg : Bool) (xs : List Nat) (V : Value) (w : World) (m : Nat) (h : IntArg w V neg xs) (hm : xs.length ≤ 900000) (ht : PowTab w) (e0 : mag neg xs = m) (h0 : 0 < m) :
    Calls Tryz.prog 108 #[V] w fun e w' => e = .returned (.string ⟨(sgnB neg ++ Lib.decDigits m).toArray⟩) ∧ Keeps w w' := by
  obtain ⟨v, rfl, hv⟩ := h
  have hkk := box2 w (.cells #[.bool neg, v] 24)
  have hX := Own.new w 24 [.bool neg, v]
  have hG := Lib.hid (groups_any neg xs (.agg #[.bool neg, v]) _ ⟨v, rfl, hv.below hkk⟩ (by omega))
  have hle := mag_length neg xs
  have hpos : 0 < (dig m).length := by
    rcases Nat.eq_zero_or_pos (dig m).length with h | h
    · have := val_dig m
      rw [List.eq_nil_of_length_eq_zero h] at this
      simp [val] at this
      omega
    · exact h
  rw [e0] at hG hle
  clear e0
  refine (callsIn_wide (n := 4)).1 ?_
  refine callsIn_of_wp_marks Tryz.func108 rfl trivial ?_ rfl
  simp only [Tryz.ntmps108, List.size_toArray, List.length_cons, List.length_nil, Nat.reduceAdd, Nat.reduceSub, Array.replicate_succ, Array.replicate_zero, List.push_toArray, List.append_toArray, List.nil_append, List.cons_append]
  gi_wp2_with fail
  refine ⟨trivial, ?_⟩
  refine (callsIn_wide.2 hG.out).mono ?_
  rintro e w1 ⟨v1, rfl, hv1, hk1⟩
  have hk0 := hkk.trans' hk1
  obtain ⟨A, n, c, rfl, e1, hc, hcm, hA0, hr⟩ := hv1.open_
  have hX1 := hX.below hk1
  have hX2 := (hX1.alloc (.cells #[.slice A n c] 22)).alloc (.cells #[.slice none 0 0, .int .i64 0, .int .i8 0] 126)
  have x0 := hX2.c0
  have x0' := hX1.c0
  have hn : n ≤ 900000 := by omega
  have hn0 : ((n : Int) == 0) = false := by rw [beq_eq_false_iff_ne]; omega
  have hnz : ((0 : Int) < n) := by omega
  have HE := Lib.hid e1
  have hlt : ∀ b o, A = some ⟨b, o, none⟩ → 0 < n → b < w1.heap.size + 1 := fun b o e hp => Nat.lt_succ_of_lt (hr.lt e hp)
  clear e1 hle
  cases neg with
  | false =>
    have hB2 : Buf (w1.heap.size + 1) (w1.heap.size + 1) [] ((w1.alloc (.cells #[.slice A n c] 22)).alloc (.cells #[.slice none 0 0, .int .i64 0, .int .i8 0] 126)) := by
      have := Lib.fresh_isBuffer 126 5 (w1.alloc (.cells #[.slice A n c] 22))
      simpa using this
    have hG0 := (Own.new w1 22 [.slice A n c]).alloc (.cells #[.slice none 0 0, .int .i64 0, .int .i8 0] 126)
    have kW := keep2 w1 (.cells #[.slice A n c] 22) (.cells #[.slice none 0 0, .int .i64 0, .int .i8 0] 126)

    have hB0 : Buf (w1.heap.size + 1) (w1.heap.size + 1) (Lib.byteCells (sgnB false)) _ := hB2
    gi_wp2_with fail
    generalize ((w1.alloc (.cells #[.slice A n c] 22)).alloc (.cells #[.slice none 0 0, .int .i64 0, .int .i8 0] 126)) = W0 at *
    refine ⟨trivial, ?_⟩
    refine (callsIn_wide.2 (back_any A n c _)).mono ?_
    rintro e w' ⟨rfl, rfl⟩
    gi_wp2_with fail
    have hBl := hB0.lt
    have hS := Own.new W0 22 [.slice A n c]
    have hRW : Row (W0.alloc (.cells #[.slice A n c] 22)) A n (u32 (dig m)) := hr.below (kW.trans' (box2 _ _))
    have hB1 := hB0.alloc (.cells #[.slice A n c] 22)
    have hG1 := hG0.alloc (.cells #[.slice A n c] 22)
    have kW1 : Keeps w (W0.alloc (.cells #[.slice A n c] 22)) := (hk0.trans' kW).trans' (box2 _ _)
    have hkw : w.heap.size ≤ w1.heap.size := hk0.size
    apply wpIn_range_idx (N := n) rfl (by omega) (gf := 193) (lb := #[.pointer (some ⟨W0.heap.size, 0, none⟩)]) rfl trivial (enters_of Tryz.func193 (by kernel_rfl) rfl)
      (back_seq Fence.wide _ trivial rfl (by omega) W0.heap.size (w1.heap.size + 1) n c A (dig m) (by omega) _ hS hRW hlt) BackKp.t (BackKp.b (by simp; omega) (by simp)) (Below.refl _ _) (fun _ => rfl)
      (fun k W => Buf (w1.heap.size + 1) (w1.heap.size + 1) (Lib.byteCells (sgnB false ++ txt (val ((dig m).drop (n - k))))) W ∧ Own W w1.heap.size 22 [.slice A n c] ∧ Own W W0.heap.size 22 [.slice A n c] ∧ Keeps w W) (fun _ _ _ => False)
      (fun k A B row hs hg hr => ⟨hs.1.nc hg (fun r e => (hr r e).2), hs.2.1.nc hg (fun r e => (hr r e).2), hs.2.2.1.nc hg (fun r e => (hr r e).2), ownFrom_below (β := Nat) (Nat.le_refl _) (by simp; omega) k A B row hs.2.2.2 hg hr⟩)
      (fun _ _ _ _ _ hs _ _ => hs)
      ⟨by rw [Nat.sub_zero, List.drop_of_length_le (by rw [HE.out]; omega)]; simpa [val, txt] using hB1, hG1, hS, kW1⟩
    case hassign =>
      intro l x W K hK
      unfold backEnc
      gi_wp2
      exact hK
    case hbody =>
      rintro l k W ⟨h1, h2, h3, h4⟩ hk
      obtain ⟨q, hq⟩ : ∃ q, n - 1 - k = q := ⟨_, rfl⟩
      have hst := txt_round m n k q HE.out hk hq
      have hx := (AllB.dig m).ix q
      have hdl := decDigits_len (ix (dig m) q) hx
      have hI := Lib.hid (itoa_any (ix (dig m) q) hx W (PowTab.keep ht h4))
      have hxi : ((ix (dig m) q : Nat) : Int) < 1000000000 := by omega
      rw [hq]
      generalize ix (dig m) q = x at *
      generalize hds : Lib.decDigits x = ds at *
      generalize hV : txt (val ((dig m).drop (n - k))) = tv at *
      have htl : tv.length ≤ 8100000 := by
        have := txt_drop_len m (n - k)
        rw [hV, HE.out] at this
        omega
      have hqk : q + k + 1 = n := by omega
      have HQ := Lib.hid hqk
      have HST := Lib.hid hst
      have HDS := Lib.hid hds
      have HTL := Lib.hid htl
      have HK := Lib.hid hk
      have HL := Lib.hid hdl
      have hL9 : ((ds.length : Nat) : Int) ≤ 9 := by omega
      have hni : ((n : Nat) : Int) ≤ 900000 := by omega
      clear hq hst hds hV htl hx hdl hqk hk
      gi_wp2_with fail
      refine ⟨trivial, ?_⟩
      refine (CallsIn.inRound l (callsIn_wide.2 hI.out)).mono ?_
      rintro e W1 ⟨rfl, hkI⟩
      clear hI
      have g0 := (h2.below hkI).c0
      obtain ⟨P, hP⟩ : ∃ P, padN k ds.length = P := ⟨_, rfl⟩
      have HP := Lib.hid hP
      clear hP
      have b1 : Buf (w1.heap.size + 1) (w1.heap.size + 1) (Lib.byteCells (sgnB false ++ tv)) W1 := h1.old hkI
      have hsl : (sgnB false).length ≤ 1 := by decide
      have HSL := Lib.hid hsl
      clear hsl
      have hP9 : P ≤ 9 := by
        have := HP.out
        unfold padN at this
        split at this <;> omega
      gi_wp2
      gi_loopw [8] (fun i wr => ∃ j : Nat, j ≤ P ∧ i = .int .i64 (((ds.length : Nat) : Int) + (j : Nat)) ∧ Buf (w1.heap.size + 1) (w1.heap.size + 1) (Lib.byteCells (sgnB false ++ tv ++ List.replicate j 48)) wr ∧ Wrote (w1.heap.size + 1) (w1.heap.size + 1) W1 wr) (fun i _ => (((ds.length : Nat) : Int) + (P : Nat) - intOf i).toNat)
      case atStart => exact ⟨0, by omega, by go_num, by simpa using b1, Wrote.refl _ _ _⟩
      case round =>
        obtain ⟨j, hj, rfl, hb, hwr⟩ := hrel
        have gr := (hwr.own (h2.below hkI) (by omega) (by decide)).c0
        have hlen : (Lib.byteCells (sgnB false ++ tv ++ List.replicate j 48)).length ≤ 8100010 := by
          rw [byteCells_length, List.length_append, List.length_append, List.length_replicate]
          have := HTL.out
          have := HSL.out
          omega
        have HLN := Lib.hid hlen
        clear hlen
        have hsz : w1.heap.size + 1 ≤ wr.heap.size := Nat.le_of_lt hb.lt
        by_cases hjP : j < P
        · have hp : k ≠ 0 ∧ ds.length + j < 9 := by
            have := HP.out
            unfold padN at this
            split at this <;> omega
          have hq1 := HQ.out
          have t1 : decide (((ds.length : Nat) : Int) + ((j : Nat) : Int) < 9) = true := decide_eq_true (by omega)
          have t2 : decide (((q : Nat) : Int) < ((n : Nat) : Int) - 1) = true := decide_eq_true (by omega)
          clear hp hq1
          gi_wp2_with fail
          refine ⟨trivial, ?_⟩
          refine (CallsIn.inRound l (callsIn_wide.2 (Tryz.Buffer_WriteByte_k _ _ _ 48 wr hb hsz (one_cells _) (by have := HLN.out; omega)))).mono ?_
          rintro e W2 ⟨rfl, hb2, hbw, hok⟩
          gi_wp2
          go_roundw
          case rel => exact ⟨j + 1, hjP, by go_num, by rw [List.replicate_succ', ← List.append_assoc, byteCells_append]; exact hb2, hwr.trans ⟨hbw, hok⟩⟩
          case measure => simp [intOf]; omega
        · obtain rfl : j = P := by omega
          have fin : ∀ W2, Buf (w1.heap.size + 1) (w1.heap.size + 1) (Lib.byteCells (sgnB false ++ tv ++ List.replicate j 48) ++ Lib.byteCells ds) W2 → Wrote (w1.heap.size + 1) (w1.heap.size + 1) wr W2 →
              KeepsFrom (W0.alloc (.cells #[.slice A n c] 22)).heap.size W W2 ∧ BackKp (w1.heap.size + 1) W0.heap.size W W2 ∧ Buf (w1.heap.size + 1) (w1.heap.size + 1) (Lib.byteCells (sgnB false ++ txt (val ((dig m).drop (n - (k + 1)))))) W2 ∧ Own W2 w1.heap.size 22 [.slice A n c] ∧ Own W2 W0.heap.size 22 [.slice A n c] ∧ Keeps w W2 := fun W2 hb2 hw2 => by
            have hwI : Wrote (w1.heap.size + 1) (w1.heap.size + 1) W W1 := Wrote.of hkI (Nat.le_of_lt h1.lt)
            have hww := (hwI.trans hwr).trans hw2
            refine ⟨hww.from h1, hww.back h3 (by omega) (by decide) (Nat.le_refl _), ?_, hww.own h2 (by omega) (by decide), hww.own h3 (by omega) (by decide), hww.keeps h4 (by omega)⟩
            rw [HST.out, HP.out, ← List.append_assoc, ← List.append_assoc, byteCells_append]
            exact hb2
          by_cases h9 : ds.length + j < 9
          · have hp : k = 0 := by
              have := HP.out
              unfold padN at this
              split at this <;> omega
            have hq1 := HQ.out
            have t1 : decide (((ds.length : Nat) : Int) + ((j : Nat) : Int) < 9) = true := decide_eq_true (by omega)
            have t2 : decide (((q : Nat) : Int) < ((n : Nat) : Int) - 1) = false := decide_eq_false (by omega)
            clear hp hq1
            gi_wp2_with fail
            refine ⟨trivial, ?_⟩
            refine (CallsIn.inRound l (callsIn_wide.2 (Tryz.Buffer_WriteString_k _ _ _ ⟨ds.toArray⟩ wr hb hsz (one_cells _) (by have := HLN.out; have := HL.out; simp only [ByteArray.size, List.size_toArray]; omega)))).mono ?_
            rintro e W2 ⟨rfl, hb2, hbw, hok⟩
            gi_wp2
            exact fin W2 hb2 ⟨hbw, hok⟩
          · have t1 : decide (((ds.length : Nat) : Int) + ((j : Nat) : Int) < 9) = false := decide_eq_false (by omega)
            gi_wp2_with fail
            refine ⟨trivial, ?_⟩
            refine (CallsIn.inRound l (callsIn_wide.2 (Tryz.Buffer_WriteString_k _ _ _ ⟨ds.toArray⟩ wr hb hsz (one_cells _) (by have := HLN.out; have := HL.out; simp only [ByteArray.size, List.size_toArray]; omega)))).mono ?_
            rintro e W2 ⟨rfl, hb2, hbw, hok⟩
            gi_wp2
            exact fin W2 hb2 ⟨hbw, hok⟩
    case hdone =>
      rintro D W hD ⟨h1, h2, h3, h4⟩ hDf
      rw [Nat.sub_self, List.drop_zero, val_dig, txt_pos _ (by omega)] at h1
      gi_wp2_with fail
      refine ⟨trivial, ?_⟩
      refine (callsIn_wide.2 (Tryz.Buffer_String _ _ _ W h1)).mono ?_
      rintro e W2 ⟨rfl, N, rfl⟩
      gi_wp2
      refine ⟨by simp, .inl ⟨_, _, rfl, run_takeDeferred (hDf : (W.drewN N).heap[D]? = _), ?_⟩⟩
      refine ⟨_, by simp [results, Tryz.results108, go_sem], rfl, (h4.drewN N).trans (belowK_b (w := w) (Nat.le_refl _) (W.drewN N) D _ _ (by simp at hD; omega) hDf rfl rfl)⟩
    case hstop =>
      rintro D c k W _ _ h _
      exact h.elim
  | true =>
    have hB2 : Buf (w1.heap.size + 1) (w1.heap.size + 1) [] ((w1.alloc (.cells #[.slice A n c] 22)).alloc (.cells #[.slice none 0 0, .int .i64 0, .int .i8 0] 126)) := by
      have := Lib.fresh_isBuffer 126 5 (w1.alloc (.cells #[.slice A n c] 22))
      simpa using this
    have hG0 := (Own.new w1 22 [.slice A n c]).alloc (.cells #[.slice none 0 0, .int .i64 0, .int .i8 0] 126)
    have kW := keep2 w1 (.cells #[.slice A n c] 22) (.cells #[.slice none 0 0, .int .i64 0, .int .i8 0] 126)

    gi_wp2_with fail
    generalize ((w1.alloc (.cells #[.slice A n c] 22)).alloc (.cells #[.slice none 0 0, .int .i64 0, .int .i8 0] 126)) = W9 at *
    refine ⟨trivial, ?_⟩
    refine (callsIn_wide.2 (Tryz.Buffer_WriteByte_k _ _ _ 45 W9 hB2 (Nat.le_of_lt hB2.lt) (by simp) (by simp))).mono ?_
    rintro e W0 ⟨rfl, hB0, hbw, hok⟩
    have hwr : Wrote (w1.heap.size + 1) (w1.heap.size + 1) W9 W0 := ⟨hbw, hok⟩
    replace hG0 := hwr.own hG0 (by omega) (by decide)
    replace kW := hwr.keeps kW (by omega)
    replace hX2 := hwr.own hX2 (by have := hX1.lt; omega) (by decide)
    clear x0 hwr hbw hok
    have hB0 : Buf (w1.heap.size + 1) (w1.heap.size + 1) (Lib.byteCells (sgnB true)) _ := hB0
    have x0 := hX2.c0
    have gg := hG0.c0
    gi_wp2_with fail
    refine ⟨trivial, ?_⟩
    refine (callsIn_wide.2 (back_any A n c _)).mono ?_
    rintro e w' ⟨rfl, rfl⟩
    gi_wp2_with fail
    have hBl := hB0.lt
    have hS := Own.new W0 22 [.slice A n c]
    have hRW : Row (W0.alloc (.cells #[.slice A n c] 22)) A n (u32 (dig m)) := hr.below (kW.trans' (box2 _ _))
    have hB1 := hB0.alloc (.cells #[.slice A n c] 22)
    have hG1 := hG0.alloc (.cells #[.slice A n c] 22)
    have kW1 : Keeps w (W0.alloc (.cells #[.slice A n c] 22)) := (hk0.trans' kW).trans' (box2 _ _)
    have hkw : w.heap.size ≤ w1.heap.size := hk0.size
    apply wpIn_range_idx (N := n) rfl (by omega) (gf := 193) (lb := #[.pointer (some ⟨W0.heap.size, 0, none⟩)]) rfl trivial (enters_of Tryz.func193 (by kernel_rfl) rfl)
      (back_seq Fence.wide _ trivial rfl (by omega) W0.heap.size (w1.heap.size + 1) n c A (dig m) (by omega) _ hS hRW hlt) BackKp.t (BackKp.b (by simp; omega) (by simp)) (Below.refl _ _) (fun _ => rfl)
      (fun k W => Buf (w1.heap.size + 1) (w1.heap.size + 1) (Lib.byteCells (sgnB true ++ txt (val ((dig m).drop (n - k))))) W ∧ Own W w1.heap.size 22 [.slice A n c] ∧ Own W W0.heap.size 22 [.slice A n c] ∧ Keeps w W) (fun _ _ _ => False)
      (fun k A B row hs hg hr => ⟨hs.1.nc hg (fun r e => (hr r e).2), hs.2.1.nc hg (fun r e => (hr r e).2), hs.2.2.1.nc hg (fun r e => (hr r e).2), ownFrom_below (β := Nat) (Nat.le_refl _) (by simp; omega) k A B row hs.2.2.2 hg hr⟩)
      (fun _ _ _ _ _ hs _ _ => hs)
      ⟨by rw [Nat.sub_zero, List.drop_of_length_le (by rw [HE.out]; omega)]; simpa [val, txt] using hB1, hG1, hS, kW1⟩
    case hassign =>
      intro l x W K hK
      unfold backEnc
      gi_wp2
      exact hK
    case hbody =>
      rintro l k W ⟨h1, h2, h3, h4⟩ hk
      obtain ⟨q, hq⟩ : ∃ q, n - 1 - k = q := ⟨_, rfl⟩
      have hst := txt_round m n k q HE.out hk hq
      have hx := (AllB.dig m).ix q
      have hdl := decDigits_len (ix (dig m) q) hx
      have hI := Lib.hid (itoa_any (ix (dig m) q) hx W (PowTab.keep ht h4))
      have hxi : ((ix (dig m) q : Nat) : Int) < 1000000000 := by omega
      rw [hq]
      generalize ix (dig m) q = x at *
      generalize hds : Lib.decDigits x = ds at *
      generalize hV : txt (val ((dig m).drop (n - k))) = tv at *
      have htl : tv.length ≤ 8100000 := by
        have := txt_drop_len m (n - k)
        rw [hV, HE.out] at this
        omega
      have hqk : q + k + 1 = n := by omega
      have HQ := Lib.hid hqk
      have HST := Lib.hid hst
      have HDS := Lib.hid hds
      have HTL := Lib.hid htl
      have HK := Lib.hid hk
      have HL := Lib.hid hdl
      have hL9 : ((ds.length : Nat) : Int) ≤ 9 := by omega
      have hni : ((n : Nat) : Int) ≤ 900000 := by omega
      clear hq hst hds hV htl hx hdl hqk hk
      gi_wp2_with fail
      refine ⟨trivial, ?_⟩
      refine (CallsIn.inRound l (callsIn_wide.2 hI.out)).mono ?_
      rintro e W1 ⟨rfl, hkI⟩
      clear hI
      have g0 := (h2.below hkI).c0
      obtain ⟨P, hP⟩ : ∃ P, padN k ds.length = P := ⟨_, rfl⟩
      have HP := Lib.hid hP
      clear hP
      have b1 : Buf (w1.heap.size + 1) (w1.heap.size + 1) (Lib.byteCells (sgnB true ++ tv)) W1 := h1.old hkI
      have hsl : (sgnB true).length ≤ 1 := by decide
      have HSL := Lib.hid hsl
      clear hsl
      have hP9 : P ≤ 9 := by
        have := HP.out
        unfold padN at this
        split at this <;> omega
      gi_wp2
      gi_loopw [8] (fun i wr => ∃ j : Nat, j ≤ P ∧ i = .int .i64 (((ds.length : Nat) : Int) + (j : Nat)) ∧ Buf (w1.heap.size + 1) (w1.heap.size + 1) (Lib.byteCells (sgnB true ++ tv ++ List.replicate j 48)) wr ∧ Wrote (w1.heap.size + 1) (w1.heap.size + 1) W1 wr) (fun i _ => (((ds.length : Nat) : Int) + (P : Nat) - intOf i).toNat)
      case atStart => exact ⟨0, by omega, by go_num, by simpa using b1, Wrote.refl _ _ _⟩
      case round =>
        obtain ⟨j, hj, rfl, hb, hwr⟩ := hrel
        have gr := (hwr.own (h2.below hkI) (by omega) (by decide)).c0
        have hlen : (Lib.byteCells (sgnB true ++ tv ++ List.replicate j 48)).length ≤ 8100010 := by
          rw [byteCells_length, List.length_append, List.length_append, List.length_replicate]
          have := HTL.out
          have := HSL.out
          omega
        have HLN := Lib.hid hlen
        clear hlen
        have hsz : w1.heap.size + 1 ≤ wr.heap.size := Nat.le_of_lt hb.lt
        by_cases hjP : j < P
        · have hp : k ≠ 0 ∧ ds.length + j < 9 := by
            have := HP.out
            unfold padN at this
            split at this <;> omega
          have hq1 := HQ.out
          have t1 : decide (((ds.length : Nat) : Int) + ((j : Nat) : Int) < 9) = true := decide_eq_true (by omega)
          have t2 : decide (((q : Nat) : Int) < ((n : Nat) : Int) - 1) = true := decide_eq_true (by omega)
          clear hp hq1
          gi_wp2_with fail
          refine ⟨trivial, ?_⟩
          refine (CallsIn.inRound l (callsIn_wide.2 (Tryz.Buffer_WriteByte_k _ _ _ 48 wr hb hsz (one_cells _) (by have := HLN.out; omega)))).mono ?_
          rintro e W2 ⟨rfl, hb2, hbw, hok⟩
          gi_wp2
          go_roundw
          case rel => exact ⟨j + 1, hjP, by go_num, by rw [List.replicate_succ', ← List.append_assoc, byteCells_append]; exact hb2, hwr.trans ⟨hbw, hok⟩⟩
          case measure => simp [intOf]; omega
        · obtain rfl : j = P := by omega
          have fin : ∀ W2, Buf (w1.heap.size + 1) (w1.heap.size + 1) (Lib.byteCells (sgnB true ++ tv ++ List.replicate j 48) ++ Lib.byteCells ds) W2 → Wrote (w1.heap.size + 1) (w1.heap.size + 1) wr W2 →
              KeepsFrom (W0.alloc (.cells #[.slice A n c] 22)).heap.size W W2 ∧ BackKp (w1.heap.size + 1) W0.heap.size W W2 ∧ Buf (w1.heap.size + 1) (w1.heap.size + 1) (Lib.byteCells (sgnB true ++ txt (val ((dig m).drop (n - (k + 1)))))) W2 ∧ Own W2 w1.heap.size 22 [.slice A n c] ∧ Own W2 W0.heap.size 22 [.slice A n c] ∧ Keeps w W2 := fun W2 hb2 hw2 => by
            have hwI : Wrote (w1.heap.size + 1) (w1.heap.size + 1) W W1 := Wrote.of hkI (Nat.le_of_lt h1.lt)
            have hww := (hwI.trans hwr).trans hw2
            refine ⟨hww.from h1, hww.back h3 (by omega) (by decide) (Nat.le_refl _), ?_, hww.own h2 (by omega) (by decide), hww.own h3 (by omega) (by decide), hww.keeps h4 (by omega)⟩
            rw [HST.out, HP.out, ← List.append_assoc, ← List.append_assoc, byteCells_append]
            exact hb2
          by_cases h9 : ds.length + j < 9
          · have hp : k = 0 := by
              have := HP.out
              unfold padN at this
              split at this <;> omega
            have hq1 := HQ.out
            have t1 : decide (((ds.length : Nat) : Int) + ((j : Nat) : Int) < 9) = true := decide_eq_true (by omega)
            have t2 : decide (((q : Nat) : Int) < ((n : Nat) : Int) - 1) = false := decide_eq_false (by omega)
            clear hp hq1
            gi_wp2_with fail
            refine ⟨trivial, ?_⟩
            refine (CallsIn.inRound l (callsIn_wide.2 (Tryz.Buffer_WriteString_k _ _ _ ⟨ds.toArray⟩ wr hb hsz (one_cells _) (by have := HLN.out; have := HL.out; simp only [ByteArray.size, List.size_toArray]; omega)))).mono ?_
            rintro e W2 ⟨rfl, hb2, hbw, hok⟩
            gi_wp2
            exact fin W2 hb2 ⟨hbw, hok⟩
          · have t1 : decide (((ds.length : Nat) : Int) + ((j : Nat) : Int) < 9) = false := decide_eq_false (by omega)
            gi_wp2_with fail
            refine ⟨trivial, ?_⟩
            refine (CallsIn.inRound l (callsIn_wide.2 (Tryz.Buffer_WriteString_k _ _ _ ⟨ds.toArray⟩ wr hb hsz (one_cells _) (by have := HLN.out; have := HL.out; simp only [ByteArray.size, List.size_toArray]; omega)))).mono ?_
            rintro e W2 ⟨rfl, hb2, hbw, hok⟩
            gi_wp2
            exact fin W2 hb2 ⟨hbw, hok⟩
    case hdone =>
      rintro D W hD ⟨h1, h2, h3, h4⟩ hDf
      rw [Nat.sub_self, List.drop_zero, val_dig, txt_pos _ (by omega)] at h1
      gi_wp2_with fail
      refine ⟨trivial, ?_⟩
      refine (callsIn_wide.2 (Tryz.Buffer_String _ _ _ W h1)).mono ?_
      rintro e W2 ⟨rfl, N, rfl⟩
      gi_wp2
      refine ⟨by simp, .inl ⟨_, _, rfl, run_takeDeferred (hDf : (W.drewN N).heap[D]? = _), ?_⟩⟩
      refine ⟨_, by simp [results, Tryz.results108, go_sem], rfl, (h4.drewN N).trans (belowK_b (w := w) (Nat.le_refl _) (W.drewN N) D _ _ (by simp at hD; omega) hDf rfl rfl)⟩
    case hstop =>
      rintro D c k W _ _ h _
      exact h.elim

theorem text_any (neg : Bool) (xs : List Nat) (V : Value) (w : World) (h : IntArg w V neg xs) (hm : xs.length ≤ 900000) (ht : PowTab w) :
    Calls Tryz.prog 108 #[V] w fun e w' => e = .returned (.string ⟨(textL (cnt neg xs)).toArray⟩) ∧ Keeps w w' := by
  rcases Nat.eq_zero_or_pos (mag neg xs) with h0 | h0
  · have e : cnt neg xs = 0 := by unfold cnt; rw [h0]; exact sgn_zero neg
    rw [e]
    exact text_zero neg xs V w h hm h0
  · have e : textL (cnt neg xs) = sgnB neg ++ Lib.decDigits (mag neg xs) := by
      unfold textL cnt sgnB
      rw [sgn_natAbs]
      cases neg with
      | false => rw [if_neg (by simp [sgn]; omega), if_neg (by simp [sgn]), if_neg (by simp)]
      | true => rw [if_neg (by simp [sgn]; omega), if_pos (by simp [sgn]; omega), if_pos rfl]
    rw [e]
    exact text_pos neg xs V w _ h hm ht rfl h0
end Go.Proofs.YtmochehkkadjnaaGreatDoor
