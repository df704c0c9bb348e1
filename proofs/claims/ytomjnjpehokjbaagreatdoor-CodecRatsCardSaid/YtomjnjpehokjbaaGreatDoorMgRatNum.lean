/- Fractions as core's Rat: what reduced, sums, products, orders come to; lengths. No program in sight. api.Rat in memory: raw arguments, canonical values. No program in sight. Boxes of integers and integers, listed. What a straight walk carries: boxes of the call's own, integers, fractions, and that nothing older was touched. No program in sight. -/
import Derived.Test.YtomjnjpehokjbaaGreatDoorMgIntA
import Derived.Test.YtomjnjpehokjbaaGreatDoorMgText
import Derived.Test.YtomjnjpehokjbaaGreatDoorMgRegion
namespace Go.Proofs.YtomjnjpehokjbaaGreatDoor
open Go.RowKit

theorem lenR_mono {x y : Int} (h : x.natAbs ≤ y.natAbs) : lenI x ≤ lenI y := dig_length_mono h
theorem lenI_one : lenI 1 ≤ 1 := dig_length_le (n := (1 : Int).natAbs) (k := 1) (by decide)
theorem lenI_zero : lenI 0 = 0 := by simp [lenI, dig_zero]
/-- the longer one of numerator and denominator, in groups -/
def szR (q : Rat) : Nat := max (lenI q.num) (lenI (q.den : Int))
theorem szR_num {q : Rat} {k : Nat} (h : szR q ≤ k) : lenI q.num ≤ k := Nat.le_trans (Nat.le_max_left _ _) h
theorem szR_den {q : Rat} {k : Nat} (h : szR q ≤ k) : lenI (q.den : Int) ≤ k := Nat.le_trans (Nat.le_max_right _ _) h
theorem szR_mk {q : Rat} {k : Nat} (h1 : lenI q.num ≤ k) (h2 : lenI (q.den : Int) ≤ k) : szR q ≤ k := Nat.max_le.2 ⟨h1, h2⟩
theorem den_posI (q : Rat) : (0 : Int) < q.den := Int.ofNat_lt.2 q.den_pos
theorem natAbs_div_le (a : Int) (g : Nat) : (a / (g : Int)).natAbs ≤ a.natAbs := by
  rcases Nat.eq_zero_or_pos g with h | h
  · subst h; simp
  · rcases Int.le_total 0 a with ha | ha
    · have h1 : 0 ≤ a / (g : Int) := Int.ediv_nonneg ha (by omega)
      have h2 : a / (g : Int) ≤ a := Int.ediv_le_self _ ha
      omega
    · have h2 : a ≤ a / (g : Int) := by
        rw [Int.le_ediv_iff_mul_le (by omega)]
        have : a * (g : Int) ≤ a * 1 := Int.mul_le_mul_of_nonpos_left ha (by omega)
        omega
      have h1 : a / (g : Int) ≤ 0 := by
        have := Int.ediv_le_ediv (c := (g : Int)) (by omega) ha
        simpa using this
      omega
theorem szR_divInt (a b : Int) (hb : b ≠ 0) : szR (Rat.divInt a b) ≤ max (lenI a) (lenI b) := by
  have h1 : (Rat.divInt a b).num.natAbs ≤ a.natAbs := by
    rw [Rat.num_divInt]
    refine Nat.le_trans (natAbs_div_le _ _) ?_
    rw [Int.natAbs_mul, Int.natAbs_sign_of_ne_zero hb, Nat.one_mul]
    exact Nat.le_refl _
  have h2 : ((Rat.divInt a b).den : Int).natAbs ≤ b.natAbs := by
    rw [Int.natAbs_natCast, Rat.den_divInt, if_neg hb]; exact Nat.div_le_self _ _
  exact szR_mk (Nat.le_trans (lenR_mono h1) (Nat.le_max_left _ _)) (Nat.le_trans (lenR_mono h2) (Nat.le_max_right _ _))
/-- lowest terms, the denominator above 0 -/
theorem red_pos {a b : Int} (hb : 0 < b) : a.fdiv (Int.gcd a b : Nat) = (Rat.divInt a b).num ∧ b.fdiv (Int.gcd a b : Nat) = ((Rat.divInt a b).den : Int) := by
  have hg : (0 : Int) ≤ (Int.gcd a b : Nat) := by omega
  rw [Rat.num_divInt, Rat.den_divInt, if_neg (by omega), Int.sign_eq_one_of_pos hb, Int.one_mul, Int.gcd_comm b a]
  refine ⟨Int.fdiv_eq_ediv_of_nonneg _ hg, ?_⟩
  rw [Int.fdiv_eq_ediv_of_nonneg _ hg, Int.natCast_ediv]
  congr 1
  omega
theorem red_neg {a b : Int} (hb : b < 0) : (-a).fdiv (Int.gcd (-a) (-b) : Nat) = (Rat.divInt a b).num ∧ (-b).fdiv (Int.gcd (-a) (-b) : Nat) = ((Rat.divInt a b).den : Int) := by
  rw [← Rat.neg_divInt_neg a b]
  exact red_pos (by omega)
/-- the reference's way: the divisor has the denominator's sign -/
theorem red_ref {a b : Int} (hb : b < 0) : a.fdiv (-(Int.gcd a b : Nat)) = (Rat.divInt a b).num ∧ b.fdiv (-(Int.gcd a b : Nat)) = ((Rat.divInt a b).den : Int) := by
  obtain ⟨h1, h2⟩ := red_neg (a := a) hb
  rw [Int.gcd_neg, Int.neg_gcd] at h1 h2
  rw [← h1, ← h2]
  refine ⟨?_, ?_⟩
  · rw [← Int.neg_fdiv_neg, Int.neg_neg]
  · rw [← Int.neg_fdiv_neg, Int.neg_neg]
theorem add_divInt (x y : Rat) : x + y = Rat.divInt (x.num * y.den + y.num * x.den) (x.den * y.den) := by
  rw [Rat.add_def', ← Rat.divInt_ofNat, Int.natCast_mul]
theorem sub_divInt (x y : Rat) : x - y = Rat.divInt (x.num * y.den - y.num * x.den) (x.den * y.den) := by
  rw [Rat.sub_def', ← Rat.divInt_ofNat, Int.natCast_mul]
theorem mul_divInt (x y : Rat) : x * y = Rat.divInt (x.num * y.num) (x.den * y.den) := by
  rw [Rat.mul_def', ← Rat.divInt_ofNat, Int.natCast_mul]
theorem div_divInt (x y : Rat) : x / y = Rat.divInt (x.num * y.den) (x.den * y.num) := by
  rw [Rat.div_def, Rat.inv_def]
  conv => lhs; rw [← Rat.num_divInt_den x]
  rw [Rat.divInt_mul_divInt]
/-- the order of two fractions, as -1, 0 or 1 -/
def cmpR (x y : Rat) : Int := (x.num * y.den - y.num * x.den).sign
theorem sign_ediv_gcd (n : Int) (g : Nat) (hg : 0 < g) (h : (g : Int) ∣ n) : (n / (g : Int)).sign = n.sign := by
  obtain ⟨k, rfl⟩ := h
  rw [Int.mul_ediv_cancel_left _ (by omega), Int.sign_mul, Int.sign_eq_one_of_pos (a := (g : Int)) (by omega), Int.one_mul]
theorem sign_divInt (a b : Int) (hb : 0 < b) : (Rat.divInt a b).num.sign = a.sign := by
  rw [Rat.num_divInt, Int.sign_eq_one_of_pos hb, Int.one_mul]
  exact sign_ediv_gcd a _ (Int.gcd_pos_of_ne_zero_left _ (by omega)) (Int.gcd_dvd_right ..)
theorem den_mul_pos (x y : Rat) : (0 : Int) < x.den * y.den := Int.mul_pos (den_posI x) (den_posI y)
theorem rat_sub_sign (x y : Rat) : (x - y).num.sign = cmpR x y := by
  rw [sub_divInt, sign_divInt _ _ (den_mul_pos x y)]; rfl
theorem cmpR_pos (x y : Rat) : 0 < cmpR x y ↔ y < x := by
  rw [Rat.lt_iff]
  unfold cmpR
  constructor
  · intro h
    have := Int.sign_eq_one_iff_pos.1 (show (x.num * y.den - y.num * x.den).sign = 1 by
      rcases Int.lt_trichotomy (x.num * y.den - y.num * x.den) 0 with h1 | h1 | h1
      · rw [Int.sign_eq_neg_one_of_neg h1] at h; omega
      · rw [h1] at h; simp at h
      · exact Int.sign_eq_one_of_pos h1)
    omega
  · intro h
    rw [Int.sign_eq_one_of_pos (by omega)]; omega
theorem cmpR_neg (x y : Rat) : cmpR x y = -cmpR y x := by
  unfold cmpR
  rw [← Int.sign_neg, Int.neg_sub]
theorem cmpR_lt (x y : Rat) : cmpR x y < 0 ↔ x < y := by rw [cmpR_neg, ← cmpR_pos]; omega
theorem cmpR_le (x y : Rat) : cmpR x y ≤ 0 ↔ x ≤ y := by rw [← Rat.not_lt, ← cmpR_pos]; omega
theorem cmpR_zero (x y : Rat) : cmpR x y = 0 ↔ x = y := by
  unfold cmpR
  rw [Int.sign_eq_zero_iff_zero, Rat.eq_iff_mul_eq_mul]
  omega
/-- lengths -/
theorem szR_add (x y : Rat) : szR (x + y) ≤ szR x + szR y + 1 := by
  have h := szR_divInt (x.num * y.den + y.num * x.den) (x.den * y.den) (by have := den_mul_pos x y; omega)
  rw [← add_divInt] at h
  have h1 := lenI_add (x.num * y.den) (y.num * x.den)
  have h2 := lenI_mul x.num y.den
  have h3 := lenI_mul y.num x.den
  have h4 := lenI_mul x.den y.den
  have a1 := szR_num (Nat.le_refl (szR x))
  have a2 := szR_den (Nat.le_refl (szR x))
  have b1 := szR_num (Nat.le_refl (szR y))
  have b2 := szR_den (Nat.le_refl (szR y))
  omega
theorem szR_mul (x y : Rat) : szR (x * y) ≤ szR x + szR y := by
  have h := szR_divInt (x.num * y.num) (x.den * y.den) (by have := den_mul_pos x y; omega)
  rw [← mul_divInt] at h
  have h2 := lenI_mul x.num y.num
  have h4 := lenI_mul x.den y.den
  have a1 := szR_num (Nat.le_refl (szR x))
  have a2 := szR_den (Nat.le_refl (szR x))
  have b1 := szR_num (Nat.le_refl (szR y))
  have b2 := szR_den (Nat.le_refl (szR y))
  omega
theorem szR_neg (x : Rat) : szR (-x) = szR x := by unfold szR; rw [Rat.neg_num, Rat.neg_den, lenI_neg]
theorem szR_sub (x y : Rat) : szR (x - y) ≤ szR x + szR y + 1 := by
  have := szR_add x (-y)
  rwa [szR_neg, ← Rat.sub_eq_add_neg] at this
theorem szR_div (x y : Rat) (hy : y ≠ 0) : szR (x / y) ≤ szR x + szR y := by
  have hn : y.num ≠ 0 := fun h => hy (Rat.num_eq_zero.1 h)
  have h := szR_divInt (x.num * y.den) (x.den * y.num) (Int.mul_ne_zero (by have := den_posI x; omega) hn)
  rw [← div_divInt] at h
  have h2 := lenI_mul x.num y.den
  have h4 := lenI_mul x.den y.num
  have a1 := szR_num (Nat.le_refl (szR x))
  have a2 := szR_den (Nat.le_refl (szR x))
  have b1 := szR_num (Nat.le_refl (szR y))
  have b2 := szR_den (Nat.le_refl (szR y))
  omega
theorem szR_int (n : Int) : szR (n : Rat) ≤ max (lenI n) 1 := by
  refine szR_mk ?_ ?_
  · rw [Rat.num_intCast]; omega
  · rw [Rat.den_intCast]
    exact Nat.le_trans lenI_one (Nat.le_max_right _ _)
theorem lenI_floor (x : Rat) : lenI x.floor ≤ lenI x.num := by
  rw [Rat.floor_def]; exact lenR_mono (natAbs_div_le _ _)
theorem lenI_ceil (x : Rat) : lenI x.ceil ≤ lenI x.num := by
  rw [Rat.ceil_eq_neg_floor_neg, lenI_neg]
  have := lenI_floor (-x)
  rwa [Rat.neg_num, lenI_neg] at this
/-- a fraction in lowest terms -/
theorem divInt_fields {a b : Int} (hb : 0 < b) (hg : Int.gcd a b = 1) : (Rat.divInt a b).num = a ∧ ((Rat.divInt a b).den : Int) = b := by
  obtain ⟨h1, h2⟩ := red_pos (a := a) hb
  rw [hg] at h1 h2
  rw [← h1, ← h2]
  refine ⟨?_, ?_⟩ <;> exact Int.fdiv_one _
theorem gcd_fields (q : Rat) : Int.gcd q.num q.den = 1 := q.reduced
end Go.Proofs.YtomjnjpehokjbaaGreatDoor

namespace Go.Proofs.YtomjnjpehokjbaaGreatDoor
open Go.RowKit

/-- the value V is the canonical fraction q -/
def RatRep (w : World) (V : Value) (q : Rat) : Prop := ∃ x v y u, V = .agg #[x, v, y, u] ∧ IntRep w (.agg #[x, v]) q.num ∧ IntRep w (.agg #[y, u]) (q.den : Int)
/-- any api.Rat -/
def RatArg (w : World) (V : Value) (n1 : Bool) (xs : List Nat) (n2 : Bool) (ys : List Nat) : Prop := ∃ x v y u, V = .agg #[x, v, y, u] ∧ IntArg w (.agg #[x, v]) n1 xs ∧ IntArg w (.agg #[y, u]) n2 ys
def rvalidB (n1 : Bool) (xs : List Nat) (n2 : Bool) (ys : List Nat) : Bool :=
  validB n1 xs && (validB n2 ys && (decide (0 < cnt n2 ys) && decide (Int.gcd (cnt n1 xs) (cnt n2 ys) = 1)))
/-- what it counts as -/
def rcnt (n1 : Bool) (xs : List Nat) (n2 : Bool) (ys : List Nat) : Rat := if rvalidB n1 xs n2 ys then Rat.divInt (cnt n1 xs) (cnt n2 ys) else 0
/-- an api.Rat of a bearable length that counts q -/
def RatNum (w : World) (V : Value) (q : Rat) : Prop := ∃ n1 xs n2 ys, RatArg w V n1 xs n2 ys ∧ rcnt n1 xs n2 ys = q ∧ xs.length ≤ 100000 ∧ ys.length ≤ 100000
/-- what a function of a fraction hands back -/
def RGives (q : Rat) (w : World) (e : Ending) (w' : World) : Prop := ∃ V, e = .returned V ∧ RatRep w' V q ∧ Keeps w w'
section
variable {w w' : World} {V x v y u : Value} {q : Rat} {n1 n2 : Bool} {xs ys : List Nat}
theorem RatRep.below (h : RatRep w V q) (hk : Keeps w w') : RatRep w' V q := by
  obtain ⟨x, v, y, u, rfl, h1, h2⟩ := h
  exact ⟨x, v, y, u, rfl, h1.below hk, h2.below hk⟩
theorem RatRep.drew (h : RatRep w V q) : RatRep w.drew V q := h
theorem RatArg.below (h : RatArg w V n1 xs n2 ys) (hk : Keeps w w') : RatArg w' V n1 xs n2 ys := by
  obtain ⟨x, v, y, u, rfl, h1, h2⟩ := h
  exact ⟨x, v, y, u, rfl, h1.below hk, h2.below hk⟩
theorem RatNum.below (h : RatNum w V q) (hk : Keeps w w') : RatNum w' V q := by
  obtain ⟨n1, xs, n2, ys, h, e, l⟩ := h
  exact ⟨n1, xs, n2, ys, h.below hk, e, l⟩
theorem RatNum.drew (h : RatNum w V q) : RatNum w.drew V q := h
theorem rvalidB_rep (q : Rat) : rvalidB (decide (q.num < 0)) (dig q.num.natAbs) (decide ((q.den : Int) < 0)) (dig (q.den : Int).natAbs) = true := by
  unfold rvalidB
  rw [validB_rep, validB_rep, cnt_rep, cnt_rep, decide_eq_true (den_posI q), decide_eq_true (gcd_fields q)]
  rfl
theorem rcnt_rep (q : Rat) : rcnt (decide (q.num < 0)) (dig q.num.natAbs) (decide ((q.den : Int) < 0)) (dig (q.den : Int).natAbs) = q := by
  unfold rcnt
  rw [if_pos (rvalidB_rep q), cnt_rep, cnt_rep, Rat.num_divInt_den]
theorem RatRep.num (h : RatRep w V q) (hl : szR q ≤ 100000) : RatNum w V q := by
  obtain ⟨x, v, y, u, rfl, h1, h2⟩ := h
  exact ⟨_, _, _, _, ⟨x, v, y, u, rfl, h1.arg, h2.arg⟩, rcnt_rep q, szR_num hl, szR_den hl⟩
theorem rcnt_true (h : rvalidB n1 xs n2 ys = true) : (rcnt n1 xs n2 ys).num = cnt n1 xs ∧ ((rcnt n1 xs n2 ys).den : Int) = cnt n2 ys := by
  unfold rcnt
  rw [if_pos h]
  unfold rvalidB at h
  simp only [Bool.and_eq_true, decide_eq_true_eq] at h
  exact divInt_fields h.2.2.1 h.2.2.2
theorem rcnt_false (h : rvalidB n1 xs n2 ys = false) : rcnt n1 xs n2 ys = 0 := if_neg (by rw [h]; decide)
theorem szR_rcnt : szR (rcnt n1 xs n2 ys) ≤ max (max xs.length ys.length) 1 := by
  cases h : rvalidB n1 xs n2 ys with
  | true =>
    obtain ⟨h1, h2⟩ := rcnt_true h
    refine szR_mk ?_ ?_
    · rw [h1]; have := lenI_cnt n1 xs; omega
    · rw [h2]; have := lenI_cnt n2 ys; omega
  | false =>
    rw [rcnt_false h]
    refine szR_mk ?_ ?_
    · rw [Rat.zero_num, lenI_zero]; omega
    · rw [Rat.zero_den]; exact Nat.le_trans lenI_one (Nat.le_max_right _ _)
theorem RatNum.sz (h : RatNum w V q) : szR q ≤ 100000 := by
  obtain ⟨n1, xs, n2, ys, -, rfl, l1, l2⟩ := h
  have := szR_rcnt (n1 := n1) (xs := xs) (n2 := n2) (ys := ys)
  omega
/-- a whole number -/
theorem RatRep.whole {x v y u : Value} {z : Int} (h1 : IntRep w (.agg #[x, v]) z) (h2 : IntRep w (.agg #[y, u]) 1) : RatRep w (.agg #[x, v, y, u]) (z : Rat) :=
  ⟨x, v, y, u, rfl, by rw [Rat.num_intCast]; exact h1, by rw [Rat.den_intCast]; exact h2⟩
theorem RatRep.mk {x v y u : Value} {n d : Int} (h1 : IntRep w (.agg #[x, v]) n) (h2 : IntRep w (.agg #[y, u]) d) (e1 : n = q.num) (e2 : d = (q.den : Int)) : RatRep w (.agg #[x, v, y, u]) q := by
  subst e1 e2; exact ⟨x, v, y, u, rfl, h1, h2⟩
theorem RatRep.n (h : RatRep w (.agg #[x, v, y, u]) q) : IntRep w (.agg #[x, v]) q.num := by
  obtain ⟨_, _, _, _, e, h1, _⟩ := h
  cases e; exact h1
theorem RatRep.d (h : RatRep w (.agg #[x, v, y, u]) q) : IntRep w (.agg #[y, u]) (q.den : Int) := by
  obtain ⟨_, _, _, _, e, _, h2⟩ := h
  cases e; exact h2
theorem RatRep.open_ (h : RatRep w V q) : ∃ b A n c d B m e, V = .agg #[.bool b, .slice A n c, .bool d, .slice B m e] := by
  obtain ⟨x, v, y, u, rfl, h1, h2⟩ := h
  obtain ⟨A, n, c, e, -⟩ := h1.open_
  obtain ⟨B, m, d, e', -⟩ := h2.open_
  cases e; cases e'
  exact ⟨_, A, n, c, _, B, m, d, rfl⟩
theorem RatArg.open_ (h : RatArg w V n1 xs n2 ys) : ∃ A n c B m d, V = .agg #[.bool n1, .slice A n c, .bool n2, .slice B m d] := by
  obtain ⟨x, v, y, u, rfl, ⟨v1, e1, h1⟩, ⟨v2, e2, h2⟩⟩ := h
  cases e1; cases e2
  obtain ⟨A, n, c, rfl, -⟩ := h1.open_
  obtain ⟨B, m, d, rfl, -⟩ := h2.open_
  exact ⟨A, n, c, B, m, d, rfl⟩
theorem RatArg.a1 (h : RatArg w (.agg #[x, v, y, u]) n1 xs n2 ys) : IntArg w (.agg #[x, v]) n1 xs := by
  obtain ⟨_, _, _, _, e, h1, _⟩ := h
  cases e; exact h1
theorem RatArg.a2 (h : RatArg w (.agg #[x, v, y, u]) n1 xs n2 ys) : IntArg w (.agg #[y, u]) n2 ys := by
  obtain ⟨_, _, _, _, e, _, h2⟩ := h
  cases e; exact h2
theorem IntArg.nn {V : Value} {neg : Bool} {xs : List Nat} (h : IntArg w V neg xs) (hl : xs.length ≤ 900000) : IntNum w V (cnt neg xs) := ⟨neg, xs, h, rfl, hl⟩
theorem RatNum.open_ (h : RatNum w V q) : ∃ b A n c d B m e, V = .agg #[.bool b, .slice A n c, .bool d, .slice B m e] := by
  obtain ⟨n1, xs, n2, ys, h, -, -⟩ := h
  obtain ⟨A, n, c, B, m, d, rfl⟩ := h.open_
  exact ⟨n1, A, n, c, n2, B, m, d, rfl⟩
end
end Go.Proofs.YtomjnjpehokjbaaGreatDoor

namespace Go.Proofs.YtomjnjpehokjbaaGreatDoor
open Go.RowKit Go.Shelf

/-- boxes of two cells -/
def Boxes (w : World) (t : TypeId) : List (Nat × Value × Value) → Prop
  | [] => True
  | p :: l => Own w p.1 t [p.2.1, p.2.2] ∧ Boxes w t l
theorem Boxes.below {w w' : World} {t : TypeId} (hk : Keeps w w') : ∀ {l : List (Nat × Value × Value)}, Boxes w t l → Boxes w' t l
  | [], _ => trivial
  | _ :: _, h => ⟨h.1.below hk, Boxes.below hk h.2⟩
theorem Boxes.drew {w : World} {t : TypeId} : ∀ {l : List (Nat × Value × Value)}, Boxes w t l → Boxes w.drew t l
  | [], _ => trivial
  | _ :: _, h => ⟨h.1, Boxes.drew h.2⟩
theorem Boxes.o {w : World} {t : TypeId} {b : Nat} {x y : Value} {l : List (Nat × Value × Value)} (h : Boxes w t ((b, x, y) :: l)) : Own w b t [x, y] := h.1
theorem Boxes.c0 {w : World} {t : TypeId} {b : Nat} {x y : Value} {l : List (Nat × Value × Value)} (h : Boxes w t ((b, x, y) :: l)) : w.cell? ⟨b, 0, none⟩ = some x := h.1.c0
theorem Boxes.c1 {w : World} {t : TypeId} {b : Nat} {x y : Value} {l : List (Nat × Value × Value)} (h : Boxes w t ((b, x, y) :: l)) : w.cell? ⟨b, 1, none⟩ = some y := h.1.c1
theorem Boxes.tl {w : World} {t : TypeId} {p : Nat × Value × Value} {l : List (Nat × Value × Value)} (h : Boxes w t (p :: l)) : Boxes w t l := h.2
/-- integers of a bearable length -/
def Ints (w : World) : List (Value × Int) → Prop
  | [] => True
  | p :: l => IntNum w p.1 p.2 ∧ Ints w l
theorem Ints.below {w w' : World} (hk : Keeps w w') : ∀ {l : List (Value × Int)}, Ints w l → Ints w' l
  | [], _ => trivial
  | _ :: _, h => ⟨h.1.below hk, Ints.below hk h.2⟩
theorem Ints.drew {w : World} : ∀ {l : List (Value × Int)}, Ints w l → Ints w.drew l
  | [], _ => trivial
  | _ :: _, h => ⟨h.1.drew, Ints.drew h.2⟩
theorem Ints.h {w : World} {V : Value} {z : Int} {l : List (Value × Int)} (h : Ints w ((V, z) :: l)) : IntNum w V z := h.1
theorem Ints.tl {w : World} {p : Value × Int} {l : List (Value × Int)} (h : Ints w (p :: l)) : Ints w l := h.2
theorem gives_eq {P : Program} {F : FuncId} {args : Array Value} {w : World} {z z' : Int} (h : Calls P F args w (Gives z w)) (e : z = z') : Calls P F args w (Gives z' w) := by subst e; exact h
theorem sign_s {w : World} {V : Value} {x s : Int} (h : IntNum w V x) (e : x.sign = s) : Calls Tryz.prog 77 #[V] w fun e w' => e = .returned (.int .i64 s) ∧ Keeps w w' := by subst e; exact sign_num h
theorem rsign_s {w : World} {V : Value} {x s : Int} (h : IntNum w V x) (e : x.sign = s) : Calls Tryz.prog 80 #[V] w fun e w' => e = .returned (.int .i64 s) ∧ Keeps w w' := by subst e; exact rsign_num h
theorem icompare_s {w : World} {V1 V2 : Value} {x y s : Int} (h1 : IntNum w V1 x) (h2 : IntNum w V2 y) (e : (x - y).sign = s) : Calls Tryz.prog 78 #[V1, V2] w fun e w' => e = .returned (.int .i64 s) ∧ Keeps w w' := by subst e; exact compare_num h1 h2
theorem lenI_abs (x : Int) : lenI (x.natAbs : Int) = lenI x := by unfold lenI; rw [Int.natAbs_natCast]
theorem lenI_mono {x y : Int} (h : x.natAbs ≤ y.natAbs) : lenI x ≤ lenI y := dig_length_mono h
end Go.Proofs.YtomjnjpehokjbaaGreatDoor

namespace Go.Proofs.YtomjnjpehokjbaaGreatDoor
open Go.RowKit

theorem gz {α : Type _} {x d : α} {xs : List α} : (x :: xs).getD 0 d = x := rfl
theorem gs {α : Type _} {x d : α} {xs : List α} {n : Nat} : (x :: xs).getD (n + 1) d = xs.getD n d := rfl
theorem cm {l : List Nat} {a : Nat} (h : l.contains a = true) : a ∈ l := List.contains_iff_mem.1 h
abbrev Bx := Nat × TypeId × List Value
def Bxs (w : World) : List Bx → Prop
  | [] => True
  | p :: l => Own w p.1 p.2.1 p.2.2 ∧ Bxs w l
/-- what lasts while no row of uint32 is touched -/
def Stab (p : World → Prop) : Prop := ∀ w w', Same32 w w' → p w → p w'
def Ps (w : World) : List (World → Prop) → Prop
  | [] => True
  | p :: l => (Stab p ∧ p w) ∧ Ps w l
theorem Ps.map {w w' : World} (hs : Same32 w w') : ∀ {l : List (World → Prop)}, Ps w l → Ps w' l
  | [], _ => trivial
  | _ :: _, h => ⟨⟨h.1.1, h.1.1 _ _ hs h.1.2⟩, Ps.map hs h.2⟩
theorem Ps.get {w : World} : ∀ {l : List (World → Prop)} {i : Nat} {p : World → Prop}, Ps w l → l[i]? = some p → p w
  | [], i, p, _, h => by simp at h
  | q :: l, 0, p, hb, h => by obtain rfl : q = p := by simpa using h
                              exact hb.1.2
  | q :: l, i + 1, p, hb, h => Ps.get (l := l) (i := i) hb.2 (by simpa using h)
theorem Keeps.same32 {w w' : World} (hk : Keeps w w') : Same32 w w' := fun _ _ h => h.below hk
theorem Bxs.map {w w' : World} : ∀ {l : List Bx}, (∀ p ∈ l, Own w p.1 p.2.1 p.2.2 → Own w' p.1 p.2.1 p.2.2) → Bxs w l → Bxs w' l
  | [], _, _ => trivial
  | p :: _, h, hb => ⟨h p List.mem_cons_self hb.1, Bxs.map (fun q hq => h q (List.mem_cons_of_mem _ hq)) hb.2⟩
theorem Bxs.get {w : World} : ∀ {l : List Bx} {i : Nat} {p : Bx}, Bxs w l → l[i]? = some p → Own w p.1 p.2.1 p.2.2
  | [], i, p, _, h => by simp at h
  | q :: l, 0, p, hb, h => by obtain rfl : q = p := by simpa using h
                              exact hb.1
  | q :: l, i + 1, p, hb, h => Bxs.get (l := l) (i := i) hb.2 (by simpa using h)
theorem Bxs.mem {w : World} : ∀ {l : List Bx} {p : Bx}, Bxs w l → p ∈ l → Own w p.1 p.2.1 p.2.2
  | [], p, _, h => by cases h
  | q :: l, p, hb, h => by
    rcases List.mem_cons.1 h with rfl | h
    · exact hb.1
    · exact Bxs.mem hb.2 h
theorem Bxs.set {w w' : World} {B : Nat} {t : TypeId} {c' : List Value} (hO : Own w' B t c') : ∀ {l : List Bx} {i : Nat} {p : Bx}, l[i]? = some p → p.1 = B → l.Pairwise (fun p q => p.1 ≠ q.1) →
    (∀ q ∈ l, q.1 ≠ B → Own w q.1 q.2.1 q.2.2 → Own w' q.1 q.2.1 q.2.2) → Bxs w l → Bxs w' (l.set i (B, t, c'))
  | [], i, p, h, _, _, _, _ => by simp at h
  | q :: l, 0, p, h, e, hd, hm, hb => by
    obtain rfl : q = p := by simpa using h
    rw [List.pairwise_cons] at hd
    exact ⟨hO, Bxs.map (fun r hr ho => hm r (List.mem_cons_of_mem _ hr) (fun e2 => hd.1 r hr (by rw [e, e2])) ho) hb.2⟩
  | q :: l, i + 1, p, h, e, hd, hm, hb => by
    have h : l[i]? = some p := by simpa using h
    rw [List.pairwise_cons] at hd
    refine ⟨hm q List.mem_cons_self (fun e2 => hd.1 p (List.mem_of_getElem? h) (by rw [e, e2])) hb.1, ?_⟩
    exact Bxs.set (l := l) hO h e hd.2 (fun r hr => hm r (List.mem_cons_of_mem _ hr)) hb.2
theorem RatNum.map {w w' : World} {V : Value} {q : Rat} (h : RatNum w V q) (hs : Same32 w w') : RatNum w' V q := by
  obtain ⟨n1, xs, n2, ys, ⟨x, v, y, u, rfl, ⟨v1, e1, h1⟩, ⟨v2, e2, h2⟩⟩, e, l⟩ := h
  exact ⟨n1, xs, n2, ys, ⟨_, _, _, _, rfl, ⟨v1, e1, hs _ _ h1⟩, ⟨v2, e2, hs _ _ h2⟩⟩, e, l⟩
theorem RatRep.map {w w' : World} {V : Value} {q : Rat} (h : RatRep w V q) (hs : Same32 w w') : RatRep w' V q := by
  obtain ⟨x, v, y, u, rfl, h1, h2⟩ := h
  exact ⟨x, v, y, u, rfl, h1.map hs, h2.map hs⟩

structure St (w0 w : World) (bs : List Bx) (ps : List (World → Prop)) : Prop where
  k : Keeps w0 w
  b : Bxs w bs
  lo : ∀ p ∈ bs, w0.heap.size ≤ p.1
  d : bs.Pairwise (fun p q => p.1 ≠ q.1)
  p : Ps w ps
section
variable {w0 w w' : World} {bs : List Bx} {ps : List (World → Prop)}
theorem St.start (w : World) : St w w [] [] := ⟨Below.refl _ _, trivial, by simp, List.Pairwise.nil, trivial⟩
theorem St.below (S : St w0 w bs ps) (hk : Keeps w w') : St w0 w' bs ps :=
  ⟨S.k.trans' hk, Bxs.map (fun _ _ h => h.below hk) S.b, S.lo, S.d, S.p.map hk.same32⟩
theorem St.drew (S : St w0 w bs ps) : St w0 w.drew bs ps := ⟨Below.drew S.k, Bxs.map (w := w) (w' := w.drew) (fun _ _ h => h) S.b, S.lo, S.d, Ps.map (w := w) (w' := w.drew) (fun _ _ h => h) S.p⟩
theorem St.alloc (S : St w0 w bs ps) (t : TypeId) (vs : List Value) : St w0 (w.alloc (.cells vs.toArray t)) ((w.heap.size, t, vs) :: bs) ps := by
  have hk := box2 w (.cells vs.toArray t)
  have S' := S.below hk
  refine ⟨S'.k, ⟨Own.new w t vs, S'.b⟩, ?_, ?_, S'.p⟩
  · intro p hp
    rcases List.mem_cons.1 hp with rfl | hp
    · exact S.k.size
    · exact S.lo p hp
  · rw [List.pairwise_cons]
    exact ⟨fun q hq e => by have := (S.b.mem hq).lt; simp only at e; omega, S.d⟩
theorem St.add (S : St w0 w bs ps) {p : World → Prop} (hp : Stab p) (h : p w) : St w0 w bs (p :: ps) := ⟨S.k, S.b, S.lo, S.d, ⟨⟨hp, h⟩, S.p⟩⟩
/-- an integer of a bearable length; a canonical one; a fraction; a canonical one -/
theorem St.addN (S : St w0 w bs ps) {V : Value} {z : Int} (h : IntNum w V z) : St w0 w bs ((fun w => IntNum w V z) :: ps) := S.add (fun _ _ hs h => h.map hs) h
theorem St.addI (S : St w0 w bs ps) {V : Value} {z : Int} (h : IntRep w V z) : St w0 w bs ((fun w => IntRep w V z) :: ps) := S.add (fun _ _ hs h => h.map hs) h
theorem St.addR (S : St w0 w bs ps) {V : Value} {q : Rat} (h : RatNum w V q) : St w0 w bs ((fun w => RatNum w V q) :: ps) := S.add (fun _ _ hs h => h.map hs) h
theorem St.addQ (S : St w0 w bs ps) {V : Value} {q : Rat} (h : RatRep w V q) : St w0 w bs ((fun w => RatRep w V q) :: ps) := S.add (fun _ _ hs h => h.map hs) h
theorem IntArg.map {V : Value} {neg : Bool} {xs : List Nat} (h : IntArg w V neg xs) (hs : Same32 w w') : IntArg w' V neg xs := by
  obtain ⟨v, rfl, hv⟩ := h
  exact ⟨v, rfl, hs _ _ hv⟩
theorem St.addA (S : St w0 w bs ps) {V : Value} {neg : Bool} {xs : List Nat} (h : IntArg w V neg xs) : St w0 w bs ((fun w => IntArg w V neg xs) :: ps) := S.add (fun _ _ hs h => h.map hs) h
theorem St.ai (S : St w0 w bs ps) (i : Nat) {V : Value} {neg : Bool} {xs : List Nat} (h : ps[i]? = some (fun w => IntArg w V neg xs)) : IntArg w V neg xs := S.p.get h
theorem St.ni (S : St w0 w bs ps) (i : Nat) {V : Value} {z : Int} (h : ps[i]? = some (fun w => IntNum w V z)) : IntNum w V z := S.p.get h
theorem St.ii (S : St w0 w bs ps) (i : Nat) {V : Value} {z : Int} (h : ps[i]? = some (fun w => IntRep w V z)) : IntRep w V z := S.p.get h
theorem St.ri (S : St w0 w bs ps) (i : Nat) {V : Value} {q : Rat} (h : ps[i]? = some (fun w => RatNum w V q)) : RatNum w V q := S.p.get h
theorem St.qi (S : St w0 w bs ps) (i : Nat) {V : Value} {q : Rat} (h : ps[i]? = some (fun w => RatRep w V q)) : RatRep w V q := S.p.get h
theorem St.o (S : St w0 w bs ps) (i : Nat) {p : Bx} (h : bs[i]? = some p) : Own w p.1 p.2.1 p.2.2 := S.b.get h
theorem St.c (S : St w0 w bs ps) (i j : Nat) {B : Nat} {t : TypeId} {vs : List Value} {v : Value} (h : bs[i]? = some (B, t, vs)) (h2 : vs[j]? = some v) : w.cell? ⟨B, j, none⟩ = some v := by
  have := S.o i h
  rw [this.cell]; exact h2
theorem St.f (S : St w0 w bs ps) (i j : Nat) {B : Nat} {t : TypeId} {vs : List Value} (h : bs[i]? = some (B, t, vs)) : w.frozen? ⟨B, j, none⟩ = false := (S.o i h).frozen j
theorem Own.set2 {b : Nat} {t : TypeId} {x y : Value} (h : Own w b t [x, y]) (x' y' : Value) : Own ((w.setCell ⟨b, 0, none⟩ x').setCell ⟨b, 1, none⟩ y') b t [x', y'] := h.two x' y'
theorem set_lo {l : List Bx} {n i B : Nat} {t : TypeId} {c c' : List Value} (hi : l[i]? = some (B, t, c)) (h : ∀ p ∈ l, n ≤ p.1) : ∀ p ∈ l.set i (B, t, c'), n ≤ p.1 := by
  intro p hp
  rcases List.mem_or_eq_of_mem_set hp with hp | rfl
  · exact h p hp
  · exact h (B, t, c) (List.mem_of_getElem? hi)
theorem set_d : ∀ {l : List Bx} {i B : Nat} {t : TypeId} {c c' : List Value}, l[i]? = some (B, t, c) → l.Pairwise (fun p q => p.1 ≠ q.1) → (l.set i (B, t, c')).Pairwise (fun p q => p.1 ≠ q.1)
  | [], i, B, t, c, c', h, _ => by simp at h
  | q :: l, 0, B, t, c, c', h, hd => by
    obtain rfl : q = (B, t, c) := by simpa using h
    rw [List.pairwise_cons] at hd
    exact List.pairwise_cons.2 ⟨hd.1, hd.2⟩
  | q :: l, i + 1, B, t, c, c', h, hd => by
    have h : l[i]? = some (B, t, c) := by simpa using h
    rw [List.pairwise_cons] at hd
    refine List.pairwise_cons.2 ⟨fun p hp => ?_, set_d h hd.2⟩
    rcases List.mem_or_eq_of_mem_set hp with hp | rfl
    · exact hd.1 p hp
    · exact hd.1 (B, t, c) (List.mem_of_getElem? h)
/-- one cell stored -/
theorem St.put (S : St w0 w bs ps) (i j : Nat) {B : Nat} {t : TypeId} {vs : List Value} (hi : bs[i]? = some (B, t, vs)) (hv : vs.all noU32 = true) (u : Value) :
    St w0 (w.setCell ⟨B, j, none⟩ u) (bs.set i (B, t, vs.set j u)) ps := by
  have hO := S.o i hi
  have hs : Same32 w (w.setCell ⟨B, j, none⟩ u) := fun v xs h => h.put hO hv j u
  have hlo := S.lo _ (List.mem_of_getElem? hi)
  exact ⟨S.k.set hlo u, Bxs.set (hO.set j u) hi rfl S.d (fun q _ e h => h.far e u) S.b, set_lo hi S.lo, set_d hi S.d, S.p.map hs⟩
/-- a struct of two cells stored -/
theorem St.put2 (S : St w0 w bs ps) (i : Nat) {B : Nat} {t : TypeId} {x y x' y' : Value} (hi : bs[i]? = some (B, t, [x, y])) (hv : [x, y].all noU32 = true) (hv' : [x'].all noU32 = true) :
    St w0 ((w.setCell ⟨B, 0, none⟩ x').setCell ⟨B, 1, none⟩ y') (bs.set i (B, t, [x', y'])) ps := by
  have hy : noU32 y = true ∧ noU32 x' = true := by simp at hv hv'; exact ⟨hv.2, hv'⟩
  have S1 := S.put i 0 hi hv x'
  have h1 : (bs.set i (B, t, [x, y].set 0 x'))[i]? = some (B, t, [x', y]) := by
    rw [List.getElem?_set_self (List.getElem?_eq_some_iff.1 hi).1]; rfl
  have S2 := S1.put i 1 h1 (by simp [hy]) y'
  rw [List.set_set] at S2
  exact S2
/-- a struct of four cells stored -/
theorem St.put4 (S : St w0 w bs ps) (i : Nat) {B : Nat} {t : TypeId} {x y z u x' y' z' u' : Value} (hi : bs[i]? = some (B, t, [x, y, z, u])) (hv : [x, y, z, u].all noU32 = true) (hv' : [x', y', z'].all noU32 = true) :
    St w0 ((((w.setCell ⟨B, 0, none⟩ x').setCell ⟨B, 1, none⟩ y').setCell ⟨B, 2, none⟩ z').setCell ⟨B, 3, none⟩ u') (bs.set i (B, t, [x', y', z', u'])) ps := by
  simp only [List.all_cons, List.all_nil, Bool.and_true, Bool.and_eq_true] at hv hv'
  have hlt := (List.getElem?_eq_some_iff.1 hi).1
  have S1 := S.put i 0 hi (by simp [hv]) x'
  have h1 : (bs.set i (B, t, [x, y, z, u].set 0 x'))[i]? = some (B, t, [x', y, z, u]) := by rw [List.getElem?_set_self hlt]; rfl
  have S2 := S1.put i 1 h1 (by simp [hv, hv']) y'
  rw [List.set_set] at S2
  have h2 : (bs.set i (B, t, [x', y, z, u].set 1 y'))[i]? = some (B, t, [x', y', z, u]) := by rw [List.getElem?_set_self hlt]; rfl
  have S3 := S2.put i 2 h2 (by simp [hv, hv']) z'
  rw [List.set_set] at S3
  have h3 : (bs.set i (B, t, [x', y', z, u].set 2 z'))[i]? = some (B, t, [x', y', z', u]) := by rw [List.getElem?_set_self hlt]; rfl
  have S4 := S3.put i 3 h3 (by simp [hv, hv']) u'
  rw [List.set_set] at S4
  exact S4
end
end Go.Proofs.YtomjnjpehokjbaaGreatDoor
