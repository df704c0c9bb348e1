/- Check points, plainly: sums of squares and the worst point. No program in sight. The example of the report's chapter, plainly. Fractions side by side in a block of one's own. No program in sight. report.Checks' test: the walks. fiducialref02.ValidList and SameList: the walks. slices.Equal of rows of ints. whole and half of the reports' laws: the walks. -/
import Derived.Test.YtgcigdahjabimaaGreatDoorPr28
import Derived.Test.YtgcigdahjabimaaGreatDoorPr36
import Derived.Test.YtgcigdahjabimaaGreatDoorPr27
import Derived.Test.YtgcigdahjabimaaGreatDoorPr26
import Derived.Test.YtgcigdahjabimaaGreatDoorPr9
namespace Go.Proofs.YtgcigdahjabimaaGreatDoor
def fq (fl : List QV) (j : Nat) : Rat := (fl.getD j (0, false)).1
def dK (fl : List QV) (sp : List Int) (i k : Nat) : Rat := fq fl (3 * i + k) - ((sp.getD (3 * i + k) 0 : Int) : Rat)
def sqK (fl : List QV) (sp : List Int) (i k : Nat) : Rat := dK fl sp i k * dK fl sp i k
def totK (fl : List QV) (sp : List Int) (k : Nat) : Nat → Rat
 | 0 => 0
 | n + 1 => totK fl sp k n + sqK fl sp n k
def allK (fl : List QV) (sp : List Int) (i : Nat) : Nat → Rat
 | 0 => 0
 | k + 1 => allK fl sp i k + sqK fl sp i k
def bestK (fl : List QV) (sp : List Int) : Nat → Nat × Rat
 | 0 => (0, -1)
 | n + 1 => if (bestK fl sp n).2 < allK fl sp n 3 then (n, allK fl sp n 3) else bestK fl sp n
def farB (x : Int) : Bool := decide (x < -1048576) || decide (1048576 < x)
def chkC (fl : List QV) (sp : List Int) (n m : Nat) : Int := if fl.any (fun x => !x.2) then 1 else if m ≠ n then 4 else if m = 0 then 6 else if 256 < m then 3 else if sp.any farB then 2 else 0
section
variable {fl : List QV} {sp : List Int}
theorem szR_small' {x : Int} (h1 : -1048576 ≤ x) (h2 : x ≤ 1048576) : szR (x : Rat) ≤ 1 := by
 refine szR_mk ?_ ?_
 ·rw [Rat.num_intCast]
  exact dig_length_le (n := x.natAbs) (k := 1) (by simp; omega)
 ·rw [Rat.den_intCast]
  exact lenI_one
end
def hf1 : Rat := Rat.divInt 1 2
def wq (n : Int) : Rat := ((n : Int) : Rat)
def knS : Sm := ⟨2, 0, 0, 1, 0, 0, (wq 4, true), (wq 4, true), [(hf1, true)], [(wq 8, true)], 0⟩
def knE : List QV := [(wq 1, true), (wq 4, true)]
def knF : List QV := [(hf1, true), (wq 0, true), (wq 0, true), (wq 5, true), (wq 0, true), (wq 2, true)]
def knP : List Int := [0, 0, 0, 5, 0, 0]
theorem kn_form : formB knS = true := by decide +kernel
theorem kn_hisC : hisC knS knE = 0 := by decide +kernel
theorem kn_hisL : hisL knS knE 1 = [0, 0, 1] := by decide +kernel
theorem kn_abvC : abvC knS true = 0 := by decide +kernel
theorem kn_abvL : abvL knS (wq 7) = [0] := by decide +kernel
theorem kn_chkC : chkC knF knP 2 2 = 0 := by decide +kernel
theorem kn_best : (bestK knF knP 2).1 = 1 := by decide +kernel
theorem kn_tot0 : totK knF knP 0 2 = Rat.divInt 1 4 := by decide +kernel
theorem kn_tot1 : totK knF knP 1 2 = wq 0 := by decide +kernel
theorem kn_tot2 : totK knF knP 2 2 = wq 4 := by decide +kernel
theorem itoa_dig (n : Nat) (h : n < 10) : Lib.itoa (n : Int) = [UInt8.ofNat (48 + n)] := by
 unfold Lib.itoa
 rw [if_neg (by omega), Int.toNat_natCast, dd_one n h]
theorem fracT_dig (n : Nat) (h : n < 10) (h0 : n ≠ 0) : fracT (wq (n : Int)) = [UInt8.ofNat (48 + n)] := by
 unfold fracT wq textL
 rw [Rat.num_intCast, Rat.den_intCast, if_neg (by omega), if_neg (by omega), Int.natAbs_natCast, dd_one n h]
 rfl
theorem fracT_half : fracT hf1 = [49, 47, 50] := by
 have e1 : hf1.num = 1 := by decide +kernel
 have e2 : hf1.den = 2 := by decide +kernel
 unfold fracT textL
 rw [e1, e2, if_neg (by decide), if_neg (by decide), if_neg (by decide), if_neg (by decide), if_neg (by decide), show (1 : Int).natAbs = 1 from rfl, show ((2 : Nat) : Int).natAbs = 2 from rfl, dd_one _ (by decide), dd_one _ (by decide)]
 rfl
def knT : List UInt8 := [100, 105, 109, 32, 50, 10, 115, 116, 97, 116, 105, 111, 110, 115, 32, 48, 10, 112, 111, 105, 110, 116, 115, 32, 48, 10, 114, 111, 119, 115, 32, 49, 10, 102, 114, 101, 101, 32, 48, 10, 114, 97, 110, 107, 32, 48, 10, 111, 98, 106, 101, 99, 116, 105, 118, 101, 32, 52, 10, 115, 105, 103, 109, 97, 50, 32, 52, 10, 114, 111, 119, 32, 48, 32, 49, 47, 50, 32, 56, 10, 119, 111, 114, 115, 116, 32, 48, 10]
theorem kn_sumT : sumT knS = knT := by
 have i0 := itoa_dig 0 (by decide)
 have i1 := itoa_dig 1 (by decide)
 have i2 := itoa_dig 2 (by decide)
 have f4 := fracT_dig 4 (by decide) (by decide)
 have f8 := fracT_dig 8 (by decide) (by decide)
 unfold sumT topT rowsT headT rowLn
 simp only [show (List.range 6) = [0, 1, 2, 3, 4, 5] from rfl, show knS.rd.length = 1 from rfl, show (List.range 1) = [0] from rfl, List.map_cons, List.map_nil, List.flatten_cons, List.flatten_nil]
 rw [show (numsL knS).getD 0 0 = ((2 : Nat) : Int) from rfl, show (numsL knS).getD 1 0 = ((0 : Nat) : Int) from rfl, show (numsL knS).getD 2 0 = ((0 : Nat) : Int) from rfl, show (numsL knS).getD 3 0 = ((1 : Nat) : Int) from rfl, show (numsL knS).getD 4 0 = ((0 : Nat) : Int) from rfl, show (numsL knS).getD 5 0 = ((0 : Nat) : Int) from rfl,
  show knS.ob.1 = wq ((4 : Nat) : Int) from rfl, show knS.sg.1 = wq ((4 : Nat) : Int) from rfl, show (knS.rd.getD 0 (0, false)).1 = hf1 from rfl, show (knS.sx.getD 0 (0, false)).1 = wq ((8 : Nat) : Int) from rfl, show knS.wo = ((0 : Nat) : Int) from rfl, i0, i1, i2, f4, f8, fracT_half]
 rfl
theorem kn_sz : SmSz knS := ⟨by decide +kernel, by decide +kernel, by decide +kernel, by decide +kernel⟩
end Go.Proofs.YtgcigdahjabimaaGreatDoor
namespace Go.Proofs.YtgcigdahjabimaaGreatDoor
open Go.RowKit Go.Shelf
structure Rn where
 s1 : Bool
 A1 : Option Addr
 n1 : Nat
 c1 : Nat
 s2 : Bool
 A2 : Option Addr
 n2 : Nat
 c2 : Nat
abbrev Rn.a (x : Rn) : Value := .bool x.s1
abbrev Rn.b (x : Rn) : Value := .slice x.A1 x.n1 x.c1
abbrev Rn.c (x : Rn) : Value := .bool x.s2
abbrev Rn.d (x : Rn) : Value := .slice x.A2 x.n2 x.c2
abbrev Rn.cs (x : Rn) : List Value := [x.a, x.b, x.c, x.d]
abbrev Rn.v (x : Rn) : Value := .agg #[x.a, x.b, x.c, x.d]
def rz0 : Rn := ⟨false, none, 0, 0, false, none, 0, 0⟩
def cellsQ (l : List Rn) : List Value := l.flatMap Rn.cs
theorem cellsQ_cons (a : Rn) (l : List Rn) : cellsQ (a :: l) = a.cs ++ cellsQ l := rfl
theorem cellsQ_get (l : List Rn) {j t : Nat} (hj : j < l.length) (ht : t < 4) : (cellsQ l)[j * 4 + t]? = ((l.getD j rz0).cs)[t]? := by
 induction l generalizing j with
 | nil => cases hj
 | cons a l ih =>
  rw [cellsQ_cons]
  cases j with
  | zero =>
   rw [Nat.zero_mul, Nat.zero_add, List.getElem?_append_left (by simp [Rn.cs]; omega)]
   rfl
  | succ j =>
   rw [List.getElem?_append_right (by simp [Rn.cs]; omega), show (j + 1) * 4 + t - a.cs.length = j * 4 + t by simp [Rn.cs]; omega, ih (by simpa using hj)]
   rfl
theorem cellsQ_set (l : List Rn) {j : Nat} (hj : j < l.length) (a : Rn) :
 ((((cellsQ l).set (j * 4) a.a).set (j * 4 + 1) a.b).set (j * 4 + 2) a.c).set (j * 4 + 3) a.d = cellsQ (l.set j a) := by
 induction l generalizing j with
 | nil => cases hj
 | cons b l ih =>
  cases j with
  | zero => rfl
  | succ j =>
   have h := ih (j := j) (by simpa using hj)
   rw [show (b :: l).set (j + 1) a = b :: l.set j a from rfl, cellsQ_cons, cellsQ_cons, ← h]
   rw [List.set_append_right _ _ (by simp [Rn.cs]; omega), List.set_append_right _ _ (by simp [Rn.cs]; omega), List.set_append_right _ _ (by simp [Rn.cs]; omega), List.set_append_right _ _ (by simp [Rn.cs]; omega)]
   simp only [Rn.cs, List.length_cons, List.length_nil]
   rw [show (j + 1) * 4 - (0 + 1 + 1 + 1 + 1) = j * 4 by omega, show (j + 1) * 4 + 1 - (0 + 1 + 1 + 1 + 1) = j * 4 + 1 by omega, show (j + 1) * 4 + 2 - (0 + 1 + 1 + 1 + 1) = j * 4 + 2 by omega, show (j + 1) * 4 + 3 - (0 + 1 + 1 + 1 + 1) = j * 4 + 3 by omega]
theorem cellsQ_no (l : List Rn) : (cellsQ l).all noU32 = true := by
 induction l with
 | nil => rfl
 | cons a l ih => rw [cellsQ_cons, List.all_append, ih]; rfl
theorem all_set {vs : List Value} (h : vs.all noU32 = true) {u : Value} (hu : noU32 u = true) (i : Nat) : (vs.set i u).all noU32 = true := by
 rw [List.all_eq_true] at h ⊢
 intro x hx
 rcases List.mem_or_eq_of_mem_set hx with hx | rfl
 ·exact h x hx
 ·exact hu
theorem St.putR {w0 w : World} {bs : List Bx} {ps : List (World → Prop)} (S : St w0 w bs ps) (i k : Nat) {B : Nat} {t : TypeId} {l : List Rn} (hi : bs[i]? = some (B, t, cellsQ l)) (hk : k < l.length) (a : Rn) :
 St w0 ((((w.setCell ⟨B, k * 4, none⟩ a.a).setCell ⟨B, k * 4 + 1, none⟩ a.b).setCell ⟨B, k * 4 + 2, none⟩ a.c).setCell ⟨B, k * 4 + 3, none⟩ a.d) (bs.set i (B, t, cellsQ (l.set k a))) ps := by
 have hlt := (List.getElem?_eq_some_iff.1 hi).1
 have n0 := cellsQ_no l
 have n1 := all_set n0 (u := a.a) rfl (k * 4)
 have n2 := all_set n1 (u := a.b) rfl (k * 4 + 1)
 have n3 := all_set n2 (u := a.c) rfl (k * 4 + 2)
 have S1 := S.put i (k * 4) hi n0 a.a
 have h1 := (List.getElem?_set_self hlt : (bs.set i (B, t, (cellsQ l).set (k * 4) a.a))[i]? = _)
 have S2 := S1.put i (k * 4 + 1) h1 n1 a.b
 rw [List.set_set] at S2
 have h2 := (List.getElem?_set_self hlt : (bs.set i (B, t, ((cellsQ l).set (k * 4) a.a).set (k * 4 + 1) a.b))[i]? = _)
 have S3 := S2.put i (k * 4 + 2) h2 n2 a.c
 rw [List.set_set] at S3
 have h3 := (List.getElem?_set_self hlt : (bs.set i (B, t, (((cellsQ l).set (k * 4) a.a).set (k * 4 + 1) a.b).set (k * 4 + 2) a.c))[i]? = _)
 have S4 := S3.put i (k * 4 + 3) h3 n3 a.d
 rw [List.set_set, cellsQ_set l hk a] at S4
 exact S4
theorem St.cR {w0 w : World} {bs : List Bx} {ps : List (World → Prop)} (S : St w0 w bs ps) (i k : Nat) {B : Nat} {t : TypeId} {l : List Rn} (hi : bs[i]? = some (B, t, cellsQ l)) (hk : k < l.length) :
 w.cell? ⟨B, k * 4, none⟩ = some (l.getD k rz0).a ∧ w.cell? ⟨B, k * 4 + 1, none⟩ = some (l.getD k rz0).b ∧ w.cell? ⟨B, k * 4 + 2, none⟩ = some (l.getD k rz0).c ∧ w.cell? ⟨B, k * 4 + 3, none⟩ = some (l.getD k rz0).d :=
 ⟨S.c i (k * 4) hi ((cellsQ_get l hk (show 0 < 4 by decide)).trans rfl), S.c i (k * 4 + 1) hi ((cellsQ_get l hk (show 1 < 4 by decide)).trans rfl), S.c i (k * 4 + 2) hi ((cellsQ_get l hk (show 2 < 4 by decide)).trans rfl), S.c i (k * 4 + 3) hi ((cellsQ_get l hk (show 3 < 4 by decide)).trans rfl)⟩
def SumF (l : List Rn) (f : Nat → Rat) (w : World) : Prop := ∀ k, k < l.length → RatRep w (l.getD k rz0).v (f k)
theorem SumF.stab (l : List Rn) (f : Nat → Rat) : Stab (SumF l f) := fun _ _ hs h k hk => (h k hk).map hs
theorem St.addF {w0 w : World} {bs : List Bx} {ps : List (World → Prop)} (S : St w0 w bs ps) {l : List Rn} {f : Nat → Rat} (h : SumF l f w) : St w0 w bs (SumF l f :: ps) := S.add (SumF.stab l f) h
theorem St.fi {w0 w : World} {bs : List Bx} {ps : List (World → Prop)} (S : St w0 w bs ps) (i : Nat) {l : List Rn} {f : Nat → Rat} (h : ps[i]? = some (SumF l f)) : SumF l f w := S.p.get h
theorem SumF.set {l : List Rn} {f : Nat → Rat} {w : World} (h : SumF l f w) {k : Nat} {a : Rn} {q : Rat} (ha : RatRep w a.v q) : SumF (l.set k a) (fun j => if j = k then q else f j) w := fun j hj => by
 rw [List.length_set] at hj
 by_cases e : j = k
 ·subst e
  have : (l.set j a).getD j rz0 = a := by simp [List.getD, hj]
  rw [this]
  show RatRep w a.v (if j = j then q else f j)
  rw [if_pos rfl]
  exact ha
 ·have : (l.set k a).getD j rz0 = l.getD j rz0 := by simp only [List.getD, List.getElem?_set]; rw [if_neg (fun h => e h.symm)]
  rw [this]
  show RatRep w (l.getD j rz0).v (if j = k then q else f j)
  rw [if_neg e]
  exact h j hj
theorem SumF.congr {l : List Rn} {f g : Nat → Rat} {w : World} (h : SumF l f w) (e : ∀ k, k < l.length → f k = g k) : SumF l g w := fun k hk => e k hk ▸ h k hk
def setL (vs : List Value) : Nat → List Value → List Value
 | _, [] => vs
 | j, u :: us => setL (vs.set j u) (j + 1) us
def putL (w : World) (B : Nat) : Nat → List Value → World
 | _, [] => w
 | j, u :: us => putL (w.setCell ⟨B, j, none⟩ u) B (j + 1) us
theorem St.putL {w0 : World} {ps : List (World → Prop)} {B : Nat} {t : TypeId} {i : Nat} : ∀ (us : List Value) {w : World} {bs : List Bx} (vs : List Value) (j : Nat), St w0 w bs ps → bs[i]? = some (B, t, vs) → vs.all noU32 = true → us.all noU32 = true → St w0 (putL w B j us) (bs.set i (B, t, setL vs j us)) ps
 | [], w, bs, vs, j, S, hi, _, _ => by
  have : bs.set i (B, t, vs) = bs := by
   apply List.ext_getElem?
   intro m
   rw [List.getElem?_set]
   split
   ·rename_i h; subst h
    rw [if_pos (List.getElem?_eq_some_iff.1 hi).1, hi]
   ·rfl
  show St w0 w (bs.set i (B, t, vs)) ps
  rw [this]
  exact S
 | u :: us, w, bs, vs, j, S, hi, hv, hu => by
  simp only [List.all_cons, Bool.and_eq_true] at hu
  have h := St.putL us (vs.set j u) (j + 1) (S.put i j hi hv u) (List.getElem?_set_self (List.getElem?_eq_some_iff.1 hi).1) (all_set hv hu.1 j) hu.2
  rw [List.set_set] at h
  exact h
abbrev zr12 : List Value := [.bool false, .slice none 0 0, .bool false, .slice none 0 0, .bool false, .slice none 0 0, .bool false, .slice none 0 0, .bool false, .slice none 0 0, .bool false, .slice none 0 0]
theorem setL12 {u0 u1 u2 u3 u4 u5 u6 u7 u8 u9 u10 u11 : Value} : ∀ {vs : List Value}, vs.length = 12 → setL vs 0 [u0, u1, u2, u3, u4, u5, u6, u7, u8, u9, u10, u11] = [u0, u1, u2, u3, u4, u5, u6, u7, u8, u9, u10, u11]
 | [_, _, _, _, _, _, _, _, _, _, _, _], _ => rfl
theorem St.put12 {w0 w : World} {ps : List (World → Prop)} {bs : List Bx} (S : St w0 w bs ps) (i : Nat) {B : Nat} {t : TypeId} {vs : List Value} (hi : bs[i]? = some (B, t, vs)) (hl : vs.length = 12) (hv : vs.all noU32 = true) (u0 u1 u2 u3 u4 u5 u6 u7 u8 u9 u10 u11 : Value) (hu : [u0, u1, u2, u3, u4, u5, u6, u7, u8, u9, u10, u11].all noU32 = true) :
 St w0 ((((((((((((w.setCell ⟨B, 0, none⟩ u0).setCell ⟨B, 1, none⟩ u1).setCell ⟨B, 2, none⟩ u2).setCell ⟨B, 3, none⟩ u3).setCell ⟨B, 4, none⟩ u4).setCell ⟨B, 5, none⟩ u5).setCell ⟨B, 6, none⟩ u6).setCell ⟨B, 7, none⟩ u7).setCell ⟨B, 8, none⟩ u8).setCell ⟨B, 9, none⟩ u9).setCell ⟨B, 10, none⟩ u10).setCell ⟨B, 11, none⟩ u11) (bs.set i (B, t, [u0, u1, u2, u3, u4, u5, u6, u7, u8, u9, u10, u11])) ps := by
 have h := St.putL [u0, u1, u2, u3, u4, u5, u6, u7, u8, u9, u10, u11] vs 0 S hi hv hu
 rw [setL12 hl] at h
 exact h
theorem three_row {w : World} {g : Nat} {t : TypeId} {c0 c1 c2 c3 c4 c5 c6 c7 c8 c9 c10 c11 : Value} {x y z : QV} (hO : Own w g t [c0, c1, c2, c3, c4, c5, c6, c7, c8, c9, c10, c11]) (h1 : RatV2 w (.agg #[c0, c1, c2, c3]) x) (h2 : RatV2 w (.agg #[c4, c5, c6, c7]) y) (h3 : RatV2 w (.agg #[c8, c9, c10, c11]) z) : Row4 RatV2 w (some ⟨g, 0, none⟩) [x, y, z] := fun j u hj => by
 match j, hj with
 | 0, hj =>
  obtain rfl : x = u := by simpa using hj
  exact ⟨g, 0, c0, c1, c2, c3, rfl, ⟨(hO.cell _).trans rfl, (hO.cell _).trans rfl, (hO.cell _).trans rfl, (hO.cell _).trans rfl⟩, h1⟩
 | 1, hj =>
  obtain rfl : y = u := by simpa using hj
  exact ⟨g, 0, c4, c5, c6, c7, rfl, ⟨(hO.cell _).trans rfl, (hO.cell _).trans rfl, (hO.cell _).trans rfl, (hO.cell _).trans rfl⟩, h2⟩
 | 2, hj =>
  obtain rfl : z = u := by simpa using hj
  exact ⟨g, 0, c8, c9, c10, c11, rfl, ⟨(hO.cell _).trans rfl, (hO.cell _).trans rfl, (hO.cell _).trans rfl, (hO.cell _).trans rfl⟩, h3⟩
 | j + 3, hj => simp at hj
theorem get3 {w : World} {A : Option Addr} {l : List QV} (hr : Row4 RatV2 w A l) {i : Nat} (hi : 3 * i + 2 < l.length) : ∃ B o x y z c0 c1 c2 c3 c4 c5 c6 c7 c8 c9 c10 c11, A = some ⟨B, o, none⟩ ∧ l[3 * i]? = some x ∧ l[3 * i + 1]? = some y ∧ l[3 * i + 2]? = some z ∧
 (∀ W, Keeps w W → W.cell? ⟨B, o + i * 12, none⟩ = some c0 ∧ W.cell? ⟨B, o + i * 12 + 1, none⟩ = some c1 ∧ W.cell? ⟨B, o + i * 12 + 2, none⟩ = some c2 ∧ W.cell? ⟨B, o + i * 12 + 3, none⟩ = some c3 ∧ W.cell? ⟨B, o + i * 12 + 4, none⟩ = some c4 ∧ W.cell? ⟨B, o + i * 12 + 5, none⟩ = some c5 ∧ W.cell? ⟨B, o + i * 12 + 6, none⟩ = some c6 ∧ W.cell? ⟨B, o + i * 12 + 7, none⟩ = some c7 ∧ W.cell? ⟨B, o + i * 12 + 8, none⟩ = some c8 ∧ W.cell? ⟨B, o + i * 12 + 9, none⟩ = some c9 ∧ W.cell? ⟨B, o + i * 12 + 10, none⟩ = some c10 ∧ W.cell? ⟨B, o + i * 12 + 11, none⟩ = some c11) ∧
 ∀ W, Keeps w W → RatV2 W (.agg #[c0, c1, c2, c3]) x ∧ RatV2 W (.agg #[c4, c5, c6, c7]) y ∧ RatV2 W (.agg #[c8, c9, c10, c11]) z := by
 obtain ⟨x, hx⟩ : ∃ x, l[3 * i]? = some x := ⟨_, List.getElem?_eq_getElem (by omega)⟩
 obtain ⟨y, hy⟩ : ∃ x, l[3 * i + 1]? = some x := ⟨_, List.getElem?_eq_getElem (by omega)⟩
 obtain ⟨z, hz⟩ : ∃ x, l[3 * i + 2]? = some x := ⟨_, List.getElem?_eq_getElem hi⟩
 obtain ⟨B, o, c0, c1, c2, c3, rfl, hc, hX⟩ := hr.get lasts_v hx
 obtain ⟨B1, o1, c4, c5, c6, c7, e1, hc1, hY⟩ := hr.get lasts_v hy
 obtain ⟨B2, o2, c8, c9, c10, c11, e2, hc2, hZ⟩ := hr.get lasts_v hz
 cases e1
 cases e2
 refine ⟨B, o, x, y, z, c0, c1, c2, c3, c4, c5, c6, c7, c8, c9, c10, c11, rfl, hx, hy, hz, fun W hk => ?_, fun W hk => ⟨hX W hk, hY W hk, hZ W hk⟩⟩
 obtain ⟨a0, a1, a2, a3⟩ := hc W hk
 obtain ⟨a4, a5, a6, a7⟩ := hc1 W hk
 obtain ⟨a8, a9, a10, a11⟩ := hc2 W hk
 rw [show o + 3 * i * 4 = o + i * 12 by omega] at a0 a1 a2 a3
 rw [show o + (3 * i + 1) * 4 = o + i * 12 + 4 by omega] at a4 a5 a6 a7
 rw [show o + (3 * i + 2) * 4 = o + i * 12 + 8 by omega] at a8 a9 a10 a11
 exact ⟨a0, a1, a2, a3, a4, a5, a6, a7, a8, a9, a10, a11⟩
theorem take3 {p : QV → Bool} {l : List QV} {i : Nat} {x y z : QV} (hx : l[3 * i]? = some x) (hy : l[3 * i + 1]? = some y) (hz : l[3 * i + 2]? = some z) : (l.take (3 * (i + 1))).any p = ((l.take (3 * i)).any p || [x, y, z].any p) := by
 rw [show 3 * (i + 1) = 3 * i + 1 + 1 + 1 by omega, List.take_add_one, List.take_add_one, List.take_add_one, hx, hy, hz]
 simp
set_option maxRecDepth 100000 in
theorem chk1_any (w : World) : SaysQ Tryz.prog 40 (fun x => !x.2) w := fun u _ V x hx => by
 obtain ⟨q, vb⟩ := x
 have hx2 : RatV u V q vb := hx
 obtain ⟨n1, xs, n2, ys, ⟨a0, a1, a2, a3, rfl, -⟩, -⟩ := hx
 obtain ⟨b3, A3, n3, c3, d3, B3, m3, e3, rfl, rfl, rfl, rfl⟩ := RatV2.open4 (x := (q, vb)) hx2
 have S := (St.start u).alloc 31 [.bool b3, .slice A3 n3 c3, .bool d3, .slice B3 m3 e3]
 obtain ⟨W0, hW0, S⟩ := S.pack
 have HX := Lib.hid (fvalid_v (hx2.map S.k.same32))
 obtain ⟨r0, r1, r2, r3⟩ := S.cc4 0 rfl
 clear hx2
 show Calls Tryz.prog 40 #[.agg #[.bool b3, .slice A3 n3 c3, .bool d3, .slice B3 m3 e3]] u _
 go_enter Tryz.func40, Tryz.ntmps40
 go_wp2_with fail
 refine HX.out.mono ?_
 rintro e w1 ⟨rfl, hk1⟩
 go_wp2
 go_ret
 exact ⟨rfl, S.k.trans' hk1⟩
set_option maxRecDepth 100000 in
set_option maxHeartbeats 1000000 in
theorem rk1_i {w : World} {A : Option Addr} {n c : Nat} {l : List QV} (hr : Row4 RatV2 w A l) (hn : l.length = n) (hl : n ≤ maxLen) (p : QV → Bool) (hp : SaysQ Tryz.prog 40 p w) :
 Calls Tryz.prog 84 #[.slice A n c, .func (.func 40) #[] #[]] w fun e w' => ∃ v : Int, e = .returned (.int .i64 v) ∧ decide (0 ≤ v) = l.any p ∧ Keeps w w' := by
 have hnI : (n : Int) ≤ 9223372036854775807 := by simp only [maxLen] at hl; omega
 have HP : Hid (SaysQ Tryz.prog 40 p w) := Lib.hid hp
 have HR := Lib.hid hr
 have HN := Lib.hid hn
 clear hr hp hn hl
 go_enter Tryz.func84, Tryz.ntmps84
 go_wp2
 go_loopw [8] (fun i wr => ∃ k : Nat, k ≤ n ∧ i = .int .i64 (k : Nat) ∧ Hid ((l.take k).any p = false) ∧ Keeps w wr) (fun i _ => n - (intOf i).toNat)
 case atStart => exact ⟨0, Nat.zero_le _, rfl, Lib.hid (by simp), Below.refl _ _⟩
 case round =>
  obtain ⟨k, hkd, rfl, HA, hk⟩ := hrel
  by_cases hlt : k < n
  ·have hkI : (k : Int) < (n : Int) := by omega
   have t1 : decide ((k : Int) < (n : Int)) = true := decide_eq_true hkI
   obtain ⟨x, hq⟩ : ∃ x, l[k]? = some x := ⟨_, List.getElem?_eq_getElem (by rw [HN.out]; exact hlt)⟩
   obtain ⟨B, o, x0, x1, x2, x3, rfl, hc, hx⟩ := HR.out.get lasts_v hq
   obtain ⟨b3, A3, n3, c3, d3, B3, m3, e3, rfl, rfl, rfl, rfl⟩ := (hx w bl).open4
   have HX := Lib.hid (HP.out wr hk _ x (hx wr hk))
   have HY : Hid (p x = true → l.any p = true) := Lib.hid fun h => List.any_eq_true.2 ⟨x, List.mem_of_getElem? hq, h⟩
   have HZ : Hid (p x = false → (l.take (k + 1)).any p = false) := Lib.hid fun h => by rw [List.take_add_one, List.any_append, HA.out, hq]; simpa using h
   obtain ⟨g0, g1, g2, g3⟩ := hc wr hk
   clear hc hx hq
   go_wp2_with fail
   refine HX.out.mono ?_
   rintro e w1 ⟨rfl, hk1⟩
   cases hpx : p x with
   | true =>
    have HT := Lib.hid (HY.out hpx)
    clear hpx
    go_wp2
    go_ret
    exact ⟨_, rfl, by rw [HT.out]; simp, hk.trans' hk1⟩
   | false =>
    have HT := Lib.hid (HZ.out hpx)
    clear hpx
    go_wp2
    go_roundw
    case rel => exact ⟨k + 1, by omega, by go_num, HT, hk.trans' hk1⟩
    case measure => simp [intOf]; omega
  ·have hkI : ¬ (k : Int) < (n : Int) := by omega
   have t1 : decide ((k : Int) < (n : Int)) = false := decide_eq_false hkI
   obtain rfl : k = n := by omega
   go_wp2
   go_ret
   exact ⟨_, rfl, by have := HA.out; rw [List.take_of_length_le (by rw [HN.out]; exact Nat.le_refl _)] at this; rw [this]; rfl, hk⟩
set_option maxRecDepth 100000 in
theorem rk1_c {w : World} {A : Option Addr} {n c : Nat} {l : List QV} (hr : Row4 RatV2 w A l) (hn : l.length = n) (hl : n ≤ maxLen) (p : QV → Bool) (hp : SaysQ Tryz.prog 40 p w) :
 Calls Tryz.prog 39 #[.slice A n c, .func (.func 40) #[] #[]] w fun e w' => e = .returned (.bool (l.any p)) ∧ Keeps w w' := by
 have HI := Lib.hid (rk1_i (c := c) hr hn hl p hp)
 clear hr hp hn
 go_enter Tryz.func39, Tryz.ntmps39
 go_wp2_with fail
 refine HI.out.mono ?_
 rintro e w1 ⟨v, rfl, hv, hk⟩
 have HV := Lib.hid hv
 clear hv
 go_wp2
 all_goals (go_ret; exact ⟨by rw [← HV.out]; rfl, hk⟩)
theorem RatV.rep {w : World} {V : Value} {q : Rat} (h : RatV w V q true) : RatRep w V q := by
 obtain ⟨n1, xs, n2, ys, ha, e1, e2, -⟩ := h
 rw [← e1]
 exact ha.rep e2
theorem RatRep.ratv {w : World} {V : Value} {q : Rat} (h : RatRep w V q) (hl : szR q ≤ 100000) : RatV w V q true := by
 have h0 := h
 obtain ⟨x, v, y, u, rfl, h1, h2⟩ := h0
 exact RatV.mk h1.arg h2.arg (rcnt_rep q) (rvalidB_rep q) (szR_num hl) (szR_den hl)
theorem lasts_rep : Lasts RatRep := fun _ _ _ _ hk h => h.map hk.same32
theorem RatRep.open4 {w : World} {c0 c1 c2 c3 : Value} {q : Rat} (h : RatRep w (.agg #[c0, c1, c2, c3]) q) : ∃ b A n c d B m e, c0 = .bool b ∧ c1 = .slice A n c ∧ c2 = .bool d ∧ c3 = .slice B m e := by
 obtain ⟨b, A, n, c, d, B, m, e, h⟩ := h.open_
 simp only [Value.agg.injEq, Array.mk.injEq, List.cons.injEq, and_true] at h
 exact ⟨b, A, n, c, d, B, m, e, h⟩
theorem take_eq_next {α : Type} {la lb : List α} {k : Nat} {x : α} (ha : la[k]? = some x) (hb : lb[k]? = some x) (h : la.take k = lb.take k) : la.take (k + 1) = lb.take (k + 1) := by
 rw [List.take_add_one, List.take_add_one, h, ha, hb]
set_option maxRecDepth 100000 in
set_option maxHeartbeats 1000000 in
theorem gsl_any {w : World} {A B : Option Addr} {n m ca cb : Nat} {la lb : List Rat} (ha : Row4 RatRep w A la) (hb : Row4 RatRep w B lb) (hn : la.length = n) (hm : lb.length = m) (hl : n ≤ maxLen) (hl2 : m ≤ maxLen) (za : ∀ x ∈ la, szR x ≤ 40000) (zb : ∀ x ∈ lb, szR x ≤ 40000) :
 Calls Tryz.prog 19 #[.slice A n ca, .slice B m cb] w fun e w' => e = .returned (.bool (decide (la = lb))) ∧ Keeps w w' := by
 have HA := Lib.hid ha
 have HB := Lib.hid hb
 have HN := Lib.hid hn
 have HM := Lib.hid hm
 have ZA := Lib.hid za
 have ZB := Lib.hid zb
 have hnI : (n : Int) ≤ 9223372036854775807 := by simp only [maxLen] at hl; omega
 have hmI : (m : Int) ≤ 9223372036854775807 := by simp only [maxLen] at hl2; omega
 have S := St.start w
 clear ha hb hn hm hl hl2 za zb
 go_enter Tryz.func19, Tryz.ntmps19
 by_cases hnm : n = m
 ·subst hnm
  have t0 : ((n : Int) != (n : Int)) = false := by simp
  go_wp2
  go_loopw [5] (fun i wr => ∃ k : Nat, k ≤ n ∧ i = .int .i64 (k : Nat) ∧ Hid (la.take k = lb.take k) ∧ St w wr [] []) (fun i _ => n - (intOf i).toNat)
  case atStart => exact ⟨0, Nat.zero_le _, rfl, Lib.hid rfl, S⟩
  case round =>
   clear S
   obtain ⟨k, hk, rfl, HT, S⟩ := hrel
   by_cases hlt : k < n
   ·have hkI : (k : Int) < (n : Int) := by omega
    have tk : decide ((k : Int) < (n : Int)) = true := decide_eq_true hkI
    obtain ⟨qa, hqa⟩ : ∃ x, la[k]? = some x := ⟨_, List.getElem?_eq_getElem (by rw [HN.out]; exact hlt)⟩
    obtain ⟨qb, hqb⟩ : ∃ x, lb[k]? = some x := ⟨_, List.getElem?_eq_getElem (by rw [HM.out]; exact hlt)⟩
    obtain ⟨Ba, oa, x0, x1, x2, x3, rfl, hca, hxa⟩ := HA.out.get lasts_rep hqa
    obtain ⟨Bb, ob, z0, z1, z2, z3, rfl, hcb, hxb⟩ := HB.out.get lasts_rep hqb
    obtain ⟨a1, a2, a3, a4, a5, a6, a7, a8, rfl, rfl, rfl, rfl⟩ := (hxa w bl).open4
    obtain ⟨b1, b2, b3, b4, b5, b6, b7, b8, rfl, rfl, rfl, rfl⟩ := (hxb w bl).open4
    have HCA := Lib.hid hca
    have HCB := Lib.hid hcb
    have za := ZA.out _ (List.mem_of_getElem? hqa)
    have zb := ZB.out _ (List.mem_of_getElem? hqb)
    have HNE : Hid (¬ qa = qb → la ≠ lb) := Lib.hid fun h e => h (by subst e; rw [hqa] at hqb; exact Option.some.inj hqb)
    have HEQ : Hid (qa = qb → la.take (k + 1) = lb.take (k + 1)) := Lib.hid fun h => by subst h; exact take_eq_next hqa hqb HT.out
    obtain ⟨bq, hbq⟩ : ∃ b, decide (qa = qb) = b := ⟨_, rfl⟩
    have HBQ := Lib.hid hbq
    replace S := (S.addQ (hxb wr S.k)).addQ (hxa wr S.k)
    clear hqa hqb hca hcb hxa hxb hbq HT
    go_upto_region 6 with fail
    go_upto_region 6 with fail
    refine wp_region_steps (m := 9) rfl (by kernel_rfl) (fun iF vF wF => (List.getD [ve (.slice (some ⟨Ba, oa, none⟩) n ca), ve (.int .i64 (k : Int)), ve (.pointer (some ⟨Ba, oa + k * 4, none⟩)), ve (.agg #[.bool a1, .slice a2 a3 a4, .bool a5, .slice a6 a7 a8]), ve (.slice (some ⟨Bb, ob, none⟩) n cb), ve (.int .i64 (k : Int)), ve (.pointer (some ⟨Bb, ob + k * 4, none⟩)), ve (.agg #[.bool b1, .slice b2 b3 b4, .bool b5, .slice b6 b7 b8]), ve (.bool bq)] iF (fun _ _ => True)) vF wF) [] ?_ ?_ ?_
    ·intro i v w w' _ h hk
     refine stabL_get ?_ i v w w' h hk
     exact stab_cons st_e (stab_cons st_e (stab_cons st_e (stab_cons st_e (stab_cons st_e (stab_cons st_e (stab_cons st_e (stab_cons st_e (stab_cons st_e stab_nil))))))))
    ·intro i hi vs w3 hk3 hd
     have S3 := S.drew.below hk3
     obtain ⟨g0, g1, g2, g3⟩ := HCA.out _ S3.k
     obtain ⟨y0, y1, y2, y3⟩ := HCB.out _ S3.k
     match i, hi with
     | 0, _ =>
      refine sv0 [] (ve (.slice (some ⟨Ba, oa, none⟩) n ca)) rfl fun K hK => ?_; clear hd; simp only [frD] at hK ⊢; go_simp
      exact hK _ _ bl rfl
     | 1, _ =>
      refine sv0 [] (ve (.int .i64 (k : Int))) rfl fun K hK => ?_; clear hd; simp only [frD] at hK ⊢; go_simp
      exact hK _ _ bl rfl
     | 2, _ =>
      have qe0 : (vs 0) = .slice (some ⟨Ba, oa, none⟩) n ca := hdk hd 0; have qe1 : (vs 1) = .int .i64 (k : Int) := hdk hd 1
      refine sv0 [(0, some 17), (1, some 18)] (ve (.pointer (some ⟨Ba, oa + k * 4, none⟩))) rfl fun K hK => ?_; clear hd; simp only [frD, qe0, qe1] at hK ⊢; go_simp
      exact hK _ _ bl rfl
     | 3, _ =>
      have qe2 : (vs 2) = .pointer (some ⟨Ba, oa + k * 4, none⟩) := hdk hd 2
      refine sv0 [(2, some 19)] (ve (.agg #[.bool a1, .slice a2 a3 a4, .bool a5, .slice a6 a7 a8])) rfl fun K hK => ?_; clear hd; simp only [frD, qe2] at hK ⊢; go_simp
      exact hK _ _ bl rfl
     | 4, _ =>
      refine sv0 [] (ve (.slice (some ⟨Bb, ob, none⟩) n cb)) rfl fun K hK => ?_; clear hd; simp only [frD] at hK ⊢; go_simp
      exact hK _ _ bl rfl
     | 5, _ =>
      refine sv0 [] (ve (.int .i64 (k : Int))) rfl fun K hK => ?_; clear hd; simp only [frD] at hK ⊢; go_simp
      exact hK _ _ bl rfl
     | 6, _ =>
      have qe4 : (vs 4) = .slice (some ⟨Bb, ob, none⟩) n cb := hdk hd 4; have qe5 : (vs 5) = .int .i64 (k : Int) := hdk hd 5
      refine sv0 [(4, some 21), (5, some 22)] (ve (.pointer (some ⟨Bb, ob + k * 4, none⟩))) rfl fun K hK => ?_; clear hd; simp only [frD, qe4, qe5] at hK ⊢; go_simp
      exact hK _ _ bl rfl
     | 7, _ =>
      have qe6 : (vs 6) = .pointer (some ⟨Bb, ob + k * 4, none⟩) := hdk hd 6
      refine sv0 [(6, some 23)] (ve (.agg #[.bool b1, .slice b2 b3 b4, .bool b5, .slice b6 b7 b8])) rfl fun K hK => ?_; clear hd; simp only [frD, qe6] at hK ⊢; go_simp
      exact hK _ _ bl rfl
     | 8, _ =>
      have qe3 : (vs 3) = .agg #[.bool a1, .slice a2 a3 a4, .bool a5, .slice a6 a7 a8] := hdk hd 3; have qe7 : (vs 7) = .agg #[.bool b1, .slice b2 b3 b4, .bool b5, .slice b6 b7 b8] := hdk hd 7
      refine sc (A := #[(vs 3), (vs 7)]) (B := #[.agg #[.bool a1, .slice a2 a3 a4, .bool a5, .slice a6 a7 a8], .agg #[.bool b1, .slice b2 b3 b4, .bool b5, .slice b6 b7 b8]]) [(3, some 20), (7, some 24)] (ve (.bool bq)) rfl (wanted_none rfl) (by rw [qe3, qe7]) Tryz.func57 ?_
      refine ((gsame_s (b := bq) (S3.qi 0 rfl) (S3.qi 1 rfl) (by omega) HBQ.out)).mono ?_; rintro e w4 ⟨rfl, hk4⟩; exact ⟨_, rfl, hk4, rfl⟩
     | i + 9, hi => exact absurd hi (by omega)
    ·intro vs W21 hk3 hΦ _
     simp only [List.drop_succ_cons, List.drop_zero]
     rw [fr_frD, show (List.range 9).map _ = [(0, some 17), (1, some 18), (2, some 19), (3, some 20), (4, some 21), (5, some 22), (6, some 23), (7, some 24), (8, some 25)] by kernel_rfl]
     have pd0 : (vs 0) = .slice (some ⟨Ba, oa, none⟩) n ca := hΦ 0 (by decide)
     have pd1 : (vs 1) = .int .i64 (k : Int) := hΦ 1 (by decide)
     have pd2 : (vs 2) = .pointer (some ⟨Ba, oa + k * 4, none⟩) := hΦ 2 (by decide)
     have pd3 : (vs 3) = .agg #[.bool a1, .slice a2 a3 a4, .bool a5, .slice a6 a7 a8] := hΦ 3 (by decide)
     have pd4 : (vs 4) = .slice (some ⟨Bb, ob, none⟩) n cb := hΦ 4 (by decide)
     have pd5 : (vs 5) = .int .i64 (k : Int) := hΦ 5 (by decide)
     have pd6 : (vs 6) = .pointer (some ⟨Bb, ob + k * 4, none⟩) := hΦ 6 (by decide)
     have pd7 : (vs 7) = .agg #[.bool b1, .slice b2 b3 b4, .bool b5, .slice b6 b7 b8] := hΦ 7 (by decide)
     have pd8 : (vs 8) = .bool bq := hΦ 8 (by decide)
     clear hΦ
     simp only [frD, pd0, pd1, pd2, pd3, pd4, pd5, pd6, pd7, pd8]
     simp only [Act.put, List.setIfInBounds_toArray, List.set_cons_zero, List.set_cons_succ]
     clear pd0 pd1 pd2 pd3 pd4 pd5 pd6 pd7 pd8
     replace S := S.drew.below hk3
     clear hk3
     rcases Bool.eq_false_or_eq_true (bq) with rfl | rfl
     ·skip
      go_wp2
      have HN2 := Lib.hid (HEQ.out (of_decide_eq_true HBQ.out))
      go_roundw
      case rel => exact ⟨k + 1, by omega, by go_num, HN2, S.onlyL⟩
      case measure => simp [intOf]; omega
     ·skip
      go_wp2
      go_ret
      have hne : decide (la = lb) = false := decide_eq_false fun h => by
       have h1 := HNE.out (of_decide_eq_false HBQ.out)
       exact h1 h
      exact ⟨by rw [hne]; rfl, S.k⟩
   ·have hkI : ¬ (k : Int) < (n : Int) := by omega
    have tk : decide ((k : Int) < (n : Int)) = false := decide_eq_false hkI
    obtain rfl : k = n := by omega
    have HE : Hid (decide (la = lb) = true) := Lib.hid (decide_eq_true (by
     have := HT.out
     rwa [List.take_of_length_le (by rw [HN.out]; exact Nat.le_refl _), List.take_of_length_le (by rw [HM.out]; exact Nat.le_refl _)] at this))
    go_wp2
    go_ret
    exact ⟨by rw [HE.out]; rfl, S.k⟩
 ·have t0 : ((n : Int) != (m : Int)) = true := by simp; omega
  have HE : Hid (decide (la = lb) = false) := Lib.hid (decide_eq_false fun h => hnm (by rw [← HN.out, ← HM.out, h]))
  go_wp2
  go_ret
  exact ⟨by rw [HE.out]; rfl, S.k⟩
theorem equalI_any {w : World} {A B : Option Addr} {xs ys : List Int} {n m c d : Nat} (hA : IRow w A xs) (hB : IRow w B ys) (hn : n = xs.length) (hm : m = ys.length) (hl : xs.length ≤ maxLen) (hl' : ys.length ≤ maxLen) :
 Calls Tryz.prog 26 #[.slice A n c, .slice B m d] w fun e w' => e = .returned (.bool (decide (xs = ys))) ∧ Keeps w w' := by
 subst hn hm
 simp only [maxLen] at hl hl'
 by_cases h0 : xs.length = 0
 ·obtain rfl := List.length_eq_zero_iff.1 h0
  refine (Tryz.slices_Equal_int_empty A B c ys.length d w (by omega)).mono ?_
  rintro e w' ⟨rfl, rfl⟩
  refine ⟨?_, Below.refl _ _⟩
  congr 2
  cases ys <;> simp
 ·by_cases h1 : xs.length = ys.length
  ·obtain ⟨b1, o1, rfl, -, c1⟩ := hA (by omega)
   obtain ⟨b2, o2, rfl, -, c2⟩ := hB (by omega)
   refine (Tryz.slices_Equal_int b1 o1 xs.length c b2 o2 ys.length d xs ys w (Nat.le_refl _) (Nat.le_refl _) (by omega) (by omega) c1 c2).mono ?_
   rintro e w' ⟨rfl, q, rfl⟩
   refine ⟨?_, below_drewN bl q⟩
   congr 2
   rw [List.take_length, List.take_length]
   by_cases h : xs = ys
   ·subst h; simp
   ·simp [h]
  ·refine (Tryz.slices_Equal_int_lens A B xs.length c ys.length d w h1).mono ?_
   rintro e w' ⟨rfl, rfl⟩
   refine ⟨?_, Below.refl _ _⟩
   congr 2
   exact (decide_eq_false fun h => h1 (by rw [h])).symm
theorem equalI_same {w : World} {A B : Option Addr} {xs : List Int} {n c d : Nat} (hA : IRow w A xs) (hB : IRow w B xs) (hn : n = xs.length) (hl : xs.length ≤ maxLen) :
 Calls Tryz.prog 26 #[.slice A n c, .slice B n d] w fun e w' => e = .returned (.bool true) ∧ Keeps w w' := by
 have h := equalI_any (c := c) (d := d) hA hB hn hn hl hl
 rwa [decide_eq_true rfl] at h
theorem own_irow {w : World} {g : Nat} {t : TypeId} {l : List Int} (h : Own w g t (i64s l)) : IRow w (some ⟨g, 0, none⟩) l := fun _ => ⟨g, 0, rfl, Own.lt h, fun j hj => by
 rw [Nat.zero_add, Own.cell h]
 simp [i64s, iv, hj]⟩
set_option maxRecDepth 100000 in
set_option maxHeartbeats 1000000 in
theorem lhalf_num {w : World} (n : Int) (h1 : -9223372036854775808 ≤ n) (h2 : n ≤ 9223372036854775807) : Calls Tryz.prog 36 #[.int .i64 n] w (RGives (Rat.divInt n 2) w) := by
 have S := (St.start w)
 go_enter Tryz.func36, Tryz.ntmps36
 go_wp2_with fail
 replace S := (S.alloc 31 [.bool false, .slice none 0 0, .bool false, .slice none 0 0])
 obtain ⟨W1, eW, S⟩ := S.pack
 rw [eW]
 clear eW
 refine ((rcode_eq (c' := 0) (gof_num n 2 h1 h2 (by omega) (by omega)) (by decide) rfl)).mono ?_
 rintro e W2 ⟨U2, rfl, hp, hk⟩
 rw [if_pos rfl] at hp
 obtain ⟨b3, A3, n3, c3, d3, B3, m3, e3, rfl⟩ := hp.open_
 replace S := (S.below hk).addQ hp
 clear hk hp
 go_upto_region 2 with fail
 replace S := (S.alloc 31 [.bool b3, .slice A3 n3 c3, .bool d3, .slice B3 m3 e3])
 obtain ⟨W3, eW, S⟩ := S.pack
 rw [eW]
 clear eW
 generalize W2.heap.size = P1 at *
 have r0_0 := S.c 1 0 rfl rfl
 have f0_0 := S.f 1 0 rfl
 have r0_1 := S.c 1 1 rfl rfl
 have f0_1 := S.f 1 1 rfl
 have r0_2 := S.c 1 2 rfl rfl
 have f0_2 := S.f 1 2 rfl
 have r0_3 := S.c 1 3 rfl rfl
 have f0_3 := S.f 1 3 rfl
 obtain ⟨r1_0, r1_1, r1_2, r1_3⟩ := S.cc4 0 rfl
 go_wp2
 replace S := (S.put4 1 rfl rfl rfl (x' := .bool b3) (y' := .slice A3 n3 c3) (z' := .bool d3) (u' := .slice B3 m3 e3))
 refine bodyPost_ret (v := .agg #[.bool b3, .slice A3 n3 c3, .bool d3, .slice B3 m3 e3]) (by simp [results, Tryz.results36, go_sem, S.c 1 0 rfl rfl, S.c 1 1 rfl rfl, S.c 1 2 rfl rfl, S.c 1 3 rfl rfl]) rfl ?_
 exact ⟨_, rfl, S.qi 0 rfl, S.k⟩
set_option maxRecDepth 100000 in
set_option maxHeartbeats 1000000 in
theorem lwhole_num {w : World} (n : Int) (h1 : -9223372036854775808 ≤ n) (h2 : n ≤ 9223372036854775807) : Calls Tryz.prog 14 #[.int .i64 n] w (RGives ((n : Int) : Rat) w) := by
 have y0 := szR_int n
 have S := (St.start w)
 go_enter Tryz.func14, Tryz.ntmps14
 go_wp2_with fail
 replace S := (S.alloc 31 [.bool false, .slice none 0 0, .bool false, .slice none 0 0])
 obtain ⟨W1, eW, S⟩ := S.pack
 rw [eW]
 clear eW
 refine ((gwhole_num n h1 h2)).mono ?_
 rintro e W2 ⟨U2, rfl, hp, hk⟩
 obtain ⟨b3, A3, n3, c3, d3, B3, m3, e3, rfl⟩ := hp.open_
 replace S := (S.below hk).addQ hp
 clear hk hp
 have r0_0 := S.c 0 0 rfl rfl
 have f0_0 := S.f 0 0 rfl
 have r0_1 := S.c 0 1 rfl rfl
 have f0_1 := S.f 0 1 rfl
 have r0_2 := S.c 0 2 rfl rfl
 have f0_2 := S.f 0 2 rfl
 have r0_3 := S.c 0 3 rfl rfl
 have f0_3 := S.f 0 3 rfl
 go_wp2
 replace S := (S.put4 0 rfl rfl rfl (x' := .bool b3) (y' := .slice A3 n3 c3) (z' := .bool d3) (u' := .slice B3 m3 e3))
 refine bodyPost_ret (v := .agg #[.bool b3, .slice A3 n3 c3, .bool d3, .slice B3 m3 e3]) (by simp [results, Tryz.results14, go_sem, S.c 0 0 rfl rfl, S.c 0 1 rfl rfl, S.c 0 2 rfl rfl, S.c 0 3 rfl rfl]) rfl ?_
 exact ⟨_, rfl, S.qi 0 rfl, S.k⟩
end Go.Proofs.YtgcigdahjabimaaGreatDoor
