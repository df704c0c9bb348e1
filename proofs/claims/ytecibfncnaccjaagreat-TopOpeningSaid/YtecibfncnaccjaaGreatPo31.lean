/- The insertion sort of fractions: the walk. -/
import Derived.Test.YtecibfncnaccjaaGreatPo28
import Derived.RegionTactic
import Derived.BigRegion
namespace Go.Proofs.YtecibfncnaccjaaGreat
open Go.RowKit Go.Shelf
def vs4aΦ (Vs Fv Lj Li : Value) (PJ PI : Addr) (j ii : Nat) (q : Int) (B : Bool) : Nat → Value → World → Prop
 | 0, v, _ => v = .int .i64 (j : Nat)
 | 1, v, _ => v = .int .i64 0
 | 2, v, _ => v = .bool true
 | 3, v, _ => v = .bool true
 | 4, v, _ => v = Fv
 | 5, v, _ => v = Vs
 | 6, v, _ => v = .int .i64 (j : Nat)
 | 7, v, _ => v = .pointer (some PJ)
 | 8, v, _ => v = Lj
 | 9, v, _ => v = Vs
 | 10, v, _ => v = .int .i64 (j : Nat)
 | 11, v, _ => v = .int .i64 (ii : Nat)
 | 12, v, _ => v = .pointer (some PI)
 | 13, v, _ => v = Li
 | 14, v, _ => v = .int .i64 q
 | 15, v, _ => v = .bool B
 | 16, v, _ => v = .bool B
 | _, _, _ => True
def vs4bΦ  : Nat → Value → World → Prop
 | 0, v, _ => v = .int .i64 0
 | 1, v, _ => v = .int .i64 0
 | 2, v, _ => v = .bool false
 | 3, v, _ => v = .bool false
 | 4, v, _ => v = undef
 | 5, v, _ => v = undef
 | 6, v, _ => v = undef
 | 7, v, _ => v = undef
 | 8, v, _ => v = undef
 | 9, v, _ => v = undef
 | 10, v, _ => v = undef
 | 11, v, _ => v = undef
 | 12, v, _ => v = undef
 | 13, v, _ => v = undef
 | 14, v, _ => v = undef
 | 15, v, _ => v = undef
 | 16, v, _ => v = .bool false
 | _, _, _ => True
structure Rn where
 q : Rat
 s1 : Bool
 A1 : Option Addr
 n1 : Nat
 c1 : Nat
 s2 : Bool
 A2 : Option Addr
 n2 : Nat
 c2 : Nat
abbrev Rn.a (x : Rn) : Value := .bool x.s1
abbrev Rn.b (x : Rn) : Value := .slice x.A1 x.n1 x.c1
abbrev Rn.c (x : Rn) : Value := .bool x.s2
abbrev Rn.d (x : Rn) : Value := .slice x.A2 x.n2 x.c2
def Rn.cs (x : Rn) : List Value := [x.a, x.b, x.c, x.d]
def Rn.v (x : Rn) : Value := .agg #[x.a, x.b, x.c, x.d]
def rz0 : Rn := ⟨0, false, none, 0, 0, false, none, 0, 0⟩
def cellsQ (l : List Rn) : List Value := l.flatMap Rn.cs
theorem cellsQ_cons (a : Rn) (l : List Rn) : cellsQ (a :: l) = a.cs ++ cellsQ l := rfl
theorem cellsQ_get (l : List Rn) {j t : Nat} (hj : j < l.length) (ht : t < 4) : (cellsQ l)[j * 4 + t]? = ((l.getD j rz0).cs)[t]? := by
 induction l generalizing j with
 | nil => cases hj
 | cons a l ih =>
  rw [cellsQ_cons]
  cases j with
  | zero =>
   rw [Nat.zero_mul, Nat.zero_add, List.getElem?_append_left (by simp [Rn.cs]; omega)]
   rfl
  | succ j =>
   rw [List.getElem?_append_right (by simp [Rn.cs]; omega), show (j + 1) * 4 + t - a.cs.length = j * 4 + t by simp [Rn.cs]; omega, ih (by simpa using hj)]
   rfl
theorem cellsQ_set (l : List Rn) {j : Nat} (hj : j < l.length) (a : Rn) :
 ((((cellsQ l).set (j * 4) a.a).set (j * 4 + 1) a.b).set (j * 4 + 2) a.c).set (j * 4 + 3) a.d = cellsQ (l.set j a) := by
 induction l generalizing j with
 | nil => cases hj
 | cons b l ih =>
  cases j with
  | zero => rfl
  | succ j =>
   have h := ih (j := j) (by simpa using hj)
   rw [show (b :: l).set (j + 1) a = b :: l.set j a from rfl, cellsQ_cons, cellsQ_cons, ← h]
   rw [List.set_append_right _ _ (by simp [Rn.cs]; omega), List.set_append_right _ _ (by simp [Rn.cs]; omega), List.set_append_right _ _ (by simp [Rn.cs]; omega), List.set_append_right _ _ (by simp [Rn.cs]; omega)]
   simp only [Rn.cs, List.length_cons, List.length_nil]
   rw [show (j + 1) * 4 - (0 + 1 + 1 + 1 + 1) = j * 4 by omega, show (j + 1) * 4 + 1 - (0 + 1 + 1 + 1 + 1) = j * 4 + 1 by omega, show (j + 1) * 4 + 2 - (0 + 1 + 1 + 1 + 1) = j * 4 + 2 by omega, show (j + 1) * 4 + 3 - (0 + 1 + 1 + 1 + 1) = j * 4 + 3 by omega]
def bubQ : Nat → List Rn → List Rn
 | 0, l => l
 | j + 1, l => if (l.getD (j + 1) rz0).q < (l.getD j rz0).q then bubQ j ((l.set (j + 1) (l.getD j rz0)).set j (l.getD (j + 1) rz0)) else l
def srtQ : Nat → List Rn → List Rn
 | 0, l => l
 | k + 1, l => bubQ k (srtQ k l)
theorem bubQ_length : ∀ (j : Nat) (l : List Rn), (bubQ j l).length = l.length
 | 0, l => rfl
 | j + 1, l => by
  rw [bubQ]
  split
  ·rw [bubQ_length j]; simp
  ·rfl
theorem srtQ_length : ∀ (k : Nat) (l : List Rn), (srtQ k l).length = l.length
 | 0, l => rfl
 | k + 1, l => by rw [srtQ, bubQ_length, srtQ_length k l]
structure RowQ (w : World) (g : Nat) (l : List Rn) : Prop where
 o : Own w g 35 (cellsQ l)
 n : ∀ x ∈ l, RatNum w x.v x.q
 u : ∀ x ∈ l, x.cs.all noU32 = true
theorem cellsQ_no {l : List Rn} (h : ∀ x ∈ l, x.cs.all noU32 = true) : (cellsQ l).all noU32 = true := by
 induction l with
 | nil => rfl
 | cons a l ih => rw [cellsQ_cons, List.all_append, h a List.mem_cons_self, ih fun x hx => h x (List.mem_cons_of_mem _ hx)]; rfl
theorem RowQ.below {w w' : World} {g : Nat} {l : List Rn} (h : RowQ w g l) (hk : Keeps w w') : RowQ w' g l := ⟨h.o.below hk, fun x hx => (h.n x hx).below hk, h.u⟩
theorem RowQ.drew {w : World} {g : Nat} {l : List Rn} (h : RowQ w g l) : RowQ w.drew g l := ⟨Own.drew h.o, fun x hx => (h.n x hx).map (w' := w.drew) (fun _ _ h => h), h.u⟩
theorem getD_mem {l : List Rn} {j : Nat} (hj : j < l.length) : l.getD j rz0 ∈ l := by
 rw [List.getD, List.getElem?_eq_getElem hj]
 exact List.getElem_mem hj
theorem RowQ.c {w : World} {g : Nat} {l : List Rn} (h : RowQ w g l) {j : Nat} (hj : j < l.length) {a : Rn} (ha : l.getD j rz0 = a) : w.cell? ⟨g, j * 4, none⟩ = some a.a ∧ w.cell? ⟨g, j * 4 + 1, none⟩ = some a.b ∧ w.cell? ⟨g, j * 4 + 2, none⟩ = some a.c ∧ w.cell? ⟨g, j * 4 + 3, none⟩ = some a.d := by
 have h0 := cellsQ_get l hj (show 0 < 4 by decide)
 have h1 := cellsQ_get l hj (show 1 < 4 by decide)
 have h2 := cellsQ_get l hj (show 2 < 4 by decide)
 have h3 := cellsQ_get l hj (show 3 < 4 by decide)
 rw [ha] at h0 h1 h2 h3
 refine ⟨?_, ?_, ?_, ?_⟩
 ·rw [show j * 4 = j * 4 + 0 from rfl, Own.cell h.o, h0]; rfl
 ·rw [Own.cell h.o, h1]; rfl
 ·rw [Own.cell h.o, h2]; rfl
 ·rw [Own.cell h.o, h3]; rfl
theorem Own.same {w : World} {g : Nat} {t : TypeId} {vs : List Value} (h : Own w g t vs) (hv : vs.all noU32 = true) (i : Nat) (u : Value) : Same32 w (w.setCell ⟨g, i, none⟩ u) := fun _ _ hu => hu.put h hv i u
theorem Same32.trans {w w1 w' : World} (h : Same32 w w1) (h1 : Same32 w1 w') : Same32 w w' := fun v xs hu => h1 v xs (h v xs hu)
theorem Same32.drew {w w' : World} (h : Same32 w w') : Same32 w w'.drew := fun v xs hu => (show U32 w'.drew v xs from h v xs hu)
theorem all_set {vs : List Value} (h : vs.all noU32 = true) {u : Value} (hu : noU32 u = true) (i : Nat) : (vs.set i u).all noU32 = true := by
 rw [List.all_eq_true] at h ⊢
 intro x hx
 rcases List.mem_or_eq_of_mem_set hx with hx | rfl
 ·exact h x hx
 ·exact hu
theorem RowQ.set {w : World} {g : Nat} {l : List Rn} (h : RowQ w g l) {j : Nat} (hj : j < l.length) (a : Rn) (hn : RatNum w a.v a.q) (hu : a.cs.all noU32 = true) :
 RowQ ((((w.setCell ⟨g, j * 4, none⟩ a.a).setCell ⟨g, j * 4 + 1, none⟩ a.b).setCell ⟨g, j * 4 + 2, none⟩ a.c).setCell ⟨g, j * 4 + 3, none⟩ a.d) g (l.set j a) ∧
 Same32 w ((((w.setCell ⟨g, j * 4, none⟩ a.a).setCell ⟨g, j * 4 + 1, none⟩ a.b).setCell ⟨g, j * 4 + 2, none⟩ a.c).setCell ⟨g, j * 4 + 3, none⟩ a.d) := by
 have n0 := cellsQ_no h.u
 simp only [Rn.cs, List.all_cons, List.all_nil, Bool.and_true, Bool.and_eq_true] at hu
 obtain ⟨u1, u2, u3, u4⟩ := hu
 have o1 := Own.set h.o (j * 4) a.a
 have n1 := all_set n0 u1 (j * 4)
 have o2 := Own.set o1 (j * 4 + 1) a.b
 have n2 := all_set n1 u2 (j * 4 + 1)
 have o3 := Own.set o2 (j * 4 + 2) a.c
 have n3 := all_set n2 u3 (j * 4 + 2)
 have o4 := Own.set o3 (j * 4 + 3) a.d
 have hs := (((Own.same h.o n0 (j * 4) a.a).trans (Own.same o1 n1 (j * 4 + 1) a.b)).trans (Own.same o2 n2 (j * 4 + 2) a.c)).trans (Own.same o3 n3 (j * 4 + 3) a.d)
 rw [cellsQ_set l hj a] at o4
 refine ⟨⟨o4, fun x hx => ?_, fun x hx => ?_⟩, hs⟩
 ·rcases List.mem_or_eq_of_mem_set hx with hx | rfl
  ·exact (h.n x hx).map hs
  ·exact hn.map hs
 ·rcases List.mem_or_eq_of_mem_set hx with hx | rfl
  ·exact h.u x hx
  ·simp [Rn.cs, u1, u2, u3, u4]
set_option maxRecDepth 100000 in
set_option maxHeartbeats 2000000 in
theorem qins_any {w : World} {g n c m : Nat} {l : List Rn} (hr : RowQ w g l) (hn : n = l.length) (hm : m ≤ n) (hl : n ≤ 4096) :
 Calls Tryz.prog 143 #[.slice (some ⟨g, 0, none⟩) n c, .int .i64 0, .int .i64 (m : Nat), .func (.func 107) #[] #[]] w fun e w' => e = .returned (.tuple #[]) ∧ RowQ w' g (srtQ m l) ∧ Same32 w w' ∧ Turn [g] w w' := by
 have hnI : (n : Int) ≤ 4096 := by omega
 have hmI : (m : Int) ≤ n := by omega
 have HR := Lib.hid hr
 have HN := Lib.hid hn
 clear hr hn
 go_enter Tryz.func143, Tryz.ntmps143
 go_wp2
 go_loopw [8] (fun iv wr => ∃ k : Nat, 1 ≤ k ∧ (k ≤ m ∨ k = 1) ∧ iv = .int .i64 (k : Nat) ∧ Hid (RowQ wr g (srtQ k l) ∧ Same32 w wr) ∧ Turn [g] w wr) (fun i _ => 5000 - (intOf i).toNat)
 case atStart => exact ⟨1, Nat.le_refl _, .inr rfl, by first | rfl | go_num, Lib.hid ⟨HR.out, fun _ _ h => h⟩, Turn.refl w⟩
 case round =>
  clear HR
  obtain ⟨k, hk1, hkm, rfl, HRK, hkt⟩ := hrel
  have hk4 : (k : Int) ≤ 4096 := by omega
  by_cases hlt : k < m
  ·have t1 : decide ((k : Int) < (m : Int)) = true := decide_eq_true (by omega)
   have t1' : (k : Int) < m := by omega
   have HK0 : Hid (bubQ k (srtQ k l) = srtQ (k + 1) l) := Lib.hid rfl
   have HKL : Hid ((srtQ k l).length = n) := Lib.hid (by rw [srtQ_length, HN.out])
   clear hkm
   go_wp2
   go_loopw [9] (fun jv wr => ∃ (j : Nat) (L : List Rn), j ≤ k ∧ jv = .int .i64 (j : Nat) ∧ Hid (RowQ wr g L ∧ L.length = n ∧ Same32 w wr) ∧ Hid (bubQ j L = srtQ (k + 1) l) ∧ Turn [g] w wr) (fun j _ => (intOf j).toNat)
   case atStart => exact ⟨k, srtQ k l, Nat.le_refl _, rfl, Lib.hid ⟨HRK.out.1, HKL.out, HRK.out.2⟩, HK0, hkt⟩
   case round =>
    clear HRK hkt
    obtain ⟨j, L, hjk, rfl, HRL, HBU, hkt⟩ := hrel
    have hjI : (j : Int) ≤ (k : Int) := by omega
    cases j with
    | zero =>
     have HRE : Hid (RowQ wr g (srtQ (k + 1) l) ∧ Same32 w wr) := Lib.hid (by rw [← HBU.out]; exact ⟨HRL.out.1, HRL.out.2.2⟩)
     go_wp2
     refine wp_region_steps (m := 17) rfl (by kernel_rfl) (vs4bΦ ) [] ?_ ?_ ?_
     ·intro i v w w' hi h hk
      match i, hi with
      | 0, _ | 1, _ | 2, _ | 3, _ | 4, _ | 5, _ | 6, _ | 7, _ | 8, _ | 9, _ | 10, _ | 11, _ | 12, _ | 13, _ | 14, _ | 15, _ | 16, _ => exact h
      | i + 17, hi => exact absurd hi (by omega)
     ·intro i hi vs wph3 hk3 hd
      match i, hi with
      | 0, _ =>
       refine step_yes [] rfl (by kernel_rfl) fun K hK => ?_
       simp only [frD] at hK ⊢
       refine ⟨by rfl, ?_⟩
       go_simp
       exact hK _ _ ⟨Below.refl _ _, rfl, by simp⟩
      | 1, _ =>
       refine step_yes [] rfl (by kernel_rfl) fun K hK => ?_
       simp only [frD] at hK ⊢
       refine ⟨by rfl, ?_⟩
       go_simp
       exact hK _ _ ⟨Below.refl _ _, rfl, by simp⟩
      | 2, _ =>
       have e0 : vs 0 = .int .i64 0 := hd 0 (List.contains_iff_mem.1 (by kernel_rfl))
       have e1 : vs 1 = .int .i64 0 := hd 1 (List.contains_iff_mem.1 (by kernel_rfl))
       refine step_yes [(0, some 18), (1, some 19)] rfl (by kernel_rfl) fun K hK => ?_
       simp only [frD, e0, e1] at hK ⊢
       refine ⟨by rfl, ?_⟩
       go_simp
       exact hK _ _ ⟨Below.refl _ _, rfl, by simp⟩
      | 3, _ =>
       have e2 : vs 2 = .bool false := hd 2 (List.contains_iff_mem.1 (by kernel_rfl))
       refine step_yes [(2, some 20)] rfl (by kernel_rfl) fun K hK => ?_
       simp only [frD, e2] at hK ⊢
       refine ⟨by rfl, ?_⟩
       go_simp
       exact hK _ _ ⟨Below.refl _ _, rfl, by simp⟩
      | 4, _ =>
       have e3 : vs 3 = .bool false := hd 3 (List.contains_iff_mem.1 (by kernel_rfl))
       refine step_no (o := ⟨some 22, Op.move (Operand.tmp 3), 46, "zsortanyfunc.go:12", #[{ on := 3, ground := Ground.guard }], some (3, true)⟩) [(3, some 21)] (by kernel_rfl) (by kernel_rfl) (by simp only [frD, e3]; rfl) rfl (by simp)
      | 5, _ =>
       have e3 : vs 3 = .bool false := hd 3 (List.contains_iff_mem.1 (by kernel_rfl))
       refine step_no (o := ⟨some 23, Op.move (Operand.tmp 0), 101, "zsortanyfunc.go:12", #[{ on := 3, ground := Ground.guard }], some (3, true)⟩) [(3, some 21)] (by kernel_rfl) (by kernel_rfl) (by simp only [frD, e3]; rfl) rfl (by simp)
      | 6, _ =>
       have e3 : vs 3 = .bool false := hd 3 (List.contains_iff_mem.1 (by kernel_rfl))
       refine step_no (o := ⟨some 24, Op.move (Operand.tmp 9), 3, "zsortanyfunc.go:12", #[{ on := 3, ground := Ground.guard }], some (3, true)⟩) [(3, some 21)] (by kernel_rfl) (by kernel_rfl) (by simp only [frD, e3]; rfl) rfl (by simp)
      | 7, _ =>
       have e3 : vs 3 = .bool false := hd 3 (List.contains_iff_mem.1 (by kernel_rfl))
       have e5 : vs 5 = undef := hd 5 (List.contains_iff_mem.1 (by kernel_rfl))
       have e6 : vs 6 = undef := hd 6 (List.contains_iff_mem.1 (by kernel_rfl))
       refine step_no (o := ⟨some 25, Op.indexAddr 101 (Operand.tmp 23) (Operand.tmp 24), 0, "zsortanyfunc.go:12", #[{ on := 5, ground := Ground.data }, { on := 6, ground := Ground.data }, { on := 3, ground := Ground.guard }], some (3, true)⟩) [(3, some 21), (5, some 23), (6, some 24)] (by kernel_rfl) (by kernel_rfl) (by simp only [frD, e3, e5, e6]; rfl) rfl (by simp)
      | 8, _ =>
       have e3 : vs 3 = .bool false := hd 3 (List.contains_iff_mem.1 (by kernel_rfl))
       have e7 : vs 7 = undef := hd 7 (List.contains_iff_mem.1 (by kernel_rfl))
       refine step_no (o := ⟨some 26, Op.load 35 (Operand.tmp 25), 35, "zsortanyfunc.go:12", #[{ on := 7, ground := Ground.data }, { on := 3, ground := Ground.guard }], some (3, true)⟩) [(3, some 21), (7, some 25)] (by kernel_rfl) (by kernel_rfl) (by simp only [frD, e3, e7]; rfl) rfl (by simp)
      | 9, _ =>
       have e3 : vs 3 = .bool false := hd 3 (List.contains_iff_mem.1 (by kernel_rfl))
       refine step_no (o := ⟨some 27, Op.move (Operand.tmp 0), 101, "zsortanyfunc.go:12", #[{ on := 3, ground := Ground.guard }], some (3, true)⟩) [(3, some 21)] (by kernel_rfl) (by kernel_rfl) (by simp only [frD, e3]; rfl) rfl (by simp)
      | 10, _ =>
       have e3 : vs 3 = .bool false := hd 3 (List.contains_iff_mem.1 (by kernel_rfl))
       refine step_no (o := ⟨some 28, Op.move (Operand.tmp 9), 3, "zsortanyfunc.go:12", #[{ on := 3, ground := Ground.guard }], some (3, true)⟩) [(3, some 21)] (by kernel_rfl) (by kernel_rfl) (by simp only [frD, e3]; rfl) rfl (by simp)
      | 11, _ =>
       have e3 : vs 3 = .bool false := hd 3 (List.contains_iff_mem.1 (by kernel_rfl))
       have e10 : vs 10 = undef := hd 10 (List.contains_iff_mem.1 (by kernel_rfl))
       refine step_no (o := ⟨some 29, Op.binOp BinOp.sub 3 (Operand.tmp 28) (Operand.const (Value.int IntKind.i64 1)) 3, 3, "zsortanyfunc.go:12", #[{ on := 10, ground := Ground.data }, { on := 3, ground := Ground.guard }], some (3, true)⟩) [(3, some 21), (10, some 28)] (by kernel_rfl) (by kernel_rfl) (by simp only [frD, e3, e10]; rfl) rfl (by simp)
      | 12, _ =>
       have e3 : vs 3 = .bool false := hd 3 (List.contains_iff_mem.1 (by kernel_rfl))
       have e9 : vs 9 = undef := hd 9 (List.contains_iff_mem.1 (by kernel_rfl))
       have e11 : vs 11 = undef := hd 11 (List.contains_iff_mem.1 (by kernel_rfl))
       refine step_no (o := ⟨some 30, Op.indexAddr 101 (Operand.tmp 27) (Operand.tmp 29), 0, "zsortanyfunc.go:12", #[{ on := 9, ground := Ground.data }, { on := 11, ground := Ground.data }, { on := 3, ground := Ground.guard }], some (3, true)⟩) [(3, some 21), (9, some 27), (11, some 29)] (by kernel_rfl) (by kernel_rfl) (by simp only [frD, e3, e9, e11]; rfl) rfl (by simp)
      | 13, _ =>
       have e3 : vs 3 = .bool false := hd 3 (List.contains_iff_mem.1 (by kernel_rfl))
       have e12 : vs 12 = undef := hd 12 (List.contains_iff_mem.1 (by kernel_rfl))
       refine step_no (o := ⟨some 31, Op.load 35 (Operand.tmp 30), 35, "zsortanyfunc.go:12", #[{ on := 12, ground := Ground.data }, { on := 3, ground := Ground.guard }], some (3, true)⟩) [(3, some 21), (12, some 30)] (by kernel_rfl) (by kernel_rfl) (by simp only [frD, e3, e12]; rfl) rfl (by simp)
      | 14, _ =>
       have e3 : vs 3 = .bool false := hd 3 (List.contains_iff_mem.1 (by kernel_rfl))
       have e4 : vs 4 = undef := hd 4 (List.contains_iff_mem.1 (by kernel_rfl))
       have e8 : vs 8 = undef := hd 8 (List.contains_iff_mem.1 (by kernel_rfl))
       have e13 : vs 13 = undef := hd 13 (List.contains_iff_mem.1 (by kernel_rfl))
       refine step_no (o := ⟨some 32, Op.call { callee := Callee.value (Operand.tmp 22), args := #[Operand.tmp 26, Operand.tmp 31], argTypes := #[35, 35] }, 3, "zsortanyfunc.go:12", #[{ on := 4, ground := Ground.data }, { on := 8, ground := Ground.data }, { on := 13, ground := Ground.data }, { on := 3, ground := Ground.chain }, { on := 3, ground := Ground.guard }], some (3, true)⟩) [(3, some 21), (4, some 22), (8, some 26), (13, some 31)] (by kernel_rfl) (by kernel_rfl) (by simp only [frD, e3, e4, e8, e13]; rfl) rfl (by simp)
      | 15, _ =>
       have e3 : vs 3 = .bool false := hd 3 (List.contains_iff_mem.1 (by kernel_rfl))
       have e14 : vs 14 = undef := hd 14 (List.contains_iff_mem.1 (by kernel_rfl))
       refine step_no (o := ⟨some 33, Op.binOp BinOp.lss 3 (Operand.tmp 32) (Operand.const (Value.int IntKind.i64 0)) 3, 4, "zsortanyfunc.go:12", #[{ on := 14, ground := Ground.data }, { on := 3, ground := Ground.guard }], some (3, true)⟩) [(3, some 21), (14, some 32)] (by kernel_rfl) (by kernel_rfl) (by simp only [frD, e3, e14]; rfl) rfl (by simp)
      | 16, _ =>
       have e3 : vs 3 = .bool false := hd 3 (List.contains_iff_mem.1 (by kernel_rfl))
       have e15 : vs 15 = undef := hd 15 (List.contains_iff_mem.1 (by kernel_rfl))
       refine step_yes [(3, some 21), (15, some 33)] rfl (by kernel_rfl) fun K hK => ?_
       simp only [frD, e3, e15] at hK ⊢
       refine ⟨by rfl, ?_⟩
       go_simp
       exact hK _ _ ⟨Below.refl _ _, rfl, by simp⟩
      | i + 17, hi => exact absurd hi (by omega)
     ·intro vs wph3 hk3 hΦ _
      simp only [List.drop_succ_cons, List.drop_zero]
      rw [fr_frD, show (List.range 17).map _ = [(0, some 18), (1, some 19), (2, some 20), (3, some 21), (4, some 22), (5, some 23), (6, some 24), (7, some 25), (8, some 26), (9, some 27), (10, some 28), (11, some 29), (12, some 30), (13, some 31), (14, some 32), (15, some 33), (16, some 34)] by kernel_rfl]
      have ph0 := hΦ 0 (by omega)
      have ph1 := hΦ 1 (by omega)
      have ph2 := hΦ 2 (by omega)
      have ph3 := hΦ 3 (by omega)
      have ph4 := hΦ 4 (by omega)
      have ph5 := hΦ 5 (by omega)
      have ph6 := hΦ 6 (by omega)
      have ph7 := hΦ 7 (by omega)
      have ph8 := hΦ 8 (by omega)
      have ph9 := hΦ 9 (by omega)
      have ph10 := hΦ 10 (by omega)
      have ph11 := hΦ 11 (by omega)
      have ph12 := hΦ 12 (by omega)
      have ph13 := hΦ 13 (by omega)
      have ph14 := hΦ 14 (by omega)
      have ph15 := hΦ 15 (by omega)
      have ph16 := hΦ 16 (by omega)
      simp only [vs4bΦ] at ph0 ph1 ph2 ph3 ph4 ph5 ph6 ph7 ph8 ph9 ph10 ph11 ph12 ph13 ph14 ph15 ph16
      clear hΦ
      simp only [frD, ph0, ph1, ph2, ph3, ph4, ph5, ph6, ph7, ph8, ph9, ph10, ph11, ph12, ph13, ph14, ph15, ph16]
      simp only [Act.put, List.setIfInBounds_toArray, List.set_cons_zero, List.set_cons_succ]
      clear ph0
      clear ph1
      clear ph2
      clear ph3
      clear ph4
      clear ph5
      clear ph6
      clear ph7
      clear ph8
      clear ph9
      clear ph10
      clear ph11
      clear ph12
      clear ph13
      clear ph14
      clear ph15
      clear ph16
      have hk30 := Keeps.trans' (w1 := wr.drew) (Below.drew (Below.refl _ wr)) hk3
      have hkt3 := hkt.trans (Turn.of_keeps (T := [g]) hk30) (fun _ h _ => h)
      have HR3 : Hid (RowQ wph3 g (srtQ (k + 1) l) ∧ Same32 w wph3) := Lib.hid ⟨HRE.out.1.below hk30, HRE.out.2.trans hk30.same32⟩
      go_wp2
      go_roundw
      case rel => exact ⟨k + 1, by omega, .inl (by omega), by go_num, HR3, hkt3⟩
      case measure => simp [intOf]; omega
    | succ ii =>
     obtain ⟨j, hj⟩ : ∃ j, ii + 1 = j := ⟨_, rfl⟩
     have hLn := HRL.out.2.1
     have hjl : j < L.length := by omega
     have hil : ii < L.length := by omega
     have hij : (j : Int) - 1 = (ii : Int) := by omega
     have hjp : (0 : Int) < (j : Int) := by omega
     have hjn : (j : Int) < (n : Int) := by omega
     have hin : (ii : Int) < (n : Int) := by omega
     have hii4 : (ii : Int) ≤ 4096 := by omega
     have hwr : IntKind.i64.wrap (ii : Int) = (ii : Int) := by rw [IntKind.wrap_i64]; omega
     have hj4 : (j : Int) ≤ 4096 := by omega
     have hjp2 : (0 < j) = True := eq_true (by omega)
     have hcast : ((ii + 1 : Nat) : Int) = (j : Int) := by rw [hj]
     obtain ⟨⟨qa, sa, Aa, na, ca, ta, Ba, ma, ea⟩, ha⟩ : ∃ a, L.getD j rz0 = a := ⟨_, rfl⟩
     obtain ⟨⟨qb, sb, Ab, nb, cb, tb, Bb, mb, eb⟩, hb⟩ : ∃ b, L.getD ii rz0 = b := ⟨_, rfl⟩
     have hbu := HBU.out
     rw [bubQ, hj, ha, hb] at hbu
     obtain ⟨x0, x1, x2, x3⟩ := HRL.out.1.c hjl ha
     obtain ⟨y0, y1, y2, y3⟩ := HRL.out.1.c hil hb
     replace x0 : wr.cell? ⟨g, j * 4, none⟩ = some (.bool sa) := x0
     replace x1 : wr.cell? ⟨g, j * 4 + 1, none⟩ = some (.slice Aa na ca) := x1
     replace x2 : wr.cell? ⟨g, j * 4 + 2, none⟩ = some (.bool ta) := x2
     replace x3 : wr.cell? ⟨g, j * 4 + 3, none⟩ = some (.slice Ba ma ea) := x3
     replace y0 : wr.cell? ⟨g, ii * 4, none⟩ = some (.bool sb) := y0
     replace y1 : wr.cell? ⟨g, ii * 4 + 1, none⟩ = some (.slice Ab nb cb) := y1
     replace y2 : wr.cell? ⟨g, ii * 4 + 2, none⟩ = some (.bool tb) := y2
     replace y3 : wr.cell? ⟨g, ii * 4 + 3, none⟩ = some (.slice Bb mb eb) := y3
     have HNA := Lib.hid (HRL.out.1.n _ (getD_mem hjl))
     have HNB := Lib.hid (HRL.out.1.n _ (getD_mem hil))
     have HUA := Lib.hid (HRL.out.1.u _ (getD_mem hjl))
     have HUB := Lib.hid (HRL.out.1.u _ (getD_mem hil))
     rw [ha] at HNA HUA
     rw [hb] at HNB HUB
     have X3 := Lib.hid x3
     have Y3 := Lib.hid y3
     have X0 := Lib.hid x0
     have X1 := Lib.hid x1
     have X2 := Lib.hid x2
     have Y0 := Lib.hid y0
     have Y1 := Lib.hid y1
     have Y2 := Lib.hid y2
     have HGL := Lib.hid (Own.lt HRL.out.1.o)
     have HBUL := Lib.hid hbu
     have HJI := Lib.hid (And.intro hj (And.intro hjl hil))
     have HCM := Lib.hid (fun (u : World) (hk : Keeps wr u) => fcompare_num (HNA.out.below hk) (HNB.out.below hk))
     obtain ⟨q, hq⟩ : ∃ q, cmpR qa qb = q := ⟨_, rfl⟩
     have hqn := cmpR_lt qa qb
     rw [hq] at HCM hqn
     have HQN := Lib.hid hqn
     rw [hcast]
     clear ha hb hbu x0 x1 x2 x3 y0 y1 y2 y3 hj hjl hil hq hqn hcast hLn
     obtain ⟨B, hB⟩ : ∃ B, decide (q < 0) = B := ⟨_, rfl⟩
     have HB := Lib.hid hB
     go_wp2
     refine wp_region_steps (m := 17) rfl (by kernel_rfl) (vs4aΦ (.slice (some ⟨g, 0, none⟩) n c) (.func (.func 107) #[] #[]) (.agg #[.bool sa, .slice Aa na ca, .bool ta, .slice Ba ma ea]) (.agg #[.bool sb, .slice Ab nb cb, .bool tb, .slice Bb mb eb]) ⟨g, j * 4, none⟩ ⟨g, ii * 4, none⟩ j ii q B) [] ?_ ?_ ?_
     ·intro i v w w' hi h hk
      match i, hi with
      | 0, _ | 1, _ | 2, _ | 3, _ | 4, _ | 5, _ | 6, _ | 7, _ | 8, _ | 9, _ | 10, _ | 11, _ | 12, _ | 13, _ | 14, _ | 15, _ | 16, _ => exact h
      | i + 17, hi => exact absurd hi (by omega)
     ·intro i hi vs wph3 hk3 hd
      have hkq := Keeps.trans' (w1 := wr.drew) (Below.drew (Below.refl _ wr)) hk3
      have x0 := (hkq.cell (p := ⟨g, j * 4, none⟩) HGL.out).trans X0.out
      have x1 := (hkq.cell (p := ⟨g, j * 4 + 1, none⟩) HGL.out).trans X1.out
      have x2 := (hkq.cell (p := ⟨g, j * 4 + 2, none⟩) HGL.out).trans X2.out
      have x3 := (hkq.cell (p := ⟨g, j * 4 + 3, none⟩) HGL.out).trans X3.out
      have y0 := (hkq.cell (p := ⟨g, ii * 4, none⟩) HGL.out).trans Y0.out
      have y1 := (hkq.cell (p := ⟨g, ii * 4 + 1, none⟩) HGL.out).trans Y1.out
      have y2 := (hkq.cell (p := ⟨g, ii * 4 + 2, none⟩) HGL.out).trans Y2.out
      have y3 := (hkq.cell (p := ⟨g, ii * 4 + 3, none⟩) HGL.out).trans Y3.out
      match i, hi with
      | 0, _ =>
       refine step_yes [] rfl (by kernel_rfl) fun K hK => ?_
       simp only [frD] at hK ⊢
       refine ⟨by rfl, ?_⟩
       go_simp
       exact hK _ _ ⟨Below.refl _ _, rfl, by simp⟩
      | 1, _ =>
       refine step_yes [] rfl (by kernel_rfl) fun K hK => ?_
       simp only [frD] at hK ⊢
       refine ⟨by rfl, ?_⟩
       go_simp
       exact hK _ _ ⟨Below.refl _ _, rfl, by simp⟩
      | 2, _ =>
       have e0 : vs 0 = .int .i64 (j : Nat) := hd 0 (List.contains_iff_mem.1 (by kernel_rfl))
       have e1 : vs 1 = .int .i64 0 := hd 1 (List.contains_iff_mem.1 (by kernel_rfl))
       refine step_yes [(0, some 18), (1, some 19)] rfl (by kernel_rfl) fun K hK => ?_
       simp only [frD, e0, e1] at hK ⊢
       refine ⟨by rfl, ?_⟩
       go_simp
       exact hK _ _ ⟨Below.refl _ _, rfl, by simp⟩
      | 3, _ =>
       have e2 : vs 2 = .bool true := hd 2 (List.contains_iff_mem.1 (by kernel_rfl))
       refine step_yes [(2, some 20)] rfl (by kernel_rfl) fun K hK => ?_
       simp only [frD, e2] at hK ⊢
       refine ⟨by rfl, ?_⟩
       go_simp
       exact hK _ _ ⟨Below.refl _ _, rfl, by simp⟩
      | 4, _ =>
       have e3 : vs 3 = .bool true := hd 3 (List.contains_iff_mem.1 (by kernel_rfl))
       refine step_yes [(3, some 21)] rfl (by kernel_rfl) fun K hK => ?_
       simp only [frD, e3] at hK ⊢
       refine ⟨by rfl, ?_⟩
       go_simp
       exact hK _ _ ⟨Below.refl _ _, rfl, by simp⟩
      | 5, _ =>
       have e3 : vs 3 = .bool true := hd 3 (List.contains_iff_mem.1 (by kernel_rfl))
       refine step_yes [(3, some 21)] rfl (by kernel_rfl) fun K hK => ?_
       simp only [frD, e3] at hK ⊢
       refine ⟨by rfl, ?_⟩
       go_simp
       exact hK _ _ ⟨Below.refl _ _, rfl, by simp⟩
      | 6, _ =>
       have e3 : vs 3 = .bool true := hd 3 (List.contains_iff_mem.1 (by kernel_rfl))
       refine step_yes [(3, some 21)] rfl (by kernel_rfl) fun K hK => ?_
       simp only [frD, e3] at hK ⊢
       refine ⟨by rfl, ?_⟩
       go_simp
       exact hK _ _ ⟨Below.refl _ _, rfl, by simp⟩
      | 7, _ =>
       have e3 : vs 3 = .bool true := hd 3 (List.contains_iff_mem.1 (by kernel_rfl))
       have e5 : vs 5 = (.slice (some ⟨g, 0, none⟩) n c) := hd 5 (List.contains_iff_mem.1 (by kernel_rfl))
       have e6 : vs 6 = .int .i64 (j : Nat) := hd 6 (List.contains_iff_mem.1 (by kernel_rfl))
       refine step_yes [(3, some 21), (5, some 23), (6, some 24)] rfl (by kernel_rfl) fun K hK => ?_
       simp only [frD, e3, e5, e6] at hK ⊢
       refine ⟨by rfl, ?_⟩
       go_simp
       exact hK _ _ ⟨Below.refl _ _, rfl, by simp⟩
      | 8, _ =>
       have e3 : vs 3 = .bool true := hd 3 (List.contains_iff_mem.1 (by kernel_rfl))
       have e7 : vs 7 = .pointer (some (⟨g, j * 4, none⟩ : Addr)) := hd 7 (List.contains_iff_mem.1 (by kernel_rfl))
       refine step_yes [(3, some 21), (7, some 25)] rfl (by kernel_rfl) fun K hK => ?_
       simp only [frD, e3, e7] at hK ⊢
       refine ⟨by rfl, ?_⟩
       go_simp
       exact hK _ _ ⟨Below.refl _ _, rfl, by simp⟩
      | 9, _ =>
       have e3 : vs 3 = .bool true := hd 3 (List.contains_iff_mem.1 (by kernel_rfl))
       refine step_yes [(3, some 21)] rfl (by kernel_rfl) fun K hK => ?_
       simp only [frD, e3] at hK ⊢
       refine ⟨by rfl, ?_⟩
       go_simp
       exact hK _ _ ⟨Below.refl _ _, rfl, by simp⟩
      | 10, _ =>
       have e3 : vs 3 = .bool true := hd 3 (List.contains_iff_mem.1 (by kernel_rfl))
       refine step_yes [(3, some 21)] rfl (by kernel_rfl) fun K hK => ?_
       simp only [frD, e3] at hK ⊢
       refine ⟨by rfl, ?_⟩
       go_simp
       exact hK _ _ ⟨Below.refl _ _, rfl, by simp⟩
      | 11, _ =>
       have e3 : vs 3 = .bool true := hd 3 (List.contains_iff_mem.1 (by kernel_rfl))
       have e10 : vs 10 = .int .i64 (j : Nat) := hd 10 (List.contains_iff_mem.1 (by kernel_rfl))
       refine step_yes [(3, some 21), (10, some 28)] rfl (by kernel_rfl) fun K hK => ?_
       simp only [frD, e3, e10] at hK ⊢
       refine ⟨by rfl, ?_⟩
       go_simp
       exact hK _ _ ⟨Below.refl _ _, rfl, by simp⟩
      | 12, _ =>
       have e3 : vs 3 = .bool true := hd 3 (List.contains_iff_mem.1 (by kernel_rfl))
       have e9 : vs 9 = (.slice (some ⟨g, 0, none⟩) n c) := hd 9 (List.contains_iff_mem.1 (by kernel_rfl))
       have e11 : vs 11 = .int .i64 (ii : Nat) := hd 11 (List.contains_iff_mem.1 (by kernel_rfl))
       refine step_yes [(3, some 21), (9, some 27), (11, some 29)] rfl (by kernel_rfl) fun K hK => ?_
       simp only [frD, e3, e9, e11] at hK ⊢
       refine ⟨by rfl, ?_⟩
       go_simp
       exact hK _ _ ⟨Below.refl _ _, rfl, by simp⟩
      | 13, _ =>
       have e3 : vs 3 = .bool true := hd 3 (List.contains_iff_mem.1 (by kernel_rfl))
       have e12 : vs 12 = .pointer (some (⟨g, ii * 4, none⟩ : Addr)) := hd 12 (List.contains_iff_mem.1 (by kernel_rfl))
       refine step_yes [(3, some 21), (12, some 30)] rfl (by kernel_rfl) fun K hK => ?_
       simp only [frD, e3, e12] at hK ⊢
       refine ⟨by rfl, ?_⟩
       go_simp
       exact hK _ _ ⟨Below.refl _ _, rfl, by simp⟩
      | 14, _ =>
       have e3 : vs 3 = .bool true := hd 3 (List.contains_iff_mem.1 (by kernel_rfl))
       have e4 : vs 4 = (.func (.func 107) #[] #[]) := hd 4 (List.contains_iff_mem.1 (by kernel_rfl))
       have e8 : vs 8 = (.agg #[.bool sa, .slice Aa na ca, .bool ta, .slice Ba ma ea]) := hd 8 (List.contains_iff_mem.1 (by kernel_rfl))
       have e13 : vs 13 = (.agg #[.bool sb, .slice Ab nb cb, .bool tb, .slice Bb mb eb]) := hd 13 (List.contains_iff_mem.1 (by kernel_rfl))
       refine step_yes [(3, some 21), (4, some 22), (8, some 26), (13, some 31)] rfl (by kernel_rfl) fun K hK => ?_
       simp only [frD, e3, e4, e8, e13] at hK ⊢
       refine ⟨by rfl, ?_⟩
       go_simp
       refine (HCM.out _ hkq).mono ?_
       rintro e wph4 ⟨rfl, hk4⟩
       exact hK _ _ ⟨hk4, rfl, by simp⟩
      | 15, _ =>
       have e3 : vs 3 = .bool true := hd 3 (List.contains_iff_mem.1 (by kernel_rfl))
       have e14 : vs 14 = .int .i64 q := hd 14 (List.contains_iff_mem.1 (by kernel_rfl))
       refine step_yes [(3, some 21), (14, some 32)] rfl (by kernel_rfl) fun K hK => ?_
       simp only [frD, e3, e14] at hK ⊢
       refine ⟨by rfl, ?_⟩
       go_simp
       exact hK _ _ ⟨Below.refl _ _, rfl, by simp⟩
      | 16, _ =>
       have e3 : vs 3 = .bool true := hd 3 (List.contains_iff_mem.1 (by kernel_rfl))
       have e15 : vs 15 = .bool B := hd 15 (List.contains_iff_mem.1 (by kernel_rfl))
       refine step_yes [(3, some 21), (15, some 33)] rfl (by kernel_rfl) fun K hK => ?_
       simp only [frD, e3, e15] at hK ⊢
       refine ⟨by rfl, ?_⟩
       go_simp
       exact hK _ _ ⟨Below.refl _ _, rfl, by simp⟩
      | i + 17, hi => exact absurd hi (by omega)
     ·intro vs wph3 hk3 hΦ _
      simp only [List.drop_succ_cons, List.drop_zero]
      rw [fr_frD, show (List.range 17).map _ = [(0, some 18), (1, some 19), (2, some 20), (3, some 21), (4, some 22), (5, some 23), (6, some 24), (7, some 25), (8, some 26), (9, some 27), (10, some 28), (11, some 29), (12, some 30), (13, some 31), (14, some 32), (15, some 33), (16, some 34)] by kernel_rfl]
      have ph0 := hΦ 0 (by omega)
      have ph1 := hΦ 1 (by omega)
      have ph2 := hΦ 2 (by omega)
      have ph3 := hΦ 3 (by omega)
      have ph4 := hΦ 4 (by omega)
      have ph5 := hΦ 5 (by omega)
      have ph6 := hΦ 6 (by omega)
      have ph7 := hΦ 7 (by omega)
      have ph8 := hΦ 8 (by omega)
      have ph9 := hΦ 9 (by omega)
      have ph10 := hΦ 10 (by omega)
      have ph11 := hΦ 11 (by omega)
      have ph12 := hΦ 12 (by omega)
      have ph13 := hΦ 13 (by omega)
      have ph14 := hΦ 14 (by omega)
      have ph15 := hΦ 15 (by omega)
      have ph16 := hΦ 16 (by omega)
      simp only [vs4aΦ] at ph0 ph1 ph2 ph3 ph4 ph5 ph6 ph7 ph8 ph9 ph10 ph11 ph12 ph13 ph14 ph15 ph16
      clear hΦ
      simp only [frD, ph0, ph1, ph2, ph3, ph4, ph5, ph6, ph7, ph8, ph9, ph10, ph11, ph12, ph13, ph14, ph15, ph16]
      simp only [Act.put, List.setIfInBounds_toArray, List.set_cons_zero, List.set_cons_succ]
      clear ph0
      clear ph1
      clear ph2
      clear ph3
      clear ph4
      clear ph5
      clear ph6
      clear ph7
      clear ph8
      clear ph9
      clear ph10
      clear ph11
      clear ph12
      clear ph13
      clear ph14
      clear ph15
      clear ph16
      have hk30 := Keeps.trans' (w1 := wr.drew) (Below.drew (Below.refl _ wr)) hk3
      have hkt3 := hkt.trans (Turn.of_keeps (T := [g]) hk30) (fun _ h _ => h)
      have HR3 : Hid (RowQ wph3 g L ∧ Same32 w wph3) := Lib.hid ⟨HRL.out.1.below hk30, HRL.out.2.2.trans hk30.same32⟩
      clear hk3
      cases B with
      | false =>
       have hnb : ¬ qa < qb := fun h => by have := HQN.out.2 h; have h2 := HB.out; rw [decide_eq_true this] at h2; cases h2
       have HRE : Hid (RowQ wph3 g (srtQ (k + 1) l) ∧ Same32 w wph3) := Lib.hid (by have h2 := HBUL.out; rw [if_neg hnb] at h2; rw [← h2]; exact HR3.out)
       clear hnb hB
       go_wp2
       go_roundw
       case rel => exact ⟨k + 1, by omega, .inl (by omega), by go_num, HRE, hkt3⟩
       case measure => simp [intOf]; omega
      | true =>
       have hyb : qa < qb := HQN.out.1 (of_decide_eq_true HB.out)
       have HBE : Hid (bubQ ii ((L.set j ⟨qb, sb, Ab, nb, cb, tb, Bb, mb, eb⟩).set ii ⟨qa, sa, Aa, na, ca, ta, Ba, ma, ea⟩) = srtQ (k + 1) l) := Lib.hid (by have h2 := HBUL.out; rwa [if_pos hyb] at h2)
       have HGM := Lib.hid (Own.lt HR3.out.1.o)
       have XX0 := Lib.hid ((hk30.cell (p := ⟨g, j * 4, none⟩) HGL.out).trans X0.out)
       have XX1 := Lib.hid ((hk30.cell (p := ⟨g, j * 4 + 1, none⟩) HGL.out).trans X1.out)
       have XX2 := Lib.hid ((hk30.cell (p := ⟨g, j * 4 + 2, none⟩) HGL.out).trans X2.out)
       have XX3 := Lib.hid ((hk30.cell (p := ⟨g, j * 4 + 3, none⟩) HGL.out).trans X3.out)
       have YY3 := Lib.hid ((hk30.cell (p := ⟨g, ii * 4 + 3, none⟩) HGL.out).trans Y3.out)
       have YY0 := Lib.hid ((hk30.cell (p := ⟨g, ii * 4, none⟩) HGL.out).trans Y0.out)
       have YY1 := Lib.hid ((hk30.cell (p := ⟨g, ii * 4 + 1, none⟩) HGL.out).trans Y1.out)
       have YY2 := Lib.hid ((hk30.cell (p := ⟨g, ii * 4 + 2, none⟩) HGL.out).trans Y2.out)
       clear hyb hB
       go_wp2
       have hr6 : RowQ wph3 g L := HR3.out.1
       have x0 := XX0.out
       have x1 := XX1.out
       have x2 := XX2.out
       have x3 := XX3.out
       have y0 := YY0.out
       have y1 := YY1.out
       have y2 := YY2.out
       have y3 := YY3.out
       have f0 := Own.frozen hr6.o (j * 4)
       have f1 := Own.frozen hr6.o (j * 4 + 1)
       have f2 := Own.frozen hr6.o (j * 4 + 2)
       have f3 := Own.frozen hr6.o (j * 4 + 3)
       have hr7 := hr6.set (j := j) HJI.out.2.1 ⟨qb, sb, Ab, nb, cb, tb, Bb, mb, eb⟩ (HNB.out.below hk30) HUB.out
       have hr8 := hr7.1.set (j := ii) (by rw [List.length_set]; exact HJI.out.2.2) ⟨qa, sa, Aa, na, ca, ta, Ba, ma, ea⟩ ((HNA.out.below hk30).map hr7.2) HUA.out
       have e0 := Own.frozen hr7.1.o (ii * 4)
       have e1 := Own.frozen hr7.1.o (ii * 4 + 1)
       have e2 := Own.frozen hr7.1.o (ii * 4 + 2)
       have e3 := Own.frozen hr7.1.o (ii * 4 + 3)
       have HR8 := Lib.hid hr8.1
       have HS8 := Lib.hid ((HR3.out.2.trans hr7.2).trans hr8.2)
       have HLL8 : Hid (((L.set j ⟨qb, sb, Ab, nb, cb, tb, Bb, mb, eb⟩).set ii ⟨qa, sa, Aa, na, ca, ta, Ba, ma, ea⟩).length = n) := Lib.hid (by rw [List.length_set, List.length_set]; exact HRL.out.2.1)
       have HT8 := Lib.hid ((((((((hkt3.set (p := ⟨g, j * 4, none⟩) (by simp) (.bool sb)).set (p := ⟨g, j * 4 + 1, none⟩) (by simp) (.slice Ab nb cb)).set (p := ⟨g, j * 4 + 2, none⟩) (by simp) (.bool tb)).set (p := ⟨g, j * 4 + 3, none⟩) (by simp) (.slice Bb mb eb)).set (p := ⟨g, ii * 4, none⟩) (by simp) (.bool sa)).set (p := ⟨g, ii * 4 + 1, none⟩) (by simp) (.slice Aa na ca)).set (p := ⟨g, ii * 4 + 2, none⟩) (by simp) (.bool ta)).set (p := ⟨g, ii * 4 + 3, none⟩) (by simp) (.slice Ba ma ea))
       clear hr6 hr7 hr8
       go_region
       go_wp2
       go_roundw
       case rel => exact ⟨ii, (L.set j ⟨qb, sb, Ab, nb, cb, tb, Bb, mb, eb⟩).set ii ⟨qa, sa, Aa, na, ca, ta, Ba, ma, ea⟩, by omega, rfl, Lib.hid ⟨HR8.out.drew, HLL8.out, HS8.out.drew⟩, HBE, HT8.out.drew⟩
       case measure => simp [intOf]; omega
  ·have t1 : decide ((k : Int) < (m : Int)) = false := decide_eq_false (by omega)
   have t1n : (k < m) = False := eq_false hlt
   have HRE : Hid (RowQ wr g (srtQ m l) ∧ Same32 w wr) := Lib.hid (by
    rcases hkm with h | h
    ·obtain rfl : k = m := by omega
     exact HRK.out
    ·have := HRK.out
     rw [h] at this
     have hm0 : m = 0 ∨ m = 1 := by omega
     rcases hm0 with rfl | rfl
     ·exact this
     ·exact this)
   clear hkm hlt
   go_wp2
   refine bodyPost_end (results_none rfl _ _ _) rfl ?_
   exact ⟨rfl, HRE.out.1, HRE.out.2, hkt⟩
end Go.Proofs.YtecibfncnaccjaaGreat
