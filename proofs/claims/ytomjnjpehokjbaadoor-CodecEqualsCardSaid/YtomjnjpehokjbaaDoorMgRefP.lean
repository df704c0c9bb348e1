/- The reference's form, depth and bytes of a value, plainly, and what the law counts. No program in sight. The law's count of a value's parts and bytes: the walk. fiducialref12.zeroInt, formed: the walks. fiducialref12.depth: the walk. fiducialref12.short: the walk. fiducialref12.decimal: the walk. append to a row whose mark lies behind its cells: as '[]byte(s)' leaves it. fiducialref12.bytesOf: the walk. fiducialref12.bytesOf of a text: the walk. fiducialref12.bytesOf of a list, and of any value in form: the walk. fiducialref12.Check, Encode: the walks. -/
import Derived.Test.YtomjnjpehokjbaaDoorMgTr
import Derived.Test.YtomjnjpehokjbaaDoorMgNum
import Derived.Test.YtomjnjpehokjbaaDoorMgIntA
import Derived.Test.YtomjnjpehokjbaaDoorMgVIdx
import Derived.Test.YtomjnjpehokjbaaDoorMgCat
import Derived.Test.YtomjnjpehokjbaaDoorMgBytes
import Derived.Lib.BufferRead
import Derived.Lib.FrozenHead
import Derived.Lib.ConvBytes
import Derived.Test.YtomjnjpehokjbaaDoorMgWrtA
import Derived.Deep.RegionHeld3
import Derived.Test.YtomjnjpehokjbaaDoorMgRegion
namespace Go.Proofs.YtomjnjpehokjbaaDoor
open Tr

theorem Tr.lt_mk {k : Int} {n : Bool} {g : List Nat} {t : List UInt8} {l : List Tr} {x : Tr} (h : x ∈ l) : SizeOf.sizeOf x < SizeOf.sizeOf (mk k n g t l) := by
  have := List.sizeOf_lt_of_mem h
  simp only [mk.sizeOf_spec]
  omega
/-- the reference's form -/
def frmT : Tr → Bool
  | mk k n g t l => (decide (k = 0) || decide (k = 1) || decide (k = 2)) && (decide (k = 0) || noInt n g) && (decide (k = 1) || decide (t.length = 0)) && (decide (k = 2) || decide (l.length = 0)) && validB n g && l.attach.all fun x => frmT x.1
termination_by t => SizeOf.sizeOf t
decreasing_by exact Tr.lt_mk x.2
/-- how deep lists are nested -/
def depT : Tr → Nat
  | mk k _ _ _ l => if k = 2 then l.attach.foldl (fun a x => max a (depT x.1)) 0 + 1 else 0
termination_by t => SizeOf.sizeOf t
decreasing_by exact Tr.lt_mk x.2
def shoT : Tr → Bool
  | mk k n g _ l => if k = 0 then shortZ (cnt n g) else l.attach.all fun x => shoT x.1
termination_by t => SizeOf.sizeOf t
decreasing_by exact Tr.lt_mk x.2
def encT : Tr → List UInt8
  | mk k n g t l => if k = 0 then 105 :: (textL (cnt n g) ++ [59]) else if k = 1 then 116 :: (Lib.decDigits t.length ++ 58 :: t) else 108 :: (Lib.decDigits l.length ++ 58 :: (l.attach.map fun x => encT x.1).flatten)
termination_by t => SizeOf.sizeOf t
decreasing_by exact Tr.lt_mk x.2
/-- what is left of m -/
def leftT : Tr → Int → Int
  | mk _ _ g t l, m => l.attach.foldl (fun a x => if 0 ≤ a then leftT x.1 a else a) (m - (1 + min (t.length : Int) 100000 + min (g.length : Int) 100000))
termination_by t => SizeOf.sizeOf t
decreasing_by exact Tr.lt_mk x.2
/-- parts and bytes -/
def wtT : Tr → Nat
  | mk _ _ g t l => 1 + t.length + g.length + (l.attach.map fun x => wtT x.1).sum
termination_by t => SizeOf.sizeOf t
decreasing_by exact Tr.lt_mk x.2
theorem frmT_mk (k : Int) (n : Bool) (g : List Nat) (t : List UInt8) (l : List Tr) : frmT (mk k n g t l) = ((decide (k = 0) || decide (k = 1) || decide (k = 2)) && (decide (k = 0) || noInt n g) && (decide (k = 1) || decide (t.length = 0)) && (decide (k = 2) || decide (l.length = 0)) && validB n g && l.all frmT) := by
  rw [frmT]
  congr 1
  simp
theorem depT_mk (k : Int) (n : Bool) (g : List Nat) (t : List UInt8) (l : List Tr) : depT (mk k n g t l) = if k = 2 then l.foldl (fun a x => max a (depT x)) 0 + 1 else 0 := by
  rw [depT]
  rw [List.foldl_attach (f := fun a x => max a (depT x))]
theorem shoT_mk (k : Int) (n : Bool) (g : List Nat) (t : List UInt8) (l : List Tr) : shoT (mk k n g t l) = if k = 0 then shortZ (cnt n g) else l.all shoT := by
  rw [shoT]
  congr 1
  simp
theorem encT_mk (k : Int) (n : Bool) (g : List Nat) (t : List UInt8) (l : List Tr) : encT (mk k n g t l) = if k = 0 then 105 :: (textL (cnt n g) ++ [59]) else if k = 1 then 116 :: (Lib.decDigits t.length ++ 58 :: t) else 108 :: (Lib.decDigits l.length ++ 58 :: (l.map encT).flatten) := by
  rw [encT]
  have : (l.attach.map fun x => encT x.1) = l.map encT := by rw [List.attach_map_val (f := encT)]
  rw [this]
theorem leftT_mk (k : Int) (n : Bool) (g : List Nat) (t : List UInt8) (l : List Tr) (m : Int) : leftT (mk k n g t l) m = l.foldl (fun a x => if 0 ≤ a then leftT x a else a) (m - (1 + min (t.length : Int) 100000 + min (g.length : Int) 100000)) := by
  rw [leftT]
  rw [List.foldl_attach (f := fun a x => if 0 ≤ a then leftT x a else a)]
theorem wtT_mk (k : Int) (n : Bool) (g : List Nat) (t : List UInt8) (l : List Tr) : wtT (mk k n g t l) = 1 + t.length + g.length + (l.map wtT).sum := by
  rw [wtT]
  have : (l.attach.map fun x => wtT x.1) = l.map wtT := by rw [List.attach_map_val (f := wtT)]
  rw [this]
theorem maxL_le {l : List Tr} {f : Tr → Nat} {m : Nat} : ∀ a, l.foldl (fun a x => max a (f x)) a ≤ m ↔ a ≤ m ∧ ∀ x ∈ l, f x ≤ m := by
  induction l with
  | nil => intro a; simp
  | cons y r ih =>
    intro a
    rw [List.foldl_cons, ih]
    constructor
    · rintro ⟨h1, h2⟩
      exact ⟨by omega, fun x hx => by
        rcases List.mem_cons.1 hx with rfl | hx
        · omega
        · exact h2 x hx⟩
    · rintro ⟨h1, h2⟩
      have := h2 y List.mem_cons_self
      exact ⟨by omega, fun x hx => h2 x (List.mem_cons_of_mem _ hx)⟩
theorem noInt_valid {n : Bool} {g : List Nat} (h : noInt n g = true) : validB n g = true := by
  obtain ⟨rfl, rfl⟩ := noInt_iff.1 h
  rfl
theorem all_congrT {l : List Tr} {p q : Tr → Bool} (h : ∀ x ∈ l, p x = q x) : l.all p = l.all q := by
  induction l with
  | nil => rfl
  | cons a r ih => rw [List.all_cons, List.all_cons, h a List.mem_cons_self, ih fun x hx => h x (List.mem_cons_of_mem _ hx)]
theorem all_and {l : List Tr} {p q : Tr → Bool} : l.all (fun x => p x && q x) = (l.all p && l.all q) := by
  induction l with
  | nil => rfl
  | cons a r ih =>
    simp only [List.all_cons, ih]
    cases p a <;> cases q a <;> cases r.all p <;> cases r.all q <;> rfl
theorem bool_ext2 {a b : Bool} (h : a = true ↔ b = true) : a = b := by cases a <;> cases b <;> simp_all
theorem decide_all {l : List Tr} {f : Tr → Nat} {m : Nat} : decide (∀ x ∈ l, f x ≤ m) = l.all fun x => decide (f x ≤ m) := by
  induction l with
  | nil => simp
  | cons a r ih =>
    rw [List.all_cons, ← ih]
    apply bool_ext2
    simp
/-- the program's form is the reference's, with the depth -/
theorem vld_frm : ∀ (t : Tr) (d : Nat), vldD d t = (frmT t && decide (depT t ≤ d)) := by
  intro t
  induction t using Tr.ind with
  | h k n g t l ih =>
    intro d
    rw [frmT_mk, depT_mk]
    by_cases h0 : k = 0
    · subst h0
      have e : vldD d (mk 0 n g t l) = (decide (t.length = 0) && decide (l.length = 0) && validB n g) := by cases d <;> simp [vldD]
      rw [e]
      cases l with
      | nil => simp
      | cons a r => simp
    · by_cases h1 : k = 1
      · subst h1
        have e : vldD d (mk 1 n g t l) = (noInt n g && decide (l.length = 0)) := by cases d <;> simp [vldD]
        rw [e]
        cases l with
        | nil =>
          cases hn : noInt n g with
          | false => simp
          | true => simp [noInt_valid hn]
        | cons a r => simp
      · by_cases h2 : k = 2
        · subst h2
          cases hn : noInt n g with
          | false => cases d <;> simp [vldD, hn]
          | true =>
            cases d with
            | zero => simp [vldD]
            | succ d =>
              have e : vldD (d + 1) (mk 2 n g t l) = (decide (t.length = 0) && l.all (vldD d)) := by simp [vldD, hn]
              rw [e, all_congrT (fun x hx => ih x hx d), all_and, noInt_valid hn]
              have hm : decide (l.foldl (fun a x => max a (depT x)) 0 + 1 ≤ d + 1) = l.all fun x => decide (depT x ≤ d) := by
                rw [← decide_all]
                apply decide_eq_decide.2
                rw [Nat.add_le_add_iff_right, maxL_le]
                simp
              rw [if_pos rfl, hm]
              simp [Bool.and_assoc]
        · have e : vldD d (mk k n g t l) = false := by cases d <;> simp [vldD, h0, h1, h2]
          rw [e]
          simp [h0, h1, h2]
theorem vld_encsh : ∀ (t : Tr) (d : Nat), vldD d t = true → enD d t = encT t ∧ shD d t = shoT t := by
  intro t
  induction t using Tr.ind with
  | h k n g t l ih =>
    intro d hv
    rw [encT_mk, shoT_mk]
    by_cases h0 : k = 0
    · subst h0
      cases d <;> simp [enD, shD]
    · by_cases h1 : k = 1
      · subst h1
        have e : vldD d (mk 1 n g t l) = (noInt n g && decide (l.length = 0)) := by cases d <;> simp [vldD]
        rw [e] at hv
        simp only [Bool.and_eq_true, decide_eq_true_eq, List.length_eq_zero_iff] at hv
        obtain ⟨-, rfl⟩ := hv
        cases d <;> simp [enD, shD]
      · by_cases h2 : k = 2
        · subst h2
          cases d with
          | zero => simp [vldD] at hv
          | succ d =>
            have e : vldD (d + 1) (mk 2 n g t l) = (noInt n g && decide (t.length = 0) && l.all (vldD d)) := by simp [vldD]
            rw [e] at hv
            simp only [Bool.and_eq_true, List.all_eq_true] at hv
            have hm : l.map (enD d) = l.map encT := List.map_congr_left fun x hx => (ih x hx d (hv.2 x hx)).1
            have hs : l.all (shD d) = l.all shoT := all_congrT fun x hx => (ih x hx d (hv.2 x hx)).2
            simp [enD, shD, hm, hs]
        · have e : vldD d (mk k n g t l) = false := by cases d <;> simp [vldD, h0, h1, h2]
          rw [e] at hv
          cases hv
/-- the reference's code -/
theorem chkC_ref (t : Tr) : chkC t = if frmT t && decide (depT t ≤ 8) then (if shoT t && decide ((encT t).length ≤ 65536) then 0 else 9) else 1 := by
  unfold chkC
  rw [← vld_frm]
  split
  · rename_i h
    rw [(vld_encsh t 8 h).1, (vld_encsh t 8 h).2]
  · rfl
theorem sum_mem {l : List Tr} {f : Tr → Nat} {x : Tr} (h : x ∈ l) : f x ≤ (l.map f).sum := by
  induction l with
  | nil => cases h
  | cons a r ih =>
    rw [List.map_cons, List.sum_cons]
    rcases List.mem_cons.1 h with rfl | h
    · omega
    · have := ih h; omega
theorem wtT_pos (t : Tr) : 1 ≤ wtT t := by
  obtain ⟨k, n, g, t, l⟩ := t
  rw [wtT_mk]
  omega
theorem sum_len {l : List Tr} : l.length ≤ (l.map wtT).sum := by
  induction l with
  | nil => simp
  | cons a r ih =>
    have := wtT_pos a
    rw [List.map_cons, List.sum_cons, List.length_cons]
    omega
theorem depT_wt : ∀ t : Tr, depT t ≤ wtT t := by
  intro t
  induction t using Tr.ind with
  | h k n g t l ih =>
    rw [depT_mk, wtT_mk]
    split
    · have : l.foldl (fun a x => max a (depT x)) 0 ≤ (l.map wtT).sum := (maxL_le 0).2 ⟨Nat.zero_le _, fun x hx => Nat.le_trans (ih x hx) (sum_mem hx)⟩
      omega
    · omega
theorem depT_sub {k : Int} {n : Bool} {g : List Nat} {t : List UInt8} {l : List Tr} {m : Nat} (h : depT (mk k n g t l) ≤ m) (hk : k = 2) : ∀ x ∈ l, depT x ≤ m := by
  rw [depT_mk, if_pos hk] at h
  exact fun x hx => Nat.le_trans (((maxL_le 0).1 (Nat.le_of_succ_le h)).2 x hx) (by omega)
theorem leftT_low : ∀ (t : Tr) (m : Int), 0 ≤ m → -200001 ≤ leftT t m ∧ leftT t m ≤ m := by
  intro t
  induction t using Tr.ind with
  | h k n g t l ih =>
    intro m hm
    rw [leftT_mk]
    have key : ∀ (r : List Tr), (∀ x ∈ r, x ∈ l) → ∀ a : Int, -200001 ≤ a → a ≤ m → -200001 ≤ r.foldl (fun a x => if 0 ≤ a then leftT x a else a) a ∧ r.foldl (fun a x => if 0 ≤ a then leftT x a else a) a ≤ m := by
      intro r
      induction r with
      | nil => intro _ a h1 h2; exact ⟨h1, h2⟩
      | cons x r ihr =>
        intro hr a h1 h2
        rw [List.foldl_cons]
        split
        · rename_i h0
          have := ih x (hr x List.mem_cons_self) a h0
          exact ihr (fun y hy => hr y (List.mem_cons_of_mem _ hy)) _ this.1 (by omega)
        · exact ihr (fun y hy => hr y (List.mem_cons_of_mem _ hy)) _ h1 h2
    exact key l (fun x hx => hx) _ (by omega) (by omega)
theorem foldl_neg (l : List Tr) (f : Tr → Int → Int) : ∀ a : Int, a < 0 → l.foldl (fun a x => if 0 ≤ a then f x a else a) a = a := by
  induction l with
  | nil => intro a _; rfl
  | cons x r ih =>
    intro a h
    rw [List.foldl_cons, if_neg (by omega)]
    exact ih a h
/-- what is left tells the weight -/
theorem leftT_wt : ∀ (t : Tr) (m : Int), 0 ≤ m → m ≤ 400 → 0 ≤ leftT t m → leftT t m = m - wtT t := by
  intro t
  induction t using Tr.ind with
  | h k n g t l ih =>
    intro m h0 hm hl
    rw [leftT_mk] at hl ⊢
    rw [wtT_mk]
    have key : ∀ (r : List Tr), (∀ x ∈ r, x ∈ l) → ∀ a : Int, a ≤ 400 → 0 ≤ r.foldl (fun a x => if 0 ≤ a then leftT x a else a) a → 0 ≤ a ∧ r.foldl (fun a x => if 0 ≤ a then leftT x a else a) a = a - ((r.map wtT).sum : Nat) := by
      intro r
      induction r with
      | nil => intro _ a _ h; exact ⟨h, by simp⟩
      | cons x r ihr =>
        intro hr a ha h
        rw [List.foldl_cons] at h ⊢
        by_cases h0 : 0 ≤ a
        · rw [if_pos h0] at h ⊢
          have hb := leftT_low x a h0
          have h2 := ihr (fun y hy => hr y (List.mem_cons_of_mem _ hy)) _ (by omega) h
          have h3 := ih x (hr x List.mem_cons_self) a h0 ha h2.1
          refine ⟨h0, ?_⟩
          rw [h2.2, h3, List.map_cons, List.sum_cons]
          omega
        · rw [if_neg h0, foldl_neg r leftT a (by omega)] at h
          exact absurd h h0
    obtain ⟨h1, h2⟩ := key l (fun x hx => hx) _ (by omega) hl
    rw [h2]
    omega
/-- what is small is small all through -/
theorem ValC.shrink {ok : Nat → Prop} {N M : Nat} {w : World} {t : Tr} {cs : List Value} (h : ValC ok N w t cs) : wtT t ≤ M → ValC ok M w t cs := by
  induction h with
  | mk k n g t l G T L c b o cs hb hG hT hc hL hcs hv ih =>
    intro hw
    rw [wtT_mk] at hw
    have h1 := sum_len (l := l)
    refine .mk k n g t l G T L c b o cs ⟨by omega, by omega, by omega⟩ hG hT hc hL hcs fun j x hj => ?_
    have := sum_mem (f := wtT) (List.mem_of_getElem? hj)
    exact ih j x hj (by omega)
theorem wtT_sub {k : Int} {n : Bool} {g : List Nat} {t : List UInt8} {l : List Tr} {m : Nat} (h : wtT (mk k n g t l) ≤ m) : ∀ x ∈ l, wtT x ≤ m := fun x hx => by
  rw [wtT_mk] at h
  have := sum_mem (f := wtT) hx
  omega
end Go.Proofs.YtomjnjpehokjbaaDoor

namespace Go.Proofs.YtomjnjpehokjbaaDoor
open Go.RowKit

/-- one element more -/
def lstep (a : Int) (x : Tr) : Int := if 0 ≤ a then leftT x a else a
def leftA (l : List Tr) (a : Int) : Int := l.foldl lstep a
theorem leftT_A (k : Int) (n : Bool) (g : List Nat) (t : List UInt8) (l : List Tr) (m : Int) : leftT (.mk k n g t l) m = leftA l (m - (1 + min (t.length : Int) 100000 + min (g.length : Int) 100000)) := leftT_mk k n g t l m
theorem leftA_succ {l : List Tr} {j : Nat} {x : Tr} (h : l[j]? = some x) (a : Int) : leftA (l.take (j + 1)) a = lstep (leftA (l.take j) a) x := by
  obtain ⟨h1, rfl⟩ := List.getElem?_eq_some_iff.1 h
  unfold leftA
  rw [List.take_succ_eq_append_getElem h1, List.foldl_append]
  rfl
theorem leftA_stop (l : List Tr) (j : Nat) (a : Int) (h : leftA (l.take j) a < 0) : leftA l a = leftA (l.take j) a := by
  have e : leftA l a = leftA (l.drop j) (leftA (l.take j) a) := by
    unfold leftA
    rw [← List.foldl_append, List.take_append_drop]
  rw [e]
  exact foldl_neg _ leftT _ h
def LeftAt (N : Nat) (t : Tr) : Prop := ∀ (cs : List Value) (w : World) (m : Int), ValC anyB N w t cs → 0 ≤ m → m ≤ 400 → Calls Tryd.prog 26 #[.agg cs.toArray, .int .i64 m] w fun e w' => e = .returned (.int .i64 (leftT t m)) ∧ Keeps w w'
set_option maxRecDepth 100000 in
set_option maxHeartbeats 2000000 in
theorem left_step {N : Nat} (hN : N ≤ maxLen) (k : Int) (n : Bool) (g : List Nat) (x : List UInt8) (l : List Tr) (IH : ∀ y ∈ l, LeftAt N y) : LeftAt N (.mk k n g x l) := by
  intro cs w m hv h0 hm
  obtain ⟨A, n1, c1, B, n2, c2, L, c, rfl, ⟨hbg, hbx, hbl⟩, ⟨rfl, hG⟩, ⟨rfl, hT⟩, hc, hE⟩ := hv.open_
  obtain ⟨W1, hW1⟩ : ∃ W1, w.alloc (.cells #[.int .i64 k, .bool n, .slice A g.length c1, .slice B x.length c2, .slice L l.length c] 29) = W1 := ⟨_, rfl⟩
  have hk1 : Keeps w W1 := hW1 ▸ box2 w _
  have q1 : Own W1 w.heap.size 29 [.int .i64 k, .bool n, .slice A g.length c1, .slice B x.length c2, .slice L l.length c] := hW1 ▸ Own.new w _ _
  have hlI : (l.length : Int) ≤ 9223372036854775807 := by unfold maxLen at hN; omega
  have hgI : (g.length : Int) ≤ 9223372036854775807 := by unfold maxLen at hN; omega
  have hxI : (x.length : Int) ≤ 9223372036854775807 := by unfold maxLen at hN; omega
  have HE := Lib.hid (hE.below hk1)
  have HI := Lib.hid IH
  obtain ⟨p, hp⟩ : ∃ p : Int, min (x.length : Int) 100000 = p := ⟨_, rfl⟩
  obtain ⟨q, hq⟩ : ∃ q : Int, min (g.length : Int) 100000 = q := ⟨_, rfl⟩
  have hp' : (if (100000 : Int) < (x.length : Int) then (100000 : Int) else (x.length : Int)) = p := by rw [← hp]; split <;> omega
  have hq' : (if (100000 : Int) < (g.length : Int) then (100000 : Int) else (g.length : Int)) = q := by rw [← hq]; split <;> omega
  have hp0 : 0 ≤ p ∧ p ≤ 100000 := by omega
  have hq0 : 0 ≤ q ∧ q ≤ 100000 := by omega
  have HP : Hid (leftT (.mk k n g x l) m = leftA l (m - (1 + p + q))) := Lib.hid (by rw [leftT_A, hp, hq])
  obtain ⟨hp1, hp2⟩ := hp0
  obtain ⟨hq1, hq2⟩ := hq0
  clear hv hG hT hE IH hc hN hbg hbx hbl
  have HQ := Lib.hid q1
  have x0 := q1.cell 0
  have x1 := q1.cell 1
  have x2 := q1.cell 2
  have x3 := q1.cell 3
  have x4 := q1.cell 4
  simp only [List.getElem?_cons_zero, List.getElem?_cons_succ] at x0 x1 x2 x3 x4
  clear q1
  obtain ⟨a0, ha0⟩ : ∃ a0 : Int, m - (1 + p + q) = a0 := ⟨_, rfl⟩
  rw [ha0] at HP
  have ha1 : -200001 ≤ a0 := by omega
  have ha2 : a0 ≤ 400 := by omega
  go_enter Tryd.func26, Tryd.ntmps26
  go_wp2
  clear hp' hq' hp hq x0 x1 x2 x3 x4
  go_loopw [5, 1] (fun i v wr => ∃ (j : Nat) (a : Int), j ≤ l.length ∧ i = .int .i64 (j : Nat) ∧ v = .int .i64 a ∧ Hid (leftA (l.take j) a0 = a) ∧ -200001 ≤ a ∧ a ≤ 400 ∧ Keeps W1 wr) (fun i _ _ => l.length - (intOf i).toNat)
  case atStart => exact ⟨0, a0, Nat.zero_le _, rfl, by first | rfl | rw [ha0], Lib.hid (by simp [leftA]), ha1, ha2, Below.refl _ _⟩
  case round =>
    obtain ⟨j, a, hj, rfl, rfl, HA, hb1, hb2, hkw⟩ := hrel
    have r1 := HQ.out.below hkw
    have x0 := r1.cell 0
    have x1 := r1.cell 1
    have x2 := r1.cell 2
    have x3 := r1.cell 3
    have x4 := r1.cell 4
    simp only [List.getElem?_cons_zero, List.getElem?_cons_succ] at x0 x1 x2 x3 x4
    clear r1
    by_cases hlt : j < l.length
    · have hjI : (j : Int) < l.length := by omega
      by_cases h0a : 0 ≤ a
      · obtain ⟨y, hy⟩ : ∃ y, l[j]? = some y := ⟨_, List.getElem?_eq_getElem hlt⟩
        obtain ⟨b, o, k1, z1, A1, n1, c1, B1, m1, d1, D1, l1, e1, rfl, -, hb, ⟨g0, g1, g2, g3, g4⟩, hv⟩ := (HE.out.below hkw).get5 hy
        have HC := Lib.hid (HI.out y (List.mem_of_getElem? hy) _ wr a hv h0a hb2)
        have hlow := leftT_low y a h0a
        have HS : Hid (leftA (l.take (j + 1)) a0 = leftT y a) := Lib.hid (by rw [leftA_succ hy, HA.out, lstep, if_pos h0a])
        generalize leftT y a = a' at *
        obtain ⟨hl1, hl2⟩ := hlow
        have hd0 : decide ((0 : Int) ≤ a) = true := decide_eq_true h0a
        clear hy hv
        go_wp2_with fail
        refine HC.out.mono ?_
        rintro e w2 ⟨rfl, hk2⟩
        go_wp2
        go_roundw
        case rel => exact ⟨j + 1, a', by omega, by go_num, rfl, HS, hl1, by omega, hkw.trans' hk2⟩
        case measure => simp [intOf]; omega
      · have hd0 : decide ((0 : Int) ≤ a) = false := decide_eq_false h0a
        have HR : Hid (leftT (.mk k n g x l) m = a) := Lib.hid (by rw [HP.out, leftA_stop l j a0 (by rw [HA.out]; omega), HA.out])
        clear h0a
        go_wp2
        go_ret
        exact ⟨by rw [HR.out]; first | done | rfl, hk1.trans' hkw⟩
    · obtain rfl : j = l.length := by omega
      have HR : Hid (leftT (.mk k n g x l) m = a) := Lib.hid (by rw [HP.out]; have := HA.out; rwa [List.take_length] at this)
      go_wp2
      go_ret
      exact ⟨by rw [HR.out]; first | done | rfl, hk1.trans' hkw⟩
theorem left_any {N : Nat} (hN : N ≤ maxLen) (t : Tr) : LeftAt N t := Tr.ind (fun k n g x l IH => left_step hN k n g x l IH) t
/-- few: the weight is at most 400 -/
theorem few_any {N : Nat} (hN : N ≤ maxLen) {t : Tr} {cs : List Value} {w : World} (hv : ValC anyB N w t cs) :
    Calls Tryd.prog 8 #[.agg cs.toArray] w fun e w' => (∃ b : Bool, e = .returned (.bool b) ∧ (b = true → wtT t ≤ 400)) ∧ Keeps w w' := by
  obtain ⟨k, n, A, n1, c1, B, n2, c2, D, n3, c3, rfl⟩ := hv.form
  obtain ⟨W1, hW1⟩ : ∃ W1, w.alloc (.cells #[.int .i64 k, .bool n, .slice A n1 c1, .slice B n2 c2, .slice D n3 c3] 29) = W1 := ⟨_, rfl⟩
  have hk1 : Keeps w W1 := hW1 ▸ box2 w _
  have q1 : Own W1 w.heap.size 29 [.int .i64 k, .bool n, .slice A n1 c1, .slice B n2 c2, .slice D n3 c3] := hW1 ▸ Own.new w _ _
  have HL := Lib.hid (left_any hN t _ W1 400 (hv.keep hk1) (by decide) (by decide))
  have hlow := leftT_low t 400 (by decide)
  have HW := Lib.hid (leftT_wt t 400 (by decide) (by decide))
  generalize leftT t 400 = a at *
  obtain ⟨hl1, hl2⟩ := hlow
  have x0 := q1.cell 0
  have x1 := q1.cell 1
  have x2 := q1.cell 2
  have x3 := q1.cell 3
  have x4 := q1.cell 4
  simp only [List.getElem?_cons_zero, List.getElem?_cons_succ] at x0 x1 x2 x3 x4
  clear q1 hv
  go_enter Tryd.func8, Tryd.ntmps8
  go_wp2_with fail
  refine HL.out.mono ?_
  rintro e w2 ⟨rfl, hk2⟩
  go_wp2
  go_ret
  refine ⟨⟨decide (0 ≤ a), rfl, fun hd => ?_⟩, hk1.trans' hk2⟩
  have h0 : 0 ≤ a := of_decide_eq_true hd
  have := HW.out h0
  omega
end Go.Proofs.YtomjnjpehokjbaaDoor

namespace Go.Proofs.YtomjnjpehokjbaaDoor
open Go.RowKit

set_option maxRecDepth 100000 in
theorem rzeroInt_any (n : Bool) (A : Option Addr) (c : Nat) (g : List Nat) (w : World) (hl : g.length ≤ 1000000000) : Calls Tryd.prog 75 #[.agg #[.bool n, .slice A g.length c]] w fun e w' => e = .returned (.bool (noInt n g)) ∧ Keeps w w' := by
  have hlI : (g.length : Int) ≤ 1000000000 := by omega
  obtain ⟨W1, hW1⟩ : ∃ W1, w.alloc (.cells #[.bool n, .slice A g.length c] 25) = W1 := ⟨_, rfl⟩
  have hk1 : Keeps w W1 := hW1 ▸ box2 w _
  have q1 : Own W1 w.heap.size 25 [.bool n, .slice A g.length c] := hW1 ▸ Own.new w _ _
  have x0 := q1.cell 0
  have x1 := q1.cell 1
  simp only [List.getElem?_cons_zero, List.getElem?_cons_succ] at x0 x1
  unfold noInt
  cases n with
  | true =>
    go_enter Tryd.func75, Tryd.ntmps75
    go_wp2
    go_ret
    exact ⟨rfl, hk1⟩
  | false =>
    by_cases h : g.length = 0
    · have e : ((g.length : Int) == 0) = true := by simp [h]
      rw [decide_eq_true h]
      clear h
      go_enter Tryd.func75, Tryd.ntmps75
      go_wp2
      go_ret
      exact ⟨by first | done | rfl | simp, hk1⟩
    · have e : ((g.length : Int) == 0) = false := by simpa using h
      rw [decide_eq_false h]
      clear h
      go_enter Tryd.func75, Tryd.ntmps75
      go_wp2
      go_ret
      exact ⟨by first | done | rfl | simp, hk1⟩
def RFrmAt (N : Nat) (t : Tr) : Prop := ∀ (cs : List Value) (w : World), ValC anyB N w t cs → Calls Tryd.prog 56 #[.agg cs.toArray] w fun e w' => e = .returned (.bool (frmT t)) ∧ Keeps w w'
/-- the elements one by one -/
theorem all_no {l : List Tr} {p : Tr → Bool} {j : Nat} {y : Tr} (h : l[j]? = some y) (hp : p y = false) : l.all p = false := by
  cases hq : l.all p with
  | false => rfl
  | true =>
    rw [List.all_eq_true.1 hq y (List.mem_of_getElem? h)] at hp
    cases hp
theorem all_step {p : Tr → Bool} {l : List Tr} {k : Nat} {x : Tr} (h : l[k]? = some x) (h1 : (l.take k).all p = true) (h2 : p x = true) : (l.take (k + 1)).all p = true := by
  obtain ⟨h3, rfl⟩ := List.getElem?_eq_some_iff.1 h
  rw [List.take_succ_eq_append_getElem h3, List.all_append, h1]
  simp [h2]
set_option maxRecDepth 100000 in
set_option maxHeartbeats 4000000 in
theorem rformed_step {N : Nat} (hN : N ≤ 1000000000) (k : Int) (n : Bool) (g : List Nat) (x : List UInt8) (l : List Tr) (IH : ∀ y ∈ l, RFrmAt N y) : RFrmAt N (.mk k n g x l) := by
  intro cs w hv
  obtain ⟨A, n1, c1, B, n2, c2, L, c, rfl, ⟨hbg, hbx, hbl⟩, ⟨rfl, hG⟩, ⟨rfl, hT⟩, hc, hE⟩ := hv.open_
  obtain ⟨W1, hW1⟩ : ∃ W1, w.alloc (.cells #[.int .i64 k, .bool n, .slice A g.length c1, .slice B x.length c2, .slice L l.length c] 29) = W1 := ⟨_, rfl⟩
  have hk1 : Keeps w W1 := hW1 ▸ box2 w _
  have q1 : Own W1 w.heap.size 29 [.int .i64 k, .bool n, .slice A g.length c1, .slice B x.length c2, .slice L l.length c] := hW1 ▸ Own.new w _ _
  have hlI : (l.length : Int) ≤ 1000000000 := by omega
  have hgI : (g.length : Int) ≤ 1000000000 := by omega
  have hxI : (x.length : Int) ≤ 1000000000 := by omega
  have HE := Lib.hid (hE.below hk1)
  have HI := Lib.hid IH
  have HG := Lib.hid (U32.row (hG.below hk1))
  have HB : Hid (g.length ≤ 1000000000) := Lib.hid (by omega)
  have HF0 := Lib.hid (frmT_mk k n g x l)
  have HZ := Lib.hid (fun w => rzeroInt_any n A c1 g w HB.out)
  clear hv hG hT hE IH hc hN hbg hbx hbl
  have HQ := Lib.hid q1
  have x0 := q1.cell 0
  have x1 := q1.cell 1
  have x2 := q1.cell 2
  have x3 := q1.cell 3
  have x4 := q1.cell 4
  simp only [List.getElem?_cons_zero, List.getElem?_cons_succ] at x0 x1 x2 x3 x4
  clear q1
  have hkx := hk1
  by_cases e0 : k = 0
  · by_cases ex : x.length = 0
    · have tx : ((x.length : Int) != 0) = false := by simp [ex]
      by_cases el : l.length = 0
      · have tl : ((l.length : Int) != 0) = false := by simp [el]
        have HF : Hid (frmT (.mk k n g x l) = (validB n g && l.all frmT)) := Lib.hid (by rw [HF0.out, e0, ex, el]; simp)
        subst e0
        clear ex el
        obtain ⟨wz, hwz⟩ : ∃ wz, wz = W1 := ⟨_, rfl⟩
        have hkz : Keeps W1 wz := hwz ▸ Below.refl _ _
        have hkz' : Keeps w wz := hk1.trans' hkz
        clear hkx
        subst hwz
        go_enter Tryd.func56, Tryd.ntmps56
        have HVD := Lib.hid (rvalid_any n A g.length c1 g wz rfl (HG.out.below hkz) HB.out)
        go_wp2_with fail
        refine HVD.out.mono ?_
        rintro e w2 ⟨rfl, hk2⟩
        have hkx := hkz'.trans' hk2
        have hk12 := hkz.trans' hk2
        cases hvd : validB n g with
        | false =>
          have HV : Hid (frmT (.mk 0 n g x l) = false) := Lib.hid (by rw [HF.out, hvd]; rfl)
          clear hvd
          go_wp2
          go_ret
          exact ⟨by rw [HV.out]; first | done | rfl, hkx⟩
        | true =>
          have HV : Hid (frmT (.mk 0 n g x l) = l.all frmT) := Lib.hid (by rw [HF.out, hvd]; rfl)
          have r2 := HQ.out.below hk12
          clear hvd x0 x1 x2 x3 x4
          have x0 := r2.cell 0
          have x1 := r2.cell 1
          have x2 := r2.cell 2
          have x3 := r2.cell 3
          have x4 := r2.cell 4
          simp only [List.getElem?_cons_zero, List.getElem?_cons_succ] at x0 x1 x2 x3 x4
          clear r2
          go_wp2
          clear x0 x1 x2 x3 x4
          go_loopw [3] (fun i wr => ∃ j : Nat, j ≤ l.length ∧ i = .int .i64 (j : Nat) ∧ Hid ((l.take j).all frmT = true) ∧ Keeps w2 wr) (fun i _ => l.length - (intOf i).toNat)
          case atStart => exact ⟨0, Nat.zero_le _, rfl, Lib.hid (by simp), Below.refl _ _⟩
          case round =>
            obtain ⟨j, hj, rfl, HA, hkw⟩ := hrel
            have r1 := HQ.out.below (hk12.trans' hkw)
            have x0 := r1.cell 0
            have x1 := r1.cell 1
            have x2 := r1.cell 2
            have x3 := r1.cell 3
            have x4 := r1.cell 4
            simp only [List.getElem?_cons_zero, List.getElem?_cons_succ] at x0 x1 x2 x3 x4
            clear r1
            by_cases hlt : j < l.length
            · have hjI : (j : Int) < l.length := by omega
              obtain ⟨y, hy⟩ : ∃ y, l[j]? = some y := ⟨_, List.getElem?_eq_getElem hlt⟩
              obtain ⟨b, o, k1, z1, A1, n1, c1, B1, m1, d1, D1, l1, e1, rfl, -, hb, ⟨g0, g1, g2, g3, g4⟩, hv⟩ := (HE.out.below (hk12.trans' hkw)).get5 hy
              have HC := Lib.hid (HI.out y (List.mem_of_getElem? hy) _ wr hv)
              have HY := Lib.hid hy
              clear hy hv
              go_wp2_with fail
              refine HC.out.mono ?_
              rintro e w3 ⟨rfl, hk3⟩
              cases hf : frmT y with
              | false =>
                have HN : Hid (l.all frmT = false) := Lib.hid (all_no HY.out hf)
                clear hf
                go_wp2
                go_ret
                exact ⟨by rw [HV.out, HN.out]; first | done | rfl, (hkx.trans' hkw).trans' hk3⟩
              | true =>
                have HS := Lib.hid (all_step HY.out HA.out hf)
                clear hf
                go_wp2
                go_roundw
                case rel => exact ⟨j + 1, by omega, by go_num, HS, hkw.trans' hk3⟩
                case measure => simp [intOf]; omega
            · obtain rfl : j = l.length := by omega
              have HN : Hid (l.all frmT = true) := Lib.hid (by have := HA.out; rwa [List.take_length] at this)
              go_wp2
              go_ret
              exact ⟨by rw [HV.out, HN.out]; first | done | rfl, hkx.trans' hkw⟩
      · have tl : ((l.length : Int) != 0) = true := by simpa using el
        have HV : Hid (frmT (.mk k n g x l) = false) := Lib.hid (by rw [HF0.out, e0, decide_eq_false el]; simp)
        subst e0
        clear ex el
        go_enter Tryd.func56, Tryd.ntmps56
        go_wp2
        go_ret
        exact ⟨by rw [HV.out]; first | done | rfl, hkx⟩
    · have tx : ((x.length : Int) != 0) = true := by simpa using ex
      have HV : Hid (frmT (.mk k n g x l) = false) := Lib.hid (by rw [HF0.out, e0, decide_eq_false ex]; simp)
      subst e0
      clear ex
      go_enter Tryd.func56, Tryd.ntmps56
      go_wp2
      go_ret
      exact ⟨by rw [HV.out]; first | done | rfl, hkx⟩
  · by_cases e1 : k = 1
    · cases en : noInt n g with
      | false =>
        have HV : Hid (frmT (.mk k n g x l) = false) := Lib.hid (by rw [HF0.out, e1, en]; simp)
        rw [en] at HZ
        subst e1
        clear e0 en hkx
        go_enter Tryd.func56, Tryd.ntmps56
        go_wp2_with fail
        refine (HZ.out _).mono ?_
        rintro e wz ⟨rfl, hkz⟩
        have hkx := hk1.trans' hkz
        go_wp2
        go_ret
        exact ⟨by rw [HV.out]; first | done | rfl, hkx⟩
      | true =>
        rw [en] at HZ
        by_cases el : l.length = 0
        · have tl : ((l.length : Int) != 0) = false := by simp [el]
          have HF : Hid (frmT (.mk k n g x l) = (validB n g && l.all frmT)) := Lib.hid (by rw [HF0.out, e1, en, el]; simp)
          subst e1
          clear e0 en hkx el
          go_enter Tryd.func56, Tryd.ntmps56
          go_wp2_with fail
          refine (HZ.out _).mono ?_
          rintro e wz ⟨rfl, hkz⟩
          have hkz' := hk1.trans' hkz
          have r0 := HQ.out.below hkz
          clear x0 x1 x2 x3 x4
          have x0 := r0.cell 0
          have x1 := r0.cell 1
          have x2 := r0.cell 2
          have x3 := r0.cell 3
          have x4 := r0.cell 4
          simp only [List.getElem?_cons_zero, List.getElem?_cons_succ] at x0 x1 x2 x3 x4
          clear r0
          have HVD := Lib.hid (rvalid_any n A g.length c1 g wz rfl (HG.out.below hkz) HB.out)
          go_wp2_with fail
          refine HVD.out.mono ?_
          rintro e w2 ⟨rfl, hk2⟩
          have hkx := hkz'.trans' hk2
          have hk12 := hkz.trans' hk2
          cases hvd : validB n g with
          | false =>
            have HV : Hid (frmT (.mk 1 n g x l) = false) := Lib.hid (by rw [HF.out, hvd]; rfl)
            clear hvd
            go_wp2
            go_ret
            exact ⟨by rw [HV.out]; first | done | rfl, hkx⟩
          | true =>
            have HV : Hid (frmT (.mk 1 n g x l) = l.all frmT) := Lib.hid (by rw [HF.out, hvd]; rfl)
            have r2 := HQ.out.below hk12
            clear hvd x0 x1 x2 x3 x4
            have x0 := r2.cell 0
            have x1 := r2.cell 1
            have x2 := r2.cell 2
            have x3 := r2.cell 3
            have x4 := r2.cell 4
            simp only [List.getElem?_cons_zero, List.getElem?_cons_succ] at x0 x1 x2 x3 x4
            clear r2
            go_wp2
            clear x0 x1 x2 x3 x4
            go_loopw [3] (fun i wr => ∃ j : Nat, j ≤ l.length ∧ i = .int .i64 (j : Nat) ∧ Hid ((l.take j).all frmT = true) ∧ Keeps w2 wr) (fun i _ => l.length - (intOf i).toNat)
            case atStart => exact ⟨0, Nat.zero_le _, rfl, Lib.hid (by simp), Below.refl _ _⟩
            case round =>
              obtain ⟨j, hj, rfl, HA, hkw⟩ := hrel
              have r1 := HQ.out.below (hk12.trans' hkw)
              have x0 := r1.cell 0
              have x1 := r1.cell 1
              have x2 := r1.cell 2
              have x3 := r1.cell 3
              have x4 := r1.cell 4
              simp only [List.getElem?_cons_zero, List.getElem?_cons_succ] at x0 x1 x2 x3 x4
              clear r1
              by_cases hlt : j < l.length
              · have hjI : (j : Int) < l.length := by omega
                obtain ⟨y, hy⟩ : ∃ y, l[j]? = some y := ⟨_, List.getElem?_eq_getElem hlt⟩
                obtain ⟨b, o, k1, z1, A1, n1, c1, B1, m1, d1, D1, l1, e1, rfl, -, hb, ⟨g0, g1, g2, g3, g4⟩, hv⟩ := (HE.out.below (hk12.trans' hkw)).get5 hy
                have HC := Lib.hid (HI.out y (List.mem_of_getElem? hy) _ wr hv)
                have HY := Lib.hid hy
                clear hy hv
                go_wp2_with fail
                refine HC.out.mono ?_
                rintro e w3 ⟨rfl, hk3⟩
                cases hf : frmT y with
                | false =>
                  have HN : Hid (l.all frmT = false) := Lib.hid (all_no HY.out hf)
                  clear hf
                  go_wp2
                  go_ret
                  exact ⟨by rw [HV.out, HN.out]; first | done | rfl, (hkx.trans' hkw).trans' hk3⟩
                | true =>
                  have HS := Lib.hid (all_step HY.out HA.out hf)
                  clear hf
                  go_wp2
                  go_roundw
                  case rel => exact ⟨j + 1, by omega, by go_num, HS, hkw.trans' hk3⟩
                  case measure => simp [intOf]; omega
              · obtain rfl : j = l.length := by omega
                have HN : Hid (l.all frmT = true) := Lib.hid (by have := HA.out; rwa [List.take_length] at this)
                go_wp2
                go_ret
                exact ⟨by rw [HV.out, HN.out]; first | done | rfl, hkx.trans' hkw⟩
        · have tl : ((l.length : Int) != 0) = true := by simpa using el
          have HV : Hid (frmT (.mk k n g x l) = false) := Lib.hid (by rw [HF0.out, e1, decide_eq_false el]; simp)
          subst e1
          clear e0 en hkx el
          go_enter Tryd.func56, Tryd.ntmps56
          go_wp2_with fail
          refine (HZ.out _).mono ?_
          rintro e wz ⟨rfl, hkz⟩
          have hkx := hk1.trans' hkz
          have r0 := HQ.out.below hkz
          clear x0 x1 x2 x3 x4
          have x0 := r0.cell 0
          have x1 := r0.cell 1
          have x2 := r0.cell 2
          have x3 := r0.cell 3
          have x4 := r0.cell 4
          simp only [List.getElem?_cons_zero, List.getElem?_cons_succ] at x0 x1 x2 x3 x4
          clear r0
          go_wp2
          go_ret
          exact ⟨by rw [HV.out]; first | done | rfl, hkx⟩
    · by_cases e2 : k = 2
      · cases en : noInt n g with
        | false =>
          have HV : Hid (frmT (.mk k n g x l) = false) := Lib.hid (by rw [HF0.out, e2, en]; simp)
          rw [en] at HZ
          subst e2
          clear e0 e1 en hkx
          go_enter Tryd.func56, Tryd.ntmps56
          go_wp2_with fail
          refine (HZ.out _).mono ?_
          rintro e wz ⟨rfl, hkz⟩
          have hkx := hk1.trans' hkz
          go_wp2
          go_ret
          exact ⟨by rw [HV.out]; first | done | rfl, hkx⟩
        | true =>
          rw [en] at HZ
          by_cases ex : x.length = 0
          · have tx : ((x.length : Int) != 0) = false := by simp [ex]
            have HF : Hid (frmT (.mk k n g x l) = (validB n g && l.all frmT)) := Lib.hid (by rw [HF0.out, e2, en, ex]; simp)
            subst e2
            clear e0 e1 en hkx ex
            go_enter Tryd.func56, Tryd.ntmps56
            go_wp2_with fail
            refine (HZ.out _).mono ?_
            rintro e wz ⟨rfl, hkz⟩
            have hkz' := hk1.trans' hkz
            have r0 := HQ.out.below hkz
            clear x0 x1 x2 x3 x4
            have x0 := r0.cell 0
            have x1 := r0.cell 1
            have x2 := r0.cell 2
            have x3 := r0.cell 3
            have x4 := r0.cell 4
            simp only [List.getElem?_cons_zero, List.getElem?_cons_succ] at x0 x1 x2 x3 x4
            clear r0
            have HVD := Lib.hid (rvalid_any n A g.length c1 g wz rfl (HG.out.below hkz) HB.out)
            go_wp2_with fail
            refine HVD.out.mono ?_
            rintro e w2 ⟨rfl, hk2⟩
            have hkx := hkz'.trans' hk2
            have hk12 := hkz.trans' hk2
            cases hvd : validB n g with
            | false =>
              have HV : Hid (frmT (.mk 2 n g x l) = false) := Lib.hid (by rw [HF.out, hvd]; rfl)
              clear hvd
              go_wp2
              go_ret
              exact ⟨by rw [HV.out]; first | done | rfl, hkx⟩
            | true =>
              have HV : Hid (frmT (.mk 2 n g x l) = l.all frmT) := Lib.hid (by rw [HF.out, hvd]; rfl)
              have r2 := HQ.out.below hk12
              clear hvd x0 x1 x2 x3 x4
              have x0 := r2.cell 0
              have x1 := r2.cell 1
              have x2 := r2.cell 2
              have x3 := r2.cell 3
              have x4 := r2.cell 4
              simp only [List.getElem?_cons_zero, List.getElem?_cons_succ] at x0 x1 x2 x3 x4
              clear r2
              go_wp2
              clear x0 x1 x2 x3 x4
              go_loopw [3] (fun i wr => ∃ j : Nat, j ≤ l.length ∧ i = .int .i64 (j : Nat) ∧ Hid ((l.take j).all frmT = true) ∧ Keeps w2 wr) (fun i _ => l.length - (intOf i).toNat)
              case atStart => exact ⟨0, Nat.zero_le _, rfl, Lib.hid (by simp), Below.refl _ _⟩
              case round =>
                obtain ⟨j, hj, rfl, HA, hkw⟩ := hrel
                have r1 := HQ.out.below (hk12.trans' hkw)
                have x0 := r1.cell 0
                have x1 := r1.cell 1
                have x2 := r1.cell 2
                have x3 := r1.cell 3
                have x4 := r1.cell 4
                simp only [List.getElem?_cons_zero, List.getElem?_cons_succ] at x0 x1 x2 x3 x4
                clear r1
                by_cases hlt : j < l.length
                · have hjI : (j : Int) < l.length := by omega
                  obtain ⟨y, hy⟩ : ∃ y, l[j]? = some y := ⟨_, List.getElem?_eq_getElem hlt⟩
                  obtain ⟨b, o, k1, z1, A1, n1, c1, B1, m1, d1, D1, l1, e1, rfl, -, hb, ⟨g0, g1, g2, g3, g4⟩, hv⟩ := (HE.out.below (hk12.trans' hkw)).get5 hy
                  have HC := Lib.hid (HI.out y (List.mem_of_getElem? hy) _ wr hv)
                  have HY := Lib.hid hy
                  clear hy hv
                  go_wp2_with fail
                  refine HC.out.mono ?_
                  rintro e w3 ⟨rfl, hk3⟩
                  cases hf : frmT y with
                  | false =>
                    have HN : Hid (l.all frmT = false) := Lib.hid (all_no HY.out hf)
                    clear hf
                    go_wp2
                    go_ret
                    exact ⟨by rw [HV.out, HN.out]; first | done | rfl, (hkx.trans' hkw).trans' hk3⟩
                  | true =>
                    have HS := Lib.hid (all_step HY.out HA.out hf)
                    clear hf
                    go_wp2
                    go_roundw
                    case rel => exact ⟨j + 1, by omega, by go_num, HS, hkw.trans' hk3⟩
                    case measure => simp [intOf]; omega
                · obtain rfl : j = l.length := by omega
                  have HN : Hid (l.all frmT = true) := Lib.hid (by have := HA.out; rwa [List.take_length] at this)
                  go_wp2
                  go_ret
                  exact ⟨by rw [HV.out, HN.out]; first | done | rfl, hkx.trans' hkw⟩
          · have tx : ((x.length : Int) != 0) = true := by simpa using ex
            have HV : Hid (frmT (.mk k n g x l) = false) := Lib.hid (by rw [HF0.out, e2, decide_eq_false ex]; simp)
            subst e2
            clear e0 e1 en hkx ex
            go_enter Tryd.func56, Tryd.ntmps56
            go_wp2_with fail
            refine (HZ.out _).mono ?_
            rintro e wz ⟨rfl, hkz⟩
            have hkx := hk1.trans' hkz
            have r0 := HQ.out.below hkz
            clear x0 x1 x2 x3 x4
            have x0 := r0.cell 0
            have x1 := r0.cell 1
            have x2 := r0.cell 2
            have x3 := r0.cell 3
            have x4 := r0.cell 4
            simp only [List.getElem?_cons_zero, List.getElem?_cons_succ] at x0 x1 x2 x3 x4
            clear r0
            go_wp2
            go_ret
            exact ⟨by rw [HV.out]; first | done | rfl, hkx⟩
      · have HV : Hid (frmT (.mk k n g x l) = false) := Lib.hid (by rw [HF0.out, decide_eq_false e0, decide_eq_false e1, decide_eq_false e2]; simp)
        have t0 : (k != 0) = true := by simpa using e0
        have t1 : (k != 1) = true := by simpa using e1
        have t2 : (k != 2) = true := by simpa using e2
        clear e0 e1 e2
        go_enter Tryd.func56, Tryd.ntmps56
        go_wp2
        go_ret
        exact ⟨by rw [HV.out]; first | done | rfl, hkx⟩
theorem rformed_any {N : Nat} (hN : N ≤ 1000000000) (t : Tr) : RFrmAt N t := Tr.ind (fun k n g x l IH => rformed_step hN k n g x l IH) t
end Go.Proofs.YtomjnjpehokjbaaDoor

namespace Go.Proofs.YtomjnjpehokjbaaDoor
open Go.RowKit

def depL (l : List Tr) : Nat := l.foldl (fun a x => max a (depT x)) 0
theorem depL_succ {l : List Tr} {j : Nat} {x : Tr} (h : l[j]? = some x) : depL (l.take (j + 1)) = max (depL (l.take j)) (depT x) := by
  obtain ⟨h1, rfl⟩ := List.getElem?_eq_some_iff.1 h
  unfold depL
  rw [List.take_succ_eq_append_getElem h1, List.foldl_append]
  rfl
def RDepAt (N : Nat) (t : Tr) : Prop := ∀ (cs : List Value) (w : World), ValC anyB N w t cs → depT t ≤ 1000 → Calls Tryd.prog 57 #[.agg cs.toArray] w fun e w' => e = .returned (.int .i64 (depT t : Nat)) ∧ Keeps w w'
set_option maxRecDepth 100000 in
set_option maxHeartbeats 2000000 in
theorem rdepth_step {N : Nat} (hN : N ≤ 1000000000) (k : Int) (n : Bool) (g : List Nat) (x : List UInt8) (l : List Tr) (IH : ∀ y ∈ l, RDepAt N y) : RDepAt N (.mk k n g x l) := by
  intro cs w hv hd
  obtain ⟨A, n1, c1, B, n2, c2, L, c, rfl, ⟨hbg, hbx, hbl⟩, ⟨rfl, hG⟩, ⟨rfl, hT⟩, hc, hE⟩ := hv.open_
  obtain ⟨W1, hW1⟩ : ∃ W1, w.alloc (.cells #[.int .i64 k, .bool n, .slice A g.length c1, .slice B x.length c2, .slice L l.length c] 29) = W1 := ⟨_, rfl⟩
  have hk1 : Keeps w W1 := hW1 ▸ box2 w _
  have q1 : Own W1 w.heap.size 29 [.int .i64 k, .bool n, .slice A g.length c1, .slice B x.length c2, .slice L l.length c] := hW1 ▸ Own.new w _ _
  have hlI : (l.length : Int) ≤ 1000000000 := by omega
  have HE := Lib.hid (hE.below hk1)
  have HI := Lib.hid IH
  clear hv hG hT hE IH hc hN hbg hbx hbl
  have HQ := Lib.hid q1
  have x0 := q1.cell 0
  have x1 := q1.cell 1
  have x2 := q1.cell 2
  have x3 := q1.cell 3
  have x4 := q1.cell 4
  simp only [List.getElem?_cons_zero, List.getElem?_cons_succ] at x0 x1 x2 x3 x4
  clear q1
  by_cases e2 : k = 2
  · have HS := Lib.hid (depT_sub hd e2)
    have HD : Hid (depT (.mk k n g x l) = depL l + 1) := Lib.hid (by rw [depT_mk, if_pos e2]; rfl)
    subst e2
    clear hd
    go_enter Tryd.func57, Tryd.ntmps57
    go_wp2
    clear x0 x1 x2 x3 x4
    go_loopw [4, 3] (fun i v wr => ∃ (j a : Nat), j ≤ l.length ∧ i = .int .i64 (j : Nat) ∧ v = .int .i64 (a : Nat) ∧ Hid (depL (l.take j) = a) ∧ a ≤ 1000 ∧ Keeps W1 wr) (fun i _ _ => l.length - (intOf i).toNat)
    case atStart => exact ⟨0, 0, Nat.zero_le _, rfl, rfl, Lib.hid (by simp [depL]), by decide, Below.refl _ _⟩
    case round =>
      obtain ⟨j, a, hj, rfl, rfl, HA, ha, hkw⟩ := hrel
      have r1 := HQ.out.below hkw
      have x0 := r1.cell 0
      have x1 := r1.cell 1
      have x2 := r1.cell 2
      have x3 := r1.cell 3
      have x4 := r1.cell 4
      simp only [List.getElem?_cons_zero, List.getElem?_cons_succ] at x0 x1 x2 x3 x4
      clear r1
      by_cases hlt : j < l.length
      · have hjI : (j : Int) < l.length := by omega
        obtain ⟨y, hy⟩ : ∃ y, l[j]? = some y := ⟨_, List.getElem?_eq_getElem hlt⟩
        obtain ⟨b, o, k1, z1, A1, n1, c1, B1, m1, d1, D1, l1, e1, rfl, -, hb, ⟨g0, g1, g2, g3, g4⟩, hv⟩ := (HE.out.below hkw).get5 hy
        have hdy := HS.out y (List.mem_of_getElem? hy)
        have HC := Lib.hid (HI.out y (List.mem_of_getElem? hy) _ wr hv hdy)
        have hSu : depL (l.take (j + 1)) = max a (depT y) := by rw [depL_succ hy, HA.out]
        generalize depT y = d at *
        have HSu := Lib.hid hSu
        clear hy hv hSu
        by_cases hda : a < d
        · have t1 : decide ((a : Int) < (d : Int)) = true := decide_eq_true (by omega)
          have t3 : (a : Int) < (d : Int) := by omega
          have t4 : ((d : Int) ≤ (a : Int)) = False := eq_false (by omega)
          have HM : Hid (depL (l.take (j + 1)) = d) := Lib.hid (by rw [HSu.out]; omega)
          go_wp2_with fail
          refine HC.out.mono ?_
          rintro e w2 ⟨rfl, hk2⟩
          go_wp2
          go_roundw
          case rel => exact ⟨j + 1, d, by omega, by go_num, rfl, HM, hdy, hkw.trans' hk2⟩
          case measure => simp [intOf]; omega
        · have t1 : decide ((a : Int) < (d : Int)) = false := decide_eq_false (by omega)
          have t3 : (d : Int) ≤ (a : Int) := by omega
          have t4 : ((a : Int) < (d : Int)) = False := eq_false (by omega)
          have HM : Hid (depL (l.take (j + 1)) = a) := Lib.hid (by rw [HSu.out]; omega)
          go_wp2_with fail
          refine HC.out.mono ?_
          rintro e w2 ⟨rfl, hk2⟩
          go_wp2
          go_roundw
          case rel => exact ⟨j + 1, a, by omega, by go_num, rfl, HM, ha, hkw.trans' hk2⟩
          case measure => simp [intOf]; omega
      · obtain rfl : j = l.length := by omega
        have HR : Hid (depT (.mk 2 n g x l) = a + 1) := Lib.hid (by rw [HD.out]; have := HA.out; rw [List.take_length] at this; rw [this])
        go_wp2
        go_ret
        exact ⟨by rw [HR.out]; first | done | rfl | go_num, hk1.trans' hkw⟩
  · have HD : Hid (depT (.mk k n g x l) = 0) := Lib.hid (by rw [depT_mk, if_neg e2])
    have t2 : (k != 2) = true := by simpa using e2
    clear e2 hd
    go_enter Tryd.func57, Tryd.ntmps57
    go_wp2
    go_ret
    exact ⟨by rw [HD.out]; first | done | rfl, hk1⟩
theorem rdepth_any {N : Nat} (hN : N ≤ 1000000000) (t : Tr) : RDepAt N t := Tr.ind (fun k n g x l IH => rdepth_step hN k n g x l IH) t
end Go.Proofs.YtomjnjpehokjbaaDoor

namespace Go.Proofs.YtomjnjpehokjbaaDoor
open Go.RowKit

def RShoAt (N : Nat) (t : Tr) : Prop := ∀ (cs : List Value) (w : World), ValC anyB N w t cs → frmT t = true → Calls Tryd.prog 58 #[.agg cs.toArray] w fun e w' => e = .returned (.bool (shoT t)) ∧ Keeps w w'
theorem frm_sub {k : Int} {n : Bool} {g : List Nat} {x : List UInt8} {l : List Tr} (h : frmT (.mk k n g x l) = true) : ∀ y ∈ l, frmT y = true := by
  rw [frmT_mk] at h
  simp only [Bool.and_eq_true, List.all_eq_true] at h
  exact h.2
theorem frm_int {n : Bool} {g : List Nat} {x : List UInt8} {l : List Tr} (h : frmT (.mk 0 n g x l) = true) : validB n g = true := by
  rw [frmT_mk] at h
  simp only [Bool.and_eq_true] at h
  exact h.1.2
theorem textL_le9 (z : Int) : (textL z).length ≤ 9 * (dig z.natAbs).length + 2 := by
  unfold textL
  split
  · simp
  · rename_i h0
    rw [← txt_pos _ (show z.natAbs ≠ 0 by omega), List.length_append]
    have h1 := dig_lt z.natAbs
    have h2 : (txt z.natAbs).length ≤ 9 * (dig z.natAbs).length := txt_len _ _ (by rw [Nat.pow_mul]; exact h1)
    have : (if z < 0 then ([45] : List UInt8) else []).length ≤ 1 := by split <;> simp
    omega
theorem U32.arg {w : World} {G : Value} {g : List Nat} (n : Bool) (h : U32 w G g) : IntArg w (.agg #[.bool n, G]) n g := ⟨G, rfl, h⟩
set_option maxRecDepth 100000 in
set_option maxHeartbeats 2000000 in
theorem rshort_step {N : Nat} (hN : N ≤ 800000) (k : Int) (n : Bool) (g : List Nat) (x : List UInt8) (l : List Tr) (IH : ∀ y ∈ l, RShoAt N y) : RShoAt N (.mk k n g x l) := by
  intro cs w hv hf
  obtain ⟨A, n1, c1, B, n2, c2, L, c, rfl, ⟨hbg, hbx, hbl⟩, ⟨rfl, hG⟩, ⟨rfl, hT⟩, hc, hE⟩ := hv.open_
  obtain ⟨W1, hW1⟩ : ∃ W1, w.alloc (.cells #[.int .i64 k, .bool n, .slice A g.length c1, .slice B x.length c2, .slice L l.length c] 29) = W1 := ⟨_, rfl⟩
  have hk1 : Keeps w W1 := hW1 ▸ box2 w _
  have q1 : Own W1 w.heap.size 29 [.int .i64 k, .bool n, .slice A g.length c1, .slice B x.length c2, .slice L l.length c] := hW1 ▸ Own.new w _ _
  have hlI : (l.length : Int) ≤ 800000 := by omega
  have HE := Lib.hid (hE.below hk1)
  have HI := Lib.hid IH
  have HX := Lib.hid (rtext_any n g _ W1 (U32.arg n (hG.below hk1)) (by omega))
  have HGB : Hid (g.length ≤ 800000) := Lib.hid (by omega)
  clear hv hG hT hE IH hc hN hbg hbx hbl
  have HQ := Lib.hid q1
  have x0 := q1.cell 0
  have x1 := q1.cell 1
  have x2 := q1.cell 2
  have x3 := q1.cell 3
  have x4 := q1.cell 4
  simp only [List.getElem?_cons_zero, List.getElem?_cons_succ] at x0 x1 x2 x3 x4
  clear q1
  by_cases e0 : k = 0
  · subst e0
    have hval := frm_int hf
    have hneg : n = decide (cnt n g < 0) := (valid_form hval).1
    have HL : Hid ((textL (cnt n g)).length ≤ 9 * g.length + 2) := Lib.hid (by have := textL_le9 (cnt n g); rwa [← (valid_form hval).2] at this)
    have HD : Hid (shoT (.mk 0 n g x l) = decide (((textL (cnt n g)).length : Int) - (if n then 1 else 0) ≤ 2000)) := Lib.hid (by
      rw [shoT_mk, if_pos rfl, shortZ]
      apply decide_eq_decide.2
      by_cases h0 : cnt n g < 0
      · rw [if_pos h0, hneg, decide_eq_true h0]
        simp only [if_true]
        omega
      · rw [if_neg h0, hneg, decide_eq_false h0]
        simp
        omega)
    obtain ⟨tb, htb⟩ : ∃ tb : ByteArray, (⟨(textL (cnt n g)).toArray⟩ : ByteArray) = tb := ⟨_, rfl⟩
    have hsz : tb.size = (textL (cnt n g)).length := by rw [← htb]; exact List.size_toArray
    rw [htb] at HX
    have htbI : (tb.size : Int) ≤ 10000000 := by have := HL.out; have := HGB.out; omega
    rw [← hsz] at HD
    clear hf hval hneg htb hsz HL
    cases n with
    | true =>
      go_enter Tryd.func58, Tryd.ntmps58
      go_wp2_with fail
      refine HX.out.mono ?_
      rintro e w2 ⟨rfl, hk2⟩
      have r0 := HQ.out.below hk2
      clear x0 x1 x2 x3 x4
      have x0 := r0.cell 0
      have x1 := r0.cell 1
      have x2 := r0.cell 2
      have x3 := r0.cell 3
      have x4 := r0.cell 4
      simp only [List.getElem?_cons_zero, List.getElem?_cons_succ] at x0 x1 x2 x3 x4
      clear r0
      go_wp2
      go_ret
      exact ⟨by rw [HD.out]; first | done | rfl | simp, hk1.trans' hk2⟩
    | false =>
      go_enter Tryd.func58, Tryd.ntmps58
      go_wp2_with fail
      refine HX.out.mono ?_
      rintro e w2 ⟨rfl, hk2⟩
      have r0 := HQ.out.below hk2
      clear x0 x1 x2 x3 x4
      have x0 := r0.cell 0
      have x1 := r0.cell 1
      have x2 := r0.cell 2
      have x3 := r0.cell 3
      have x4 := r0.cell 4
      simp only [List.getElem?_cons_zero, List.getElem?_cons_succ] at x0 x1 x2 x3 x4
      clear r0
      go_wp2
      go_ret
      exact ⟨by rw [HD.out]; first | done | rfl | simp, hk1.trans' hk2⟩
  · have HV : Hid (shoT (.mk k n g x l) = l.all shoT) := Lib.hid (by rw [shoT_mk, if_neg e0])
    have t0 : (k == 0) = false := by simpa using e0
    have HS := Lib.hid (frm_sub hf)
    clear hf e0 HX HGB
    go_enter Tryd.func58, Tryd.ntmps58
    go_wp2
    clear x0 x1 x2 x3 x4
    go_loopw [4] (fun i wr => ∃ j : Nat, j ≤ l.length ∧ i = .int .i64 (j : Nat) ∧ Hid ((l.take j).all shoT = true) ∧ Keeps W1 wr) (fun i _ => l.length - (intOf i).toNat)
    case atStart => exact ⟨0, Nat.zero_le _, rfl, Lib.hid (by simp), Below.refl _ _⟩
    case round =>
      obtain ⟨j, hj, rfl, HA, hkw⟩ := hrel
      have r1 := HQ.out.below hkw
      have x0 := r1.cell 0
      have x1 := r1.cell 1
      have x2 := r1.cell 2
      have x3 := r1.cell 3
      have x4 := r1.cell 4
      simp only [List.getElem?_cons_zero, List.getElem?_cons_succ] at x0 x1 x2 x3 x4
      clear r1
      by_cases hlt : j < l.length
      · have hjI : (j : Int) < l.length := by omega
        obtain ⟨y, hy⟩ : ∃ y, l[j]? = some y := ⟨_, List.getElem?_eq_getElem hlt⟩
        obtain ⟨b, o, k1, z1, A1, n1, c1, B1, m1, d1, D1, l1, e1, rfl, -, hb, ⟨g0, g1, g2, g3, g4⟩, hv⟩ := (HE.out.below hkw).get5 hy
        have HC := Lib.hid (HI.out y (List.mem_of_getElem? hy) _ wr hv (HS.out y (List.mem_of_getElem? hy)))
        have HY := Lib.hid hy
        clear hy hv
        go_wp2_with fail
        refine HC.out.mono ?_
        rintro e w3 ⟨rfl, hk3⟩
        cases hf : shoT y with
        | false =>
          have HN : Hid (l.all shoT = false) := Lib.hid (all_no HY.out hf)
          clear hf
          go_wp2
          go_ret
          exact ⟨by rw [HV.out, HN.out]; first | done | rfl, (hk1.trans' hkw).trans' hk3⟩
        | true =>
          have HS := Lib.hid (all_step HY.out HA.out hf)
          clear hf
          go_wp2
          go_roundw
          case rel => exact ⟨j + 1, by omega, by go_num, HS, hkw.trans' hk3⟩
          case measure => simp [intOf]; omega
      · obtain rfl : j = l.length := by omega
        have HN : Hid (l.all shoT = true) := Lib.hid (by have := HA.out; rwa [List.take_length] at this)
        go_wp2
        go_ret
        exact ⟨by rw [HV.out, HN.out]; first | done | rfl, hk1.trans' hkw⟩
theorem rshortV_any {N : Nat} (hN : N ≤ 800000) (t : Tr) : RShoAt N t := Tr.ind (fun k n g x l IH => rshort_step hN k n g x l IH) t
end Go.Proofs.YtomjnjpehokjbaaDoor

namespace Go.Proofs.YtomjnjpehokjbaaDoor
open Go.RowKit Go.Shelf

def RDecAt (n : Nat) : Prop := ∀ w : World, n < 1000000000 → Calls Tryd.prog 60 #[.int .i64 (n : Nat)] w fun e w' => e = .returned (.string ⟨(Lib.decDigits n).toArray⟩) ∧ Keeps w w'
set_option maxRecDepth 100000 in
set_option maxHeartbeats 1000000 in
theorem rdec_small (n : Nat) (h : n < 10) : RDecAt n := by
  intro w hn
  have hnI : (n : Int) < 10 := by omega
  have e1 : IntKind.u8.wrap (48 + (n : Int)) = 48 + (n : Int) := by rw [IntKind.wrap_u8]; omega
  have hD : Lib.decDigits n = [UInt8.ofNat (48 + n)] := Lib.decDigits_one h
  have HD := Lib.hid hD
  clear hD h
  go_enter Tryd.func60, Tryd.ntmps60
  have hcell : ((#[.int .u8 (48 + (n : Int))] : Array Value)).toList.take [UInt8.ofNat (48 + n)].length = Lib.byteCells [UInt8.ofNat (48 + n)] := by
    have e : (UInt8.ofNat (48 + n)).toNat = 48 + n := by rw [UInt8.toNat_ofNat']; omega
    simp only [Lib.byteCells, List.map_cons, List.map_nil, e, List.length_cons, List.length_nil, List.take_succ_cons, List.take_zero]
    rfl
  have hcv := run_convert_bytes_back (P := Tryd.prog) (w.alloc (.cells #[.int .u8 (48 + (n : Int))] 5)) 26 9 5 ⟨w.heap.size, 0, none⟩ 1 [UInt8.ofNat (48 + n)] Tryd.underlying26 Tryd.underlying5 Tryd.underlying9 (Lib.bytes_of_row (w := w.alloc (.cells #[.int .u8 (48 + (n : Int))] 5)) (heap_alloc_new w _) hcell)
  obtain ⟨u, hu⟩ : ∃ u, UInt8.ofNat (48 + n) = u := ⟨_, rfl⟩
  rw [hu] at hcv HD
  simp only [List.length_cons, List.length_nil] at hcv
  clear hcell hu
  go_wp2
  go_ret
  exact ⟨by rw [HD.out]; first | done | rfl, box2 w _⟩
theorem cat_strs (a b : List UInt8) : (⟨a.toArray⟩ : ByteArray) ++ (⟨b.toArray⟩ : ByteArray) = ⟨(a ++ b).toArray⟩ := by
  apply ByteArray.ext
  simp
set_option maxRecDepth 100000 in
set_option maxHeartbeats 1000000 in
theorem rdec_big (n : Nat) (h : 10 ≤ n) (IH : ∀ m < n, RDecAt m) : RDecAt n := by
  intro w hn
  have hnI : (n : Int) < 1000000000 := by omega
  have h10 : (10 : Int) ≤ n := by omega
  have hlt : decide ((n : Int) < 10) = false := decide_eq_false (by omega)
  have hD : Lib.decDigits n = Lib.decDigits (n / 10) ++ Lib.decDigits (n % 10) := by
    rw [Lib.decDigits_one (show n % 10 < 10 by omega)]
    conv => lhs; rw [Lib.decDigits, dif_neg (by omega)]
  have HQ := Lib.hid (fun w => IH (n / 10) (by omega) w (by omega))
  have HR := Lib.hid (fun w => IH (n % 10) (by omega) w (by omega))
  have t1 : (n : Int) / 10 = ((n / 10 : Nat) : Int) := by omega
  have t2 : (n : Int).tmod 10 = ((n % 10 : Nat) : Int) := by rw [Int.tmod_eq_emod_of_nonneg (by omega)]; omega
  obtain ⟨q, hq⟩ : ∃ q, n / 10 = q := ⟨_, rfl⟩
  obtain ⟨r, hr⟩ : ∃ r, n % 10 = r := ⟨_, rfl⟩
  have hqb : (q : Int) ≤ 100000000 := by omega
  rw [hq] at t1 HQ hD
  rw [hr] at t2 HR hD
  obtain ⟨ta, hta⟩ : ∃ ta : ByteArray, (⟨(Lib.decDigits q).toArray⟩ : ByteArray) = ta := ⟨_, rfl⟩
  obtain ⟨tb, htb⟩ : ∃ tb : ByteArray, (⟨(Lib.decDigits r).toArray⟩ : ByteArray) = tb := ⟨_, rfl⟩
  have la : (ta.size : Int) ≤ 9 := by
    have := (decDigits_len q (by omega)).1
    have e : ta.size = (Lib.decDigits q).length := by rw [← hta]; exact List.size_toArray
    omega
  have lb : (tb.size : Int) ≤ 9 := by
    have := (decDigits_len r (by omega)).1
    have e : tb.size = (Lib.decDigits r).length := by rw [← htb]; exact List.size_toArray
    omega
  rw [hta] at HQ
  rw [htb] at HR
  have HD : Hid ((⟨(Lib.decDigits n).toArray⟩ : ByteArray) = ta ++ tb) := Lib.hid (by rw [hD, ← cat_strs, hta, htb])
  clear hq hr hD IH hta htb
  go_enter Tryd.func60, Tryd.ntmps60
  go_wp2_with fail
  refine (HQ.out _).mono ?_
  rintro e w1 ⟨rfl, hk1⟩
  go_wp2_with fail
  refine (HR.out _).mono ?_
  rintro e w2 ⟨rfl, hk2⟩
  go_wp2
  go_ret
  exact ⟨by rw [HD.out]; first | done | rfl, hk1.trans' hk2⟩
theorem rdecimal_any : ∀ n, RDecAt n := fun n => by
  induction n using Nat.strongRecOn with
  | ind n ih =>
    by_cases h : n < 10
    · exact rdec_small n h
    · exact rdec_big n (by omega) ih
end Go.Proofs.YtomjnjpehokjbaaDoor

namespace Go.Proofs.YtomjnjpehokjbaaDoor
open Go.RowKit

/-- cells stored one by one, none of them marked -/
theorem run_storeCells_atM (P : Program) (g o : Nat) (t : TypeId) (fz : Nat × Nat) : ∀ (vs : List Value) (i : Nat) (cur : Array Value) (w : World), w.heap[g]? = some (.cells cur t fz) → (fz.2 = 0 ∨ cur.size ≤ fz.1) → o + i + vs.length ≤ cur.size → (∀ v ∈ vs, v.oneCell' = true) →
    (storeCells ⟨g, o, none⟩ vs i).run P w = .ok () (w.setRow g (cur.toList.take (o + i) ++ vs ++ cur.toList.drop (o + i + vs.length)).toArray)
  | [], i, cur, w, hg, _, _, _ => by
    simp only [storeCells, List.append_nil, List.length_nil, Nat.add_zero, List.take_append_drop, Array.toArray_toList]
    rw [setRow_self w g cur t fz hg]
    rfl
  | v :: rest, i, cur, w, hg, hfz, hl, h1 => by
    have hi : o + i < cur.size := by simp at hl; omega
    have hadd : (⟨g, o, none⟩ : Addr).add i = ⟨g, o + i, none⟩ := by unfold Addr.add; split <;> simp_all
    have hcell : w.cell? ⟨g, o + i, none⟩ = some cur[o + i] := by simp [World.cell?, hg, hi]
    have hfro : w.frozen? ⟨g, o + i, none⟩ = false := by
      obtain ⟨lo, hi'⟩ := fz
      simp only [World.frozen?, hg, Bool.and_eq_false_iff, decide_eq_false_iff_not]
      simp only at hfz
      omega
    have hst : (store ((⟨g, o, none⟩ : Addr).add i) v).run P w = .ok () (w.setRow g (cur.setIfInBounds (o + i) v)) := by
      rw [hadd, run_store P w _ v _ (h1 v (by simp)), hcell]
      simp [hfro, setCell_eq_setRow w g (o + i) cur t fz v hg]
    have ih := run_storeCells_atM P g o t fz rest (i + 1) (cur.setIfInBounds (o + i) v) (w.setRow g (cur.setIfInBounds (o + i) v)) (setRow_heap w g cur _ t _ hg) (by simpa using hfz) (by simp at hl ⊢; omega) (fun x hx => h1 x (by simp [hx]))
    simp only [storeCells, Sem.run_bind, hst, Result.andThen_ok, ih, setRow_setRow]
    congr 3
    have e := list_seg_step cur.toList (o + i) v rest (by simp at hl ⊢; omega)
    simpa [Array.toList_setIfInBounds, Nat.add_assoc] using e
/-- a row of one's own of cells of one kind; a mark may lie behind it -/
def OwnM (w : World) (base : Nat) (e : TypeId) (v : Value) (n : Nat) (xs : List Value) : Prop :=
  xs.length = n ∧ ∃ g cap cur fz, v = .slice (some ⟨g, 0, none⟩) n cap ∧ base ≤ g ∧ w.heap[g]? = some (.cells cur e fz) ∧ (fz.2 = 0 ∨ cur.size ≤ fz.1) ∧ n ≤ cap ∧ cap ≤ maxLen ∧ cur.size = cap ∧ cur.toList.take n = xs
theorem OwnM.lt {w : World} {base : Nat} {e : TypeId} {v : Value} {n : Nat} {xs : List Value} (h : OwnM w base e v n xs) : ∀ k, v.ownBlock = some k → base ≤ k ∧ k < w.heap.size := fun k hk => by
  obtain ⟨-, g, cap, cur, fz, rfl, hb, hg, -⟩ := h
  obtain rfl : g = k := by simpa [Value.ownBlock] using hk
  exact ⟨hb, (Array.getElem?_eq_some_iff.1 hg).1⟩
theorem OwnM.block {w w' : World} {base : Nat} {e : TypeId} {v : Value} {n : Nat} {xs : List Value} (h : OwnM w base e v n xs) (hs : ∀ b, base ≤ b → b < w.heap.size → w'.heap[b]? = w.heap[b]?) : OwnM w' base e v n xs := by
  obtain ⟨h1, g, cap, cur, fz, rfl, hb, hg, r⟩ := h
  exact ⟨h1, g, cap, cur, fz, rfl, hb, (hs g hb (Array.getElem?_eq_some_iff.1 hg).1).trans hg, r⟩
theorem OwnM.below {w w' : World} {base : Nat} {e : TypeId} {v : Value} {n : Nat} {xs : List Value} (h : OwnM w base e v n xs) (hk : Keeps w w') : OwnM w' base e v n xs := h.block fun b _ hb => hk.block b hb
theorem OwnM.form {w : World} {base : Nat} {e : TypeId} {v : Value} {n : Nat} {xs : List Value} (h : OwnM w base e v n xs) : ∃ g cap, v = .slice (some ⟨g, 0, none⟩) n cap := by
  obtain ⟨h1, g, cap, cur, fz, rfl, r⟩ := h
  exact ⟨g, cap, rfl⟩
theorem OwnM.base {w : World} {base base' : Nat} {e : TypeId} {v : Value} {n : Nat} {xs : List Value} (h : OwnM w base e v n xs) (hb : base' ≤ base) : OwnM w base' e v n xs := by
  obtain ⟨h1, g, cap, cur, fz, rfl, h2, r⟩ := h
  exact ⟨h1, g, cap, cur, fz, rfl, by omega, r⟩
/-- the law -/
theorem run_append_M {P : Program} (w : World) (base : Nat) (t ty e : TypeId) (i : TypeInfo) (z : Value) (ht : P.underlying t = some (.slice e)) (hi : P.info? e = some i) (hz : i.zero = some z)
    (hsize : i.size = 1) (hby : i.bytes = 1) (hzs : z.cells.size = 1)
    (v : Value) (n : Nat) (xs : List Value) (hown : OwnM w base e v n xs)
    (A : Option Addr) (m c : Nat) (news : List Value) (hl : news.length = m) (hnews : 0 < m → ∃ a, A = some a ∧ ∀ j u, news[j]? = some u → w.cell? (a.add j) = some u) (h1 : ∀ u ∈ news, u.oneCell' = true)
    (h63 : n + m ≤ maxLen) (hbytes : n + m ≤ 140737488355328) (hbase : base ≤ w.heap.size) :
    ∃ v' w', (Builtin.append_ #[t, t] ty #[v, .slice A m c]).run P w = .ok v' w' ∧ OwnM w' base e v' (n + m) (xs ++ news) ∧ w.grownBy w' v.ownBlock := by
  have hsmall : n + m ≤ 9223372036854775807 := by simp only [maxLen] at h63; omega
  obtain ⟨hxl, g, cap, cur, fz, rfl, hbg, hg, hfz, hnc, hcm, hcs, htake⟩ := hown
  rcases Nat.eq_zero_or_pos m with rfl | hm
  · have hn : news = [] := List.eq_nil_of_length_eq_zero hl
    subst hn
    have hf : (Builtin.firstCells i.size 0 (.slice A 0 c)).run P w = .ok #[] w := by
      cases A with
      | none => exact run_firstCells_none w _ _ _ _
      | some a => exact run_firstCells_some w i.size 0 a 0 c [] (by simp) (fun j v h => by simp at h)
    refine ⟨_, w, ?_, ⟨by simpa using hxl, g, cap, cur, fz, rfl, hbg, hg, hfz, hnc, hcm, hcs, by simpa using htake⟩, ⟨rfl, rfl, rfl, Nat.le_refl _, fun _ _ _ => rfl⟩⟩
    simp [Builtin.append_, run_underlying ht, sizeOf, typeInfo, hi, Builtin.lenOf, hnc, hf, storeCells]
  · obtain ⟨a, rfl, hne⟩ := hnews hm
    by_cases hroom : n + m ≤ cap
    · have hf := run_firstCells_some (P := P) w i.size m a m c news (by rw [hl, hsize, Nat.mul_one]) hne
      rw [hsize] at hf
      have hst := run_storeCells_atM P g n e fz news 0 cur w hg hfz (by omega) h1
      simp only [Nat.add_zero] at hst
      refine ⟨.slice (some ⟨g, 0, none⟩) (n + m) cap, w.setRow g (cur.toList.take n ++ news ++ cur.toList.drop (n + news.length)).toArray, ?_, ⟨by simp [hxl, hl], g, cap, _, fz, rfl, hbg, setRow_heap w g cur _ e _ hg, ?_, hroom, hcm, ?_, ?_⟩, ⟨rfl, rfl, rfl, by simp, fun k _ hk => setRow_other w g k _ (fun e => hk (by simp [Value.ownBlock, e]))⟩⟩
      · simp [Builtin.append_, run_underlying ht, sizeOf, typeInfo, hi, Builtin.lenOf, hroom, hf, Addr.add_lit, hst, hsize]
      · have : (cur.toList.take n ++ news ++ cur.toList.drop (n + news.length)).toArray.size = cur.size := by simp; omega
        rw [this]
        exact hfz
      · simp only [List.size_toArray, List.length_append, List.length_take, List.length_drop, Array.length_toList]
        omega
      · rw [htake]
        have e : n + m = (xs ++ news).length := by simp [hxl, hl]
        simp only [e]
        exact List.take_left
    · have holds : ∀ j u, xs[j]? = some u → w.cell? ((⟨g, 0, none⟩ : Addr).add j) = some u := fun j u hu => by
        have hadd : (⟨g, 0, none⟩ : Addr).add j = ⟨g, j, none⟩ := by unfold Addr.add; split <;> simp_all
        rw [hadd, cell_of_row w g j cur e fz hg]
        rw [← htake, List.getElem?_take] at hu
        split at hu
        · simpa using hu
        · cases hu
      have hr := run_append_grow (P := P) w t ty e i z ht hi hz ⟨g, 0, none⟩ n cap xs (by rw [hsize, Nat.mul_one]; exact hxl) holds a m c news (by rw [hsize, Nat.mul_one]; exact hl) hne (by omega) (by omega) (growslice_fits (by omega) (by rw [hby, Nat.mul_one]; exact hbytes))
      have hge := grownCap_ge w (n + m) cap e
      have hcm' : grownCap w (n + m) cap e ≤ maxLen := grownCap_le_maxLen w (n + m) cap e h63
      refine ⟨_, _, hr, ⟨by simp [hxl, hl], w.heap.size, _, _, (0, 0), rfl, hbase, heap_alloc_new w.drew _, .inl rfl, hge, hcm', ?_, ?_⟩, ⟨rfl, rfl, rfl, by simp, fun k hk _ => heap_alloc_old w.drew _ hk⟩⟩
      · simp only [Array.size_append, List.size_toArray, size_zeroCells, hzs, hxl, hl, Nat.mul_one]
        omega
      · simp only [Array.toList_append, List.append_assoc]
        have e : n + m = (xs ++ news).length := by simp [hxl, hl]
        rw [← List.append_assoc, e]
        exact List.take_left
theorem wpList_append_M {P : Program} {w : World} {ops : Array Oper} {rest : List Oper} {o : Oper} {a : Act} {Q : Exit → Act → World → Prop} (hgd : o.guard = none) (s x : Operand) (t : TypeId)
    (ho : o.op = .call { callee := .builtin .append, args := #[s, x], argTypes := #[t, t] })
    (base : Nat) (e : TypeId) (i : TypeInfo) (z : Value) (ht : P.underlying t = some (.slice e)) (hi : P.info? e = some i) (hz : i.zero = some z)
    (hsize : i.size = 1) (hby : i.bytes = 1) (hzs : z.cells.size = 1)
    (v : Value) (n : Nat) (xs : List Value) (hs : a.eval s = v) (hown : OwnM w base e v n xs)
    (A : Option Addr) (m c : Nat) (news : List Value) (hx : a.eval x = .slice A m c) (hl : news.length = m) (hnews : 0 < m → ∃ a, A = some a ∧ ∀ j u, news[j]? = some u → w.cell? (a.add j) = some u) (h1 : ∀ u ∈ news, u.oneCell' = true)
    (h63 : n + m ≤ maxLen) (hbytes : n + m ≤ 140737488355328) (hbase : base ≤ w.heap.size)
    (h : ∀ v' w', OwnM w' base e v' (n + m) (xs ++ news) → w.grownBy w' v.ownBlock → wpList P ops Q rest (a.put o.dst v') w') : wpList P ops Q (o :: rest) a w := by
  refine wpList_plain hgd fun K hK => ?_
  obtain ⟨v', w', hr, h2, h3⟩ := run_append_M (P := P) w base t o.type e i z ht hi hz hsize hby hzs v n xs hown A m c news hl hnews h1 h63 hbytes hbase
  unfold Oper.wp execOp
  simp only [ho, resolve, invoke, builtin, Sem.run_bind, Sem.run_pure, Result.andThen_ok, List.map_toArray, List.map_cons, List.map_nil, hs, hx, hr]
  exact hK _ _ (h v' w' h2 h3)
theorem step_append_M {P : Program} {w : World} {ops : Array Oper} {o : Oper} {a : Act} {K : Act → World → Prop} {Q : Exit → Act → World → Prop} {E : Prop} (hgd : o.guard = none) (s x : Operand) (t : TypeId)
    (ho : o.op = .call { callee := .builtin .append, args := #[s, x], argTypes := #[t, t] })
    (base : Nat) (e : TypeId) (i : TypeInfo) (z : Value) (ht : P.underlying t = some (.slice e)) (hi : P.info? e = some i) (hz : i.zero = some z)
    (hsize : i.size = 1) (hby : i.bytes = 1) (hzs : z.cells.size = 1)
    (v : Value) (n : Nat) (xs : List Value) (hs : a.eval s = v) (hown : OwnM w base e v n xs)
    (A : Option Addr) (m c : Nat) (news : List Value) (hx : a.eval x = .slice A m c) (hl : news.length = m) (hnews : 0 < m → ∃ a, A = some a ∧ ∀ j u, news[j]? = some u → w.cell? (a.add j) = some u) (h1 : ∀ u ∈ news, u.oneCell' = true)
    (h63 : n + m ≤ maxLen) (hbytes : n + m ≤ 140737488355328) (hbase : base ≤ w.heap.size)
    (h : ∀ v' w', OwnM w' base e v' (n + m) (xs ++ news) → w.grownBy w' v.ownBlock → K (a.put o.dst v') w') :
    if Region.wanted o (yielded ops a.tmps) = true then Oper.wp P o a w K Q else E := by
  have hw : Region.wanted o (yielded ops a.tmps) = true := by simp [Region.wanted, hgd]
  rw [if_pos hw]
  obtain ⟨v', w', hr, h2, h3⟩ := run_append_M (P := P) w base t o.type e i z ht hi hz hsize hby hzs v n xs hown A m c news hl hnews h1 h63 hbytes hbase
  unfold Oper.wp execOp
  simp only [ho, resolve, invoke, builtin, Sem.run_bind, Sem.run_pure, Result.andThen_ok, List.map_toArray, List.map_cons, List.map_nil, hs, hx, hr]
  exact h v' w' h2 h3
theorem byte_one {l : List UInt8} : ∀ u ∈ Lib.byteCells l, u.oneCell' = true := fun u hu => by
  simp only [Lib.byteCells, List.mem_map] at hu
  obtain ⟨c, -, rfl⟩ := hu
  rfl
/-- a row of bytes as the cells that append asks for -/
theorem news_row {w : World} {A : Option Addr} {n : Nat} {l : List UInt8} (h : Row w A n (b8 l)) (hn : l.length = n) : 0 < n → ∃ a, A = some a ∧ ∀ j u, (Lib.byteCells l)[j]? = some u → w.cell? (a.add j) = some u := fun hp => by
  obtain ⟨b, o, rfl, -, hc⟩ := h hp
  refine ⟨_, rfl, fun j u hu => ?_⟩
  obtain ⟨rfl, hj⟩ := b8_cells l j u hu
  have hadd : (⟨b, o, none⟩ : Addr).add j = ⟨b, o + j, none⟩ := by unfold Addr.add; split <;> simp_all
  rw [hadd]
  exact hc j (by omega)
/-- such a row as a slice -/
theorem OwnM.slK {w : World} {base : Nat} {e : TypeId} {v : Value} {n : Nat} {l : List UInt8} (h : OwnM w base e v n (Lib.byteCells l)) (hn : l.length = n) : SlK (newB base) w v n (b8 l) := by
  obtain ⟨h0, g, cap, cur, fz, rfl, hb, hg, hfz, h1, h2, h3, h4⟩ := h
  refine ⟨_, cap, rfl, h1, h2, (fun e => by cases e), fun hp => ⟨g, 0, rfl, (Array.getElem?_eq_some_iff.1 hg).1, fun j hj => ?_⟩, fun b o _ e => by cases e; exact hb⟩
  rw [Nat.zero_add, cell_of_row w g j cur e fz hg]
  have := b8_get l j (by omega)
  rw [← h4, List.getElem?_take, if_pos hj] at this
  simpa using this
/-- what the conversion of a string leaves -/
theorem ownM_conv (w : World) (base : Nat) (e : TypeId) (s : List UInt8) (hb : base ≤ w.heap.size) (hs : s.length ≤ maxLen) :
    OwnM (Lib.bytesWorld w e ⟨s.toArray⟩) base e (.slice (some ⟨w.heap.size, 0, none⟩) s.length (grownCap w s.length 0 e)) s.length (Lib.byteCells s) := by
  have hge := grownCap_ge w s.length 0 e
  have hsz : (⟨s.toArray⟩ : ByteArray).size = s.length := List.size_toArray
  refine ⟨by simp [Lib.byteCells], w.heap.size, _, Lib.bytesCells w e ⟨s.toArray⟩, _, rfl, hb, Lib.bytesWorld_at_new w e _, .inr (Nat.le_refl _), hge, grownCap_le_maxLen w s.length 0 e hs, ?_, ?_⟩
  · simp [Lib.bytesCells, hsz]
    omega
  · simp [Lib.bytesCells, Lib.byteCells]
end Go.Proofs.YtomjnjpehokjbaaDoor

namespace Go.Proofs.YtomjnjpehokjbaaDoor
open Go.RowKit Go.Shelf

/-- what bytesOf hands back -/
def RBytPost (t : Tr) (w : World) (e : Ending) (w' : World) : Prop := ∃ V, e = .returned V ∧ OwnM w' w.heap.size 5 V (encT t).length (Lib.byteCells (encT t)) ∧ Keeps w w'
def RBytAt (N : Nat) (t : Tr) : Prop := ∀ (cs : List Value) (w : World), ValC anyB N w t cs → frmT t = true → (encT t).length ≤ 100000000 → Calls Tryd.prog 40 #[.agg cs.toArray] w (RBytPost t w)
theorem own5_c3 {w : World} {b : Nat} {t : TypeId} {a0 a1 a2 a3 a4 : Value} (h : Own w b t [a0, a1, a2, a3, a4]) : w.cell? ⟨b, 3, none⟩ = some a3 := h.cell 3
/-- the conversion of a text of one's own -/
theorem conv_str (w : World) (s : List UInt8) : (convert 9 26 (.string ⟨s.toArray⟩)).run Tryd.prog w = .ok (.slice (some ⟨w.heap.size, 0, none⟩) s.length (grownCap w s.length 0 5)) (Lib.bytesWorld w 5 ⟨s.toArray⟩) := by
  have hsz : (⟨s.toArray⟩ : ByteArray).size = s.length := List.size_toArray
  have := Lib.run_convert_string_bytes (P := Tryd.prog) w 9 26 5 ⟨s.toArray⟩ Tryd.underlying9 Tryd.underlying26 Tryd.underlying5
  rwa [hsz] at this
theorem cat2s (a c : UInt8) (l : List UInt8) : (⟨#[a]⟩ : ByteArray) ++ ⟨l.toArray⟩ ++ ⟨#[c]⟩ = ⟨(a :: (l ++ [c])).toArray⟩ := by
  apply ByteArray.ext
  simp
set_option maxRecDepth 100000 in
set_option maxHeartbeats 2000000 in
theorem rbyt_int {N : Nat} (hN : N ≤ 800000) (k : Int) (e0 : k = 0) (n : Bool) (g : List Nat) (x : List UInt8) (l : List Tr) : RBytAt N (.mk k n g x l) := by
  intro cs w hv hf hb
  obtain ⟨A, n1, c1, B, n2, c2, L, c, rfl, ⟨hbg, hbx, hbl⟩, ⟨rfl, hG⟩, ⟨rfl, hT⟩, hc, hE⟩ := hv.open_
  obtain ⟨W1, hW1⟩ : ∃ W1, w.alloc (.cells #[.int .i64 k, .bool n, .slice A g.length c1, .slice B x.length c2, .slice L l.length c] 29) = W1 := ⟨_, rfl⟩
  have hk1 : Keeps w W1 := hW1 ▸ box2 w _
  have q1 : Own W1 w.heap.size 29 [.int .i64 k, .bool n, .slice A g.length c1, .slice B x.length c2, .slice L l.length c] := hW1 ▸ Own.new w _ _
  have HX := Lib.hid (rtext_any n g _ W1 (U32.arg n (hG.below hk1)) (by omega))
  have HE : Hid (encT (.mk k n g x l) = 105 :: (textL (cnt n g) ++ [59])) := Lib.hid (by rw [encT_mk, if_pos e0])
  subst e0
  obtain ⟨tl, htl⟩ : ∃ tl, textL (cnt n g) = tl := ⟨_, rfl⟩
  rw [htl] at HX HE
  rw [HE.out] at hb
  have hS := cat2s 105 59 tl
  generalize hEE : 105 :: (tl ++ [59]) = E at *
  have hlE : tl.length + 2 = E.length := by rw [← hEE]; simp
  obtain ⟨tb, htb⟩ : ∃ tb : ByteArray, (⟨tl.toArray⟩ : ByteArray) = tb := ⟨_, rfl⟩
  have hsz : tb.size = tl.length := by rw [← htb]; exact List.size_toArray
  rw [htb] at HX hS
  have htbI : (tb.size : Int) ≤ 100000000 := by omega
  have hcv := fun w => conv_str w E
  have HO := Lib.hid (fun (w : World) (B : Nat) (h : B ≤ w.heap.size) => ownM_conv w B 5 E h (by simp only [maxLen]; omega))
  obtain ⟨S, hSS⟩ : ∃ S : ByteArray, (⟨E.toArray⟩ : ByteArray) = S := ⟨_, rfl⟩
  rw [hSS] at hS hcv HO
  clear hv hG hT hE hc hbg hbx hbl hf hlE hsz htb htl hEE hSS hb
  have HQ := Lib.hid q1
  have x0 := q1.cell 0
  have x1 := q1.cell 1
  have x2 := q1.cell 2
  have x3 := q1.cell 3
  have x4 := q1.cell 4
  simp only [List.getElem?_cons_zero, List.getElem?_cons_succ] at x0 x1 x2 x3 x4
  clear q1
  go_enter Tryd.func40, Tryd.ntmps40
  go_wp2_with fail
  refine HX.out.mono ?_
  rintro e w2 ⟨rfl, hk2⟩
  go_wp2
  go_ret
  refine ⟨_, rfl, ?_, (hk1.trans' hk2).trans' (Lib.bytesWorld_below _ _ _)⟩
  rw [HE.out]
  exact HO.out w2 w.heap.size (by have := hk1.size; have := hk2.size; omega)
end Go.Proofs.YtomjnjpehokjbaaDoor

namespace Go.Proofs.YtomjnjpehokjbaaDoor
open Go.RowKit Go.Shelf
def rb4Φ (Ad : Addr) (Vx : Value) (nx : Nat) (tb S : ByteArray) (Bs m : Nat) (E : List UInt8) : Nat → Value → World → Prop
  | 0, v, _ => v = .pointer (some Ad)
  | 1, v, _ => v = Vx
  | 2, v, _ => v = .int .i64 (nx : Nat)
  | 3, v, _ => v = .string tb
  | 4, v, _ => v = .string (⟨#[116]⟩ ++ tb)
  | 5, v, _ => v = .string S
  | 6, v, w => ∃ g c, v = .slice (some ⟨g, 0, none⟩) m c ∧ OwnM w Bs 5 v m (Lib.byteCells E)
  | 7, v, _ => v = .pointer (some Ad)
  | 8, v, _ => v = Vx
  | _, _, _ => True
set_option maxRecDepth 100000 in
set_option maxHeartbeats 2000000 in
theorem rbyt_txt {N : Nat} (hN : N ≤ 800000) (k : Int) (e0 : k = 1) (n : Bool) (g : List Nat) (x : List UInt8) (l : List Tr) : RBytAt N (.mk k n g x l) := by
  intro cs w hv hf hb
  obtain ⟨i0, hi, hz0, hz1, hz2⟩ := info_parts info_u8
  obtain ⟨A, n1, c1, B, n2, c2, L, c, rfl, ⟨hbg, hbx, hbl⟩, ⟨rfl, hG⟩, ⟨rfl, hT⟩, hc, hE⟩ := hv.open_
  obtain ⟨W1, hW1⟩ : ∃ W1, w.alloc (.cells #[.int .i64 k, .bool n, .slice A g.length c1, .slice B x.length c2, .slice L l.length c] 29) = W1 := ⟨_, rfl⟩
  have hk1 : Keeps w W1 := hW1 ▸ box2 w _
  have q1 : Own W1 w.heap.size 29 [.int .i64 k, .bool n, .slice A g.length c1, .slice B x.length c2, .slice L l.length c] := hW1 ▸ Own.new w _ _
  have HT := Lib.hid (SlK.row (hT.below hk1))
  have HE : Hid (encT (.mk k n g x l) = (116 :: (Lib.decDigits x.length ++ [58])) ++ x) := Lib.hid (by rw [encT_mk, e0]; simp)
  have HD := Lib.hid (fun w => rdecimal_any x.length w (by omega))
  have hdl := (decDigits_len x.length (by omega)).1
  subst e0
  obtain ⟨tl, htl⟩ : ∃ tl, Lib.decDigits x.length = tl := ⟨_, rfl⟩
  rw [htl] at HD HE hdl
  have hS := cat2s 116 58 tl
  generalize hEE : 116 :: (tl ++ [58]) = E at *
  have hlE : tl.length + 2 = E.length := by rw [← hEE]; simp
  obtain ⟨tb, htb⟩ : ∃ tb : ByteArray, (⟨tl.toArray⟩ : ByteArray) = tb := ⟨_, rfl⟩
  have hsz : tb.size = tl.length := by rw [← htb]; exact List.size_toArray
  rw [htb] at HD hS
  have htbI : (tb.size : Int) ≤ 9 := by omega
  have hcv := fun w => conv_str w E
  have HO := Lib.hid (fun (w : World) (B : Nat) (h : B ≤ w.heap.size) => ownM_conv w B 5 E h (by simp only [maxLen]; omega))
  obtain ⟨S, hSS⟩ : ∃ S : ByteArray, (⟨E.toArray⟩ : ByteArray) = S := ⟨_, rfl⟩
  rw [hSS] at hS hcv HO
  obtain ⟨m, hm⟩ : ∃ m, E.length = m := ⟨_, rfl⟩
  rw [hm] at hcv HO
  have hm2 : m ≤ 11 := by omega
  have HM := Lib.hid hm
  have hxI : (x.length : Int) ≤ 800000 := by omega
  have hx8 : x.length ≤ 800000 := by omega
  have hws := q1.lt
  clear hv hG hT hE hc hbg hbx hbl hf hlE hsz htb htl hEE hSS hb hdl hm
  have x0 := q1.cell 0
  have x1 := q1.cell 1
  have x2 := q1.cell 2
  have x3 := q1.cell 3
  have x4 := q1.cell 4
  simp only [List.getElem?_cons_zero, List.getElem?_cons_succ] at x0 x1 x2 x3 x4
  go_enter Tryd.func40, Tryd.ntmps40
  go_wp2
  have hs1 : (9223372036854775807 < 1 + tb.size) = False := eq_false (by omega)
  have hs2 : (9223372036854775807 < 1 + tb.size + 1) = False := eq_false (by omega)
  clear x0 x1 x2 x3 x4
  refine wp_region_steps (m := 9) rfl (by kernel_rfl) (rb4Φ ⟨w.heap.size, 3, none⟩ (.slice B x.length c2) x.length tb S (w.heap.size + 1) m E) [] ?_ ?_ ?_
  · intro i v w w' hi h hk
    match i, hi with
    | 0, _ | 1, _ | 2, _ | 3, _ | 4, _ | 5, _ | 7, _ | 8, _ => exact h
    | 6, _ => exact h.elim fun g h => h.elim fun c h => ⟨g, c, h.1, h.2.below hk⟩
    | i + 9, hi => exact absurd hi (by omega)
  · intro i hi vs wph3 hk3 hd
    have hq3 := q1.drew.below hk3
    have x3 := own5_c3 hq3
    have hb3 : w.heap.size + 1 ≤ wph3.heap.size := hq3.lt
    match i, hi with
    | 0, _ =>
      refine step_yes (o := ⟨some 17, Op.fieldAddr 29 (Operand.tmp 1) 2, 0, "ref.go:84", #[], none⟩) [] (by kernel_rfl) (by kernel_rfl) fun K hK => ?_
      simp only [frD] at hK ⊢
      refine ⟨by rfl, ?_⟩
      go_simp
      exact hK _ _ ⟨Below.refl _ _, rfl, by simp⟩
    | 1, _ =>
      have e0 : vs 0 = .pointer (some (⟨w.heap.size, 3, none⟩ : Addr)) := hd 0 (List.contains_iff_mem.1 (by kernel_rfl))
      refine step_yes (o := ⟨some 18, Op.load 26 (Operand.tmp 17), 26, "ref.go:84", #[{ on := 0, ground := Ground.data }], none⟩) [(0, some 17)] (by kernel_rfl) (by kernel_rfl) fun K hK => ?_
      simp only [frD, e0] at hK ⊢
      refine ⟨by rfl, ?_⟩
      go_simp
      exact hK _ _ ⟨Below.refl _ _, rfl, by simp⟩
    | 2, _ =>
      have e1 : vs 1 = (.slice B x.length c2) := hd 1 (List.contains_iff_mem.1 (by kernel_rfl))
      refine step_yes (o := ⟨some 19, Op.call { callee := Callee.builtin Builtin.len, args := #[Operand.tmp 18], argTypes := #[26] }, 3, "ref.go:84", #[{ on := 1, ground := Ground.data }], none⟩) [(1, some 18)] (by kernel_rfl) (by kernel_rfl) fun K hK => ?_
      simp only [frD, e1] at hK ⊢
      refine ⟨by rfl, ?_⟩
      go_simp
      exact hK _ _ ⟨Below.refl _ _, rfl, by simp⟩
    | 3, _ =>
      have e2 : vs 2 = .int .i64 (x.length : Nat) := hd 2 (List.contains_iff_mem.1 (by kernel_rfl))
      refine step_yes (o := ⟨some 20, Op.call { callee := Callee.value (Operand.func 60), args := #[Operand.tmp 19], argTypes := #[3] }, 9, "ref.go:84", #[{ on := 2, ground := Ground.data }], none⟩) [(2, some 19)] (by kernel_rfl) (by kernel_rfl) fun K hK => ?_
      simp only [frD, e2] at hK ⊢
      refine ⟨by rfl, ?_⟩
      go_simp
      refine (HD.out _).mono ?_
      rintro e wph4 ⟨rfl, hk4⟩
      exact hK _ _ ⟨hk4, rfl, by simp⟩
    | 4, _ =>
      have e3 : vs 3 = .string tb := hd 3 (List.contains_iff_mem.1 (by kernel_rfl))
      refine step_yes (o := ⟨some 21, Op.binOp BinOp.add 9 (Operand.const (Value.string { data := #[116] })) (Operand.tmp 20) 9, 9, "ref.go:84", #[{ on := 3, ground := Ground.data }], none⟩) [(3, some 20)] (by kernel_rfl) (by kernel_rfl) fun K hK => ?_
      simp only [frD, e3] at hK ⊢
      refine ⟨by rfl, ?_⟩
      go_simp
      exact hK _ _ ⟨Below.refl _ _, rfl, by simp⟩
    | 5, _ =>
      have e4 : vs 4 = .string (⟨#[116]⟩ ++ tb) := hd 4 (List.contains_iff_mem.1 (by kernel_rfl))
      refine step_yes (o := ⟨some 22, Op.binOp BinOp.add 9 (Operand.tmp 21) (Operand.const (Value.string { data := #[58] })) 9, 9, "ref.go:84", #[{ on := 4, ground := Ground.data }], none⟩) [(4, some 21)] (by kernel_rfl) (by kernel_rfl) fun K hK => ?_
      simp only [frD, e4] at hK ⊢
      refine ⟨by rfl, ?_⟩
      go_simp
      exact hK _ _ ⟨Below.refl _ _, rfl, by simp⟩
    | 6, _ =>
      have e5 : vs 5 = .string S := hd 5 (List.contains_iff_mem.1 (by kernel_rfl))
      refine step_yes (o := ⟨some 23, Op.convert 9 26 (Operand.tmp 22), 26, "ref.go:84", #[{ on := 5, ground := Ground.data }], none⟩) [(5, some 22)] (by kernel_rfl) (by kernel_rfl) fun K hK => ?_
      simp only [frD, e5] at hK ⊢
      refine ⟨by rfl, ?_⟩
      go_simp
      exact hK _ _ ⟨Lib.bytesWorld_below _ _ _, ⟨_, _, rfl, HO.out _ _ hb3⟩, by simp⟩
    | 7, _ =>
      refine step_yes (o := ⟨some 24, Op.fieldAddr 29 (Operand.tmp 1) 2, 0, "ref.go:84", #[], none⟩) [] (by kernel_rfl) (by kernel_rfl) fun K hK => ?_
      simp only [frD] at hK ⊢
      refine ⟨by rfl, ?_⟩
      go_simp
      exact hK _ _ ⟨Below.refl _ _, rfl, by simp⟩
    | 8, _ =>
      have e7 : vs 7 = .pointer (some (⟨w.heap.size, 3, none⟩ : Addr)) := hd 7 (List.contains_iff_mem.1 (by kernel_rfl))
      refine step_yes (o := ⟨some 25, Op.load 26 (Operand.tmp 24), 26, "ref.go:84", #[{ on := 7, ground := Ground.data }], none⟩) [(7, some 24)] (by kernel_rfl) (by kernel_rfl) fun K hK => ?_
      simp only [frD, e7] at hK ⊢
      refine ⟨by rfl, ?_⟩
      go_simp
      exact hK _ _ ⟨Below.refl _ _, rfl, by simp⟩
    | i + 9, hi => exact absurd hi (by omega)
  · intro vs wph3 hk3 hΦ _
    simp only [List.drop_succ_cons, List.drop_zero]
    rw [fr_frD, show (List.range 9).map _ = [(0, some 17), (1, some 18), (2, some 19), (3, some 20), (4, some 21), (5, some 22), (6, some 23), (7, some 24), (8, some 25)] by kernel_rfl]
    have ph0 := hΦ 0 (by omega)
    have ph1 := hΦ 1 (by omega)
    have ph2 := hΦ 2 (by omega)
    have ph3 := hΦ 3 (by omega)
    have ph4 := hΦ 4 (by omega)
    have ph5 := hΦ 5 (by omega)
    have ph6 := hΦ 6 (by omega)
    have ph7 := hΦ 7 (by omega)
    have ph8 := hΦ 8 (by omega)
    simp only [rb4Φ] at ph0 ph1 ph2 ph3 ph4 ph5 ph6 ph7 ph8
    clear hΦ
    simp only [frD, ph0, ph1, ph2, ph3, ph4, ph5, ph7, ph8]
    simp only [Act.put, List.setIfInBounds_toArray, List.set_cons_zero, List.set_cons_succ]
    clear ph0
    clear ph1
    clear ph2
    clear ph3
    clear ph4
    clear ph5
    generalize vs 6 = U6 at ph6 ⊢
    clear ph7
    clear ph8
    obtain ⟨gg, cc, rfl, hov⟩ := ph6
    have hq3 := q1.drew.below hk3
    have hb3 : w.heap.size + 1 ≤ wph3.heap.size := hq3.lt
    have HOV := Lib.hid hov
    have HR3 := Lib.hid (news_row ((HT.out.below (Below.drew (Below.refl _ W1))).below hk3) rfl)
    clear hov
    go_wp2_with (at_builtin; refine wpList_append_M rfl _ _ 26 rfl (w.heap.size + 1) 5 i0 (.int .u8 0) Tryd.underlying26 hi hz0 hz1 hz2 rfl _ m (Lib.byteCells E) rfl HOV.out B x.length c2 (Lib.byteCells x) rfl (by simp [Lib.byteCells]) HR3.out byte_one (by simp only [maxLen]; omega) (by omega) hb3 ?_)
    intro v' w4 hov4 hgr
    have HOV4 := Lib.hid hov4
    have hk4 : Keeps w w4 := (hk1.trans' (Keeps.trans' (w1 := W1.drew) (Below.drew (Below.refl _ W1)) hk3)).grown hgr (by omega) (fun b e => by have := (HOV.out.lt b e).1; omega)
    clear hov4
    go_wp2
    go_ret
    refine ⟨_, rfl, ?_, hk4⟩
    have e1 : (E ++ x).length = m + x.length := by rw [List.length_append, HM.out]
    have e2 : Lib.byteCells (E ++ x) = Lib.byteCells E ++ Lib.byteCells x := by simp [Lib.byteCells]
    rw [HE.out, e1, e2]
    exact HOV4.out.base (by omega)
end Go.Proofs.YtomjnjpehokjbaaDoor

namespace Go.Proofs.YtomjnjpehokjbaaDoor
open Go.RowKit Go.Shelf
/-- the bytes of the first elements -/
def encR (l : List Tr) (j : Nat) : List UInt8 := ((l.take j).map encT).flatten
theorem encR_succ {l : List Tr} {j : Nat} {y : Tr} (h : l[j]? = some y) : encR l (j + 1) = encR l j ++ encT y := by
  obtain ⟨h1, rfl⟩ := List.getElem?_eq_some_iff.1 h
  unfold encR
  rw [List.take_succ_eq_append_getElem h1, List.map_append, List.flatten_append, List.map_singleton, List.flatten_singleton]
theorem encR_all (l : List Tr) : encR l l.length = (l.map encT).flatten := by rw [encR, List.take_length]
theorem encR_le (l : List Tr) (j : Nat) : (encR l j).length ≤ ((l.map encT).flatten).length := by
  have h : l.map encT = (l.take j).map encT ++ (l.drop j).map encT := by rw [← List.map_append, List.take_append_drop]
  rw [h, List.flatten_append, List.length_append]
  unfold encR
  omega
set_option maxRecDepth 100000 in
set_option maxHeartbeats 2000000 in
theorem rbyt_lst {N : Nat} (hN : N ≤ 800000) (k : Int) (e0 : k = 2) (n : Bool) (g : List Nat) (x : List UInt8) (l : List Tr) (IH : ∀ y ∈ l, RBytAt N y) : RBytAt N (.mk k n g x l) := by
  intro cs w hv hf hb
  obtain ⟨i0, hi, hz0, hz1, hz2⟩ := info_parts info_u8
  obtain ⟨A, n1, c1, B, n2, c2, L, c, rfl, ⟨hbg, hbx, hbl⟩, ⟨rfl, hG⟩, ⟨rfl, hT⟩, hc, hE⟩ := hv.open_
  obtain ⟨W1, hW1⟩ : ∃ W1, w.alloc (.cells #[.int .i64 k, .bool n, .slice A g.length c1, .slice B x.length c2, .slice L l.length c] 29) = W1 := ⟨_, rfl⟩
  have hk1 : Keeps w W1 := hW1 ▸ box2 w _
  have q1 : Own W1 w.heap.size 29 [.int .i64 k, .bool n, .slice A g.length c1, .slice B x.length c2, .slice L l.length c] := hW1 ▸ Own.new w _ _
  have HFS := Lib.hid (frm_sub hf)
  have HEL := Lib.hid (hE.below hk1)
  have HI := Lib.hid IH
  have HE : Hid (encT (.mk k n g x l) = (108 :: (Lib.decDigits l.length ++ [58])) ++ (l.map encT).flatten) := Lib.hid (by rw [encT_mk, e0]; simp)
  rw [HE.out, List.length_append] at hb
  have HD := Lib.hid (fun w => rdecimal_any l.length w (by omega))
  have hdl := (decDigits_len l.length (by omega)).1
  subst e0
  obtain ⟨tl, htl⟩ : ∃ tl, Lib.decDigits l.length = tl := ⟨_, rfl⟩
  rw [htl] at HD HE hdl hb
  have hS := cat2s 108 58 tl
  generalize hEE : 108 :: (tl ++ [58]) = E at *
  have hlE : tl.length + 2 = E.length := by rw [← hEE]; simp
  obtain ⟨tb, htb⟩ : ∃ tb : ByteArray, (⟨tl.toArray⟩ : ByteArray) = tb := ⟨_, rfl⟩
  have hsz : tb.size = tl.length := by rw [← htb]; exact List.size_toArray
  rw [htb] at HD hS
  have htbI : (tb.size : Int) ≤ 9 := by omega
  have hcv := fun w => conv_str w E
  have HO := Lib.hid (fun (w : World) (B : Nat) (h : B ≤ w.heap.size) => ownM_conv w B 5 E h (by simp only [maxLen]; omega))
  obtain ⟨S, hSS⟩ : ∃ S : ByteArray, (⟨E.toArray⟩ : ByteArray) = S := ⟨_, rfl⟩
  rw [hSS] at hS hcv HO
  obtain ⟨m, hm⟩ : ∃ m, E.length = m := ⟨_, rfl⟩
  rw [hm] at hcv HO hb
  have HM := Lib.hid hm
  have HB := Lib.hid hb
  have hlI : (l.length : Int) ≤ 800000 := by omega
  have hws := q1.lt
  clear hv hG hT hE hc hbg hbx hbl hf hlE hsz htb htl hEE hSS hb hdl hm IH
  have HQ := Lib.hid q1
  have x0 := q1.cell 0
  have x1 := q1.cell 1
  have x2 := q1.cell 2
  have x3 := q1.cell 3
  have x4 := q1.cell 4
  simp only [List.getElem?_cons_zero, List.getElem?_cons_succ] at x0 x1 x2 x3 x4
  clear q1
  go_enter Tryd.func40, Tryd.ntmps40
  go_wp2_with fail
  refine (HD.out _).mono ?_
  rintro e w2 ⟨rfl, hk2⟩
  have hk3 : Keeps W1 (Lib.bytesWorld w2 5 S) := hk2.trans' (Lib.bytesWorld_below _ _ _)
  have HO3 := Lib.hid (HO.out w2 W1.heap.size hk2.size)
  go_upto_region 6 with fail
  obtain ⟨W3, hW3⟩ : ∃ W3, Lib.bytesWorld w2 5 S = W3 := ⟨_, rfl⟩
  rw [hW3] at hk3 HO3 ⊢
  have r0 := HQ.out.below hk3
  clear x0 x1 x2 x3 x4 hcv hW3
  go_wp2
  go_loopw [4, 3] (fun i V wr => ∃ (j p : Nat), j ≤ l.length ∧ i = .int .i64 (j : Nat) ∧ OwnM wr W1.heap.size 5 V p (Lib.byteCells (E ++ encR l j)) ∧ Hid (p = m + (encR l j).length) ∧ Keeps W1 wr) (fun i _ _ => l.length - (intOf i).toNat)
  case atStart => exact ⟨0, m, Nat.zero_le _, rfl, by have := HO3.out; simpa [encR] using this, Lib.hid (by simp [encR]), hk3⟩
  case round =>
    clear r0 hk3
    obtain ⟨j, p, hj, rfl, hov, HP, hkw⟩ := hrel
    have r1 := HQ.out.below hkw
    have x0 := r1.cell 0
    have x1 := r1.cell 1
    have x2 := r1.cell 2
    have x3 := r1.cell 3
    have x4 := r1.cell 4
    simp only [List.getElem?_cons_zero, List.getElem?_cons_succ] at x0 x1 x2 x3 x4
    clear r1
    obtain ⟨gg, cc, rfl⟩ := hov.form
    by_cases hlt : j < l.length
    · have hjI : (j : Int) < l.length := by omega
      obtain ⟨y, hy⟩ : ∃ y, l[j]? = some y := ⟨_, List.getElem?_eq_getElem hlt⟩
      obtain ⟨b, o, k1, z1, A1, n1, c1, B1, m1, d1, D1, l1, e1, rfl, -, hb, ⟨g0, g1, g2, g3, g4⟩, hv⟩ := (HEL.out.below hkw).get5 hy
      have hS1 := encR_succ hy
      have hle := encR_le l (j + 1)
      rw [hS1, List.length_append] at hle
      have HC := Lib.hid (HI.out y (List.mem_of_getElem? hy) _ wr hv (HFS.out y (List.mem_of_getElem? hy)) (by have := HB.out; omega))
      have HS1 := Lib.hid hS1
      have HLE := Lib.hid hle
      have HOV := Lib.hid hov
      clear hy hv hS1 hle hov
      go_wp2_with fail
      refine HC.out.mono ?_
      rintro e w4 ⟨V4, rfl, hov4, hk4⟩
      obtain ⟨g5, c5, rfl⟩ := hov4.form
      have HR := Lib.hid (news_row (SlK.row (hov4.slK rfl)) rfl)
      have HOV2 := Lib.hid (HOV.out.below hk4)
      have hs4 := (hkw.trans' hk4).size
      have hps : p + (encT y).length ≤ 100000000 := by have := HP.out; have := HB.out; have := HLE.out; omega
      clear hov4
      go_wp2_with (at_builtin; refine wpList_append_M rfl _ _ 26 rfl W1.heap.size 5 i0 (.int .u8 0) Tryd.underlying26 hi hz0 hz1 hz2 rfl _ p (Lib.byteCells (E ++ encR l j)) rfl HOV2.out (some ⟨g5, 0, none⟩) (encT y).length c5 (Lib.byteCells (encT y)) rfl (by simp [Lib.byteCells]) HR.out byte_one (by simp only [maxLen]; omega) (by omega) hs4 ?_)
      intro v' w5 hov5 hgr
      have hk5 : Keeps W1 w5 := (hkw.trans' hk4).grown hgr hs4 (fun b e => (HOV2.out.lt b e).1)
      have e2 : Lib.byteCells (E ++ encR l j) ++ Lib.byteCells (encT y) = Lib.byteCells (E ++ encR l (j + 1)) := by rw [HS1.out]; simp [Lib.byteCells]
      rw [e2] at hov5
      have HOV5 := Lib.hid hov5
      have HP2 : Hid (p + (encT y).length = m + (encR l (j + 1)).length) := Lib.hid (by rw [HS1.out, List.length_append, HP.out]; omega)
      clear hov5 e2
      go_wp2
      go_roundw
      case rel => exact ⟨j + 1, _, by omega, by go_num, HOV5.out, HP2, hk5⟩
      case measure => simp [intOf]; omega
    · obtain rfl : j = l.length := by omega
      have HOV := Lib.hid hov
      clear hov
      go_wp2
      go_ret
      refine ⟨_, rfl, ?_, hk1.trans' hkw⟩
      have hp : p = (E ++ (l.map encT).flatten).length := by rw [HP.out, encR_all, List.length_append, HM.out]
      rw [HE.out, ← hp, ← encR_all]
      exact HOV.out.base (by omega)
theorem rbytesOf_any {N : Nat} (hN : N ≤ 800000) (t : Tr) : RBytAt N t := Tr.ind (fun k n g x l IH => by
  by_cases h0 : k = 0
  · exact rbyt_int hN k h0 n g x l
  · by_cases h1 : k = 1
    · exact rbyt_txt hN k h1 n g x l
    · by_cases h2 : k = 2
      · exact rbyt_lst hN k h2 n g x l IH
      · intro cs w hv hf hb
        rw [frmT_mk] at hf
        simp [h0, h1, h2] at hf) t
end Go.Proofs.YtomjnjpehokjbaaDoor

namespace Go.Proofs.YtomjnjpehokjbaaDoor
open Go.RowKit Go.Shelf
set_option maxRecDepth 100000 in
set_option maxHeartbeats 2000000 in
theorem rcheck_any {N : Nat} (hN : N ≤ 800000) {t : Tr} {cs : List Value} {w : World} (hv : ValC anyB N w t cs) (hd : depT t ≤ 1000) (hb : (encT t).length ≤ 100000000) :
    Calls Tryd.prog 39 #[.agg cs.toArray] w fun e w' => e = .returned (.int .i64 (chkC t)) ∧ Keeps w w' := by
  obtain ⟨k, n, A, n1, c1, B, n2, c2, D, n3, c3, rfl⟩ := hv.form
  obtain ⟨W1, hW1⟩ : ∃ W1, w.alloc (.cells #[.int .i64 k, .bool n, .slice A n1 c1, .slice B n2 c2, .slice D n3 c3] 29) = W1 := ⟨_, rfl⟩
  have hk1 : Keeps w W1 := hW1 ▸ box2 w _
  have q1 : Own W1 w.heap.size 29 [.int .i64 k, .bool n, .slice A n1 c1, .slice B n2 c2, .slice D n3 c3] := hW1 ▸ Own.new w _ _
  have HV := Lib.hid (hv.keep hk1)
  have HF := Lib.hid (rformed_any (N := N) (by omega) t _ W1 HV.out)
  have HC := Lib.hid (chkC_ref t)
  have HQ := Lib.hid q1
  have x0 := q1.cell 0
  have x1 := q1.cell 1
  have x2 := q1.cell 2
  have x3 := q1.cell 3
  have x4 := q1.cell 4
  simp only [List.getElem?_cons_zero, List.getElem?_cons_succ] at x0 x1 x2 x3 x4
  clear q1 hv
  cases hf : frmT t with
  | false =>
    rw [hf] at HF
    have HE : Hid (chkC t = 1) := Lib.hid (by rw [HC.out, hf]; rfl)
    clear hf hd hb
    go_enter Tryd.func39, Tryd.ntmps39
    go_wp2_with fail
    refine HF.out.mono ?_
    rintro e w2 ⟨rfl, hk2⟩
    go_wp2
    go_ret
    exact ⟨by rw [HE.out]; first | done | rfl, hk1.trans' hk2⟩
  | true =>
    rw [hf] at HF
    go_enter Tryd.func39, Tryd.ntmps39
    go_wp2_with fail
    refine HF.out.mono ?_
    rintro e w2 ⟨rfl, hk2⟩
    have HD := Lib.hid (rdepth_any (N := N) (by omega) t _ w2 (HV.out.keep hk2) hd)
    have r2 := HQ.out.below hk2
    clear x0 x1 x2 x3 x4
    have x0 := r2.cell 0
    have x1 := r2.cell 1
    have x2 := r2.cell 2
    have x3 := r2.cell 3
    have x4 := r2.cell 4
    simp only [List.getElem?_cons_zero, List.getElem?_cons_succ] at x0 x1 x2 x3 x4
    clear r2
    obtain ⟨d, hdd⟩ : ∃ d, depT t = d := ⟨_, rfl⟩
    rw [hdd] at HD hd
    by_cases h8 : d ≤ 8
    · have t8 : decide ((8 : Int) < (d : Int)) = false := decide_eq_false (by omega)
      have HC2 : Hid (chkC t = if shoT t && decide ((encT t).length ≤ 65536) then 0 else 9) := Lib.hid (by rw [HC.out, hf, hdd, decide_eq_true h8]; rfl)
      have HFF := Lib.hid hf
      have HBB := Lib.hid hb
      clear h8 hdd hf hb
      go_wp2_with fail
      refine HD.out.mono ?_
      rintro e w3 ⟨rfl, hk3⟩
      have hk23 := hk2.trans' hk3
      have HS := Lib.hid (rshortV_any hN t _ w3 (HV.out.keep hk23) HFF.out)
      have r3 := HQ.out.below hk23
      clear x0 x1 x2 x3 x4
      have x0 := r3.cell 0
      have x1 := r3.cell 1
      have x2 := r3.cell 2
      have x3 := r3.cell 3
      have x4 := r3.cell 4
      simp only [List.getElem?_cons_zero, List.getElem?_cons_succ] at x0 x1 x2 x3 x4
      clear r3
      cases hs : shoT t with
      | false =>
        rw [hs] at HS
        have HE : Hid (chkC t = 9) := Lib.hid (by rw [HC2.out, hs]; rfl)
        clear hs
        go_wp2_with fail
        refine HS.out.mono ?_
        rintro e w4 ⟨rfl, hk4⟩
        go_wp2
        go_ret
        exact ⟨by rw [HE.out]; first | done | rfl, (hk1.trans' hk23).trans' hk4⟩
      | true =>
        rw [hs] at HS
        have HE : Hid (chkC t = if (encT t).length ≤ 65536 then 0 else 9) := Lib.hid (by rw [HC2.out, hs]; simp)
        clear hs
        go_wp2_with fail
        refine HS.out.mono ?_
        rintro e w4 ⟨rfl, hk4⟩
        have hk24 := hk23.trans' hk4
        have HB := Lib.hid (rbytesOf_any hN t _ w4 (HV.out.keep hk24) HFF.out HBB.out)
        have r4 := HQ.out.below hk24
        clear x0 x1 x2 x3 x4
        have x0 := r4.cell 0
        have x1 := r4.cell 1
        have x2 := r4.cell 2
        have x3 := r4.cell 3
        have x4 := r4.cell 4
        simp only [List.getElem?_cons_zero, List.getElem?_cons_succ] at x0 x1 x2 x3 x4
        clear r4
        go_wp2_with fail
        refine HB.out.mono ?_
        rintro e w5 ⟨V, rfl, hov, hk5⟩
        obtain ⟨gg, cc, rfl⟩ := hov.form
        obtain ⟨m, hm⟩ : ∃ m, (encT t).length = m := ⟨_, rfl⟩
        rw [hm] at HE ⊢
        have hmb : m ≤ 100000000 := by rw [← hm]; exact HBB.out
        clear hov hm
        by_cases h6 : m ≤ 65536
        · have t6 : decide ((65536 : Int) < (m : Int)) = false := decide_eq_false (by omega)
          have HE2 : Hid (chkC t = 0) := Lib.hid (by rw [HE.out, if_pos h6])
          clear h6
          go_wp2
          go_ret
          exact ⟨by rw [HE2.out]; first | done | rfl, (hk1.trans' hk24).trans' hk5⟩
        · have t6 : decide ((65536 : Int) < (m : Int)) = true := decide_eq_true (by omega)
          have HE2 : Hid (chkC t = 9) := Lib.hid (by rw [HE.out, if_neg h6])
          clear h6
          go_wp2
          go_ret
          exact ⟨by rw [HE2.out]; first | done | rfl, (hk1.trans' hk24).trans' hk5⟩
    · have t8 : decide ((8 : Int) < (d : Int)) = true := decide_eq_true (by omega)
      have HE : Hid (chkC t = 1) := Lib.hid (by rw [HC.out, hf, hdd, decide_eq_false h8]; rfl)
      clear h8 hdd hf hb
      go_wp2_with fail
      refine HD.out.mono ?_
      rintro e w3 ⟨rfl, hk3⟩
      go_wp2
      go_ret
      exact ⟨by rw [HE.out]; first | done | rfl, (hk1.trans' hk2).trans' hk3⟩
/-- what the reference's Encode hands back -/
def REncPost (t : Tr) (w : World) (e : Ending) (w' : World) : Prop := ∃ V, e = .returned (.tuple #[V, .int .i64 (chkC t)]) ∧ Keeps w w' ∧ ((chkC t = 0 ∧ SlK (newB w.heap.size) w' V (encT t).length (b8 (encT t))) ∨ (chkC t ≠ 0 ∧ V = .slice none 0 0))
set_option maxRecDepth 100000 in
set_option maxHeartbeats 2000000 in
theorem rencode_any {N : Nat} (hN : N ≤ 800000) {t : Tr} {cs : List Value} {w : World} (hv : ValC anyB N w t cs) (hd : depT t ≤ 1000) (hb : (encT t).length ≤ 100000000) :
    Calls Tryd.prog 20 #[.agg cs.toArray] w (REncPost t w) := by
  obtain ⟨k, n, A, n1, c1, B, n2, c2, D, n3, c3, rfl⟩ := hv.form
  obtain ⟨W1, hW1⟩ : ∃ W1, w.alloc (.cells #[.int .i64 k, .bool n, .slice A n1 c1, .slice B n2 c2, .slice D n3 c3] 29) = W1 := ⟨_, rfl⟩
  have hk1 : Keeps w W1 := hW1 ▸ box2 w _
  have q1 : Own W1 w.heap.size 29 [.int .i64 k, .bool n, .slice A n1 c1, .slice B n2 c2, .slice D n3 c3] := hW1 ▸ Own.new w _ _
  have HV := Lib.hid (hv.keep hk1)
  have HC := Lib.hid (rcheck_any hN HV.out hd hb)
  have HFR : Hid (chkC t = 0 → frmT t = true) := Lib.hid (by
    intro h
    rw [chkC_ref] at h
    cases hf : frmT t with
    | true => rfl
    | false => rw [hf] at h; simp at h)
  have HBB := Lib.hid hb
  have HQ := Lib.hid q1
  have x0 := q1.cell 0
  have x1 := q1.cell 1
  have x2 := q1.cell 2
  have x3 := q1.cell 3
  have x4 := q1.cell 4
  simp only [List.getElem?_cons_zero, List.getElem?_cons_succ] at x0 x1 x2 x3 x4
  clear q1 hv hd hb
  obtain ⟨c, hc⟩ : ∃ c, chkC t = c := ⟨_, rfl⟩
  rw [hc] at HC HFR
  by_cases h0 : c = 0
  · have HF := Lib.hid (HFR.out h0)
    have HCC : Hid (chkC t = 0) := Lib.hid (hc.trans h0)
    subst h0
    clear hc
    go_enter Tryd.func20, Tryd.ntmps20
    go_wp2_with fail
    refine HC.out.mono ?_
    rintro e w2 ⟨rfl, hk2⟩
    have HB := Lib.hid (rbytesOf_any hN t _ w2 (HV.out.keep hk2) HF.out HBB.out)
    have r2 := HQ.out.below hk2
    clear x0 x1 x2 x3 x4
    have x0 := r2.cell 0
    have x1 := r2.cell 1
    have x2 := r2.cell 2
    have x3 := r2.cell 3
    have x4 := r2.cell 4
    simp only [List.getElem?_cons_zero, List.getElem?_cons_succ] at x0 x1 x2 x3 x4
    clear r2
    go_wp2_with fail
    refine HB.out.mono ?_
    rintro e w3 ⟨V, rfl, hov, hk3⟩
    have HOV := Lib.hid hov
    clear hov
    have h12 := (hk1.trans' hk2).size
    go_wp2
    go_ret2
    exact ⟨V, by rw [HCC.out]; first | done | rfl, (hk1.trans' hk2).trans' hk3, .inl ⟨HCC.out, (HOV.out.base h12).slK rfl⟩⟩
  · have t0 : (c != 0) = true := by simpa using h0
    have HCC : Hid (chkC t = c ∧ chkC t ≠ 0) := Lib.hid ⟨hc, by rw [hc]; exact h0⟩
    clear hc h0
    go_enter Tryd.func20, Tryd.ntmps20
    go_wp2_with fail
    refine HC.out.mono ?_
    rintro e w2 ⟨rfl, hk2⟩
    go_wp2
    go_ret2
    exact ⟨_, by rw [HCC.out.1]; first | done | rfl, hk1.trans' hk2, .inr ⟨HCC.out.2, rfl⟩⟩
end Go.Proofs.YtomjnjpehokjbaaDoor
