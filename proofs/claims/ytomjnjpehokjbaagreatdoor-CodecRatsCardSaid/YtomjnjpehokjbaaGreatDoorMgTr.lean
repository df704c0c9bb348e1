/- Values of the codec as trees: their form, their bytes. No program in sight. Values of the codec in memory. Rows of the call's own that hold no uint32: append keeps them so, and every row of uint32. No program in sight. Rows of values of the call's own. No program in sight. -/
import Derived.Test.YtomjnjpehokjbaaGreatDoorMgNum
import Derived.Test.YtomjnjpehokjbaaGreatDoorMgIntA
import Derived.Lib.AppendIntMem
import Derived.Maps.AppendAt
import Derived.Deep.AppendLies
namespace Go.Proofs.YtomjnjpehokjbaaGreatDoor

inductive Tr where
  | mk (k : Int) (neg : Bool) (gs : List Nat) (tx : List UInt8) (ls : List Tr)
namespace Tr
def kind : Tr → Int | mk k _ _ _ _ => k
def neg : Tr → Bool | mk _ n _ _ _ => n
def gs : Tr → List Nat | mk _ _ g _ _ => g
def tx : Tr → List UInt8 | mk _ _ _ t _ => t
def ls : Tr → List Tr | mk _ _ _ _ l => l
theorem eta (t : Tr) : t = mk t.kind t.neg t.gs t.tx t.ls := by cases t; rfl
theorem ind {P : Tr → Prop} (h : ∀ k n g t l, (∀ x ∈ l, P x) → P (mk k n g t l)) : ∀ t, P t
  | mk k n g t l => h k n g t l (fun x _ => ind h x)
end Tr
open Tr
/-- the zero api.Int -/
def noInt (n : Bool) (g : List Nat) : Bool := !n && decide (g.length = 0)
/-- the program's form, with at most so many lists around the deepest element -/
def vldD : Nat → Tr → Bool
  | 0, mk k n g t l => if k = 0 then decide (t.length = 0) && decide (l.length = 0) && validB n g else if k = 1 then noInt n g && decide (l.length = 0) else false
  | d + 1, mk k n g t l => if k = 0 then decide (t.length = 0) && decide (l.length = 0) && validB n g else if k = 1 then noInt n g && decide (l.length = 0) else if k = 2 then noInt n g && decide (t.length = 0) && l.all (vldD d) else false
/-- the integer's text is not too long -/
def shortZ (z : Int) : Bool := decide ((textL z).length ≤ 2000 + if z < 0 then 1 else 0)
def shD : Nat → Tr → Bool
  | 0, mk k n g _ _ => if k = 0 then shortZ (cnt n g) else true
  | d + 1, mk k n g _ l => if k = 0 then shortZ (cnt n g) else if k = 1 then true else l.all (shD d)
/-- the bytes of a value -/
def enD : Nat → Tr → List UInt8
  | 0, mk k n g t l => if k = 0 then 105 :: (textL (cnt n g) ++ [59]) else if k = 1 then 116 :: (Lib.decDigits t.length ++ 58 :: t) else 108 :: (Lib.decDigits l.length ++ [58])
  | d + 1, mk k n g t l => if k = 0 then 105 :: (textL (cnt n g) ++ [59]) else if k = 1 then 116 :: (Lib.decDigits t.length ++ 58 :: t) else 108 :: (Lib.decDigits l.length ++ 58 :: (l.map (enD d)).flatten)
/-- the code of a value -/
def chkC (v : Tr) : Int := if vldD 8 v then (if shD 8 v && decide ((enD 8 v).length ≤ 65536) then 0 else 9) else 1

/-- all of a value is equal -/
theorem Tr.ext2 {a b : Tr} (h1 : a.kind = b.kind) (h2 : a.neg = b.neg) (h3 : a.gs = b.gs) (h4 : a.tx = b.tx) (h5 : a.ls = b.ls) : a = b := by
  rw [a.eta, b.eta, h1, h2, h3, h4, h5]
theorem vld_kind : ∀ {d : Nat} {t : Tr}, vldD d t = true → t.kind = 0 ∨ t.kind = 1 ∨ t.kind = 2
  | 0, mk k n g t l, h => by
    simp only [vldD] at h
    split at h
    · exact .inl (by assumption)
    · split at h
      · exact .inr (.inl (by assumption))
      · cases h
  | d + 1, mk k n g t l, h => by
    simp only [vldD] at h
    split at h
    · exact .inl (by assumption)
    · split at h
      · exact .inr (.inl (by assumption))
      · split at h
        · exact .inr (.inr (by assumption))
        · cases h
/-- the integer of a canonical one -/
def intT (z : Int) : Tr := mk 0 (decide (z < 0)) (dig z.natAbs) [] []
def txtT (t : List UInt8) : Tr := mk 1 false [] t []
def lstT (l : List Tr) : Tr := mk 2 false [] [] l
theorem noInt_iff {n : Bool} {g : List Nat} : noInt n g = true ↔ n = false ∧ g = [] := by
  unfold noInt
  cases n <;> simp
theorem valid_form {n : Bool} {g : List Nat} (h : validB n g = true) : n = decide (cnt n g < 0) ∧ g = dig (cnt n g).natAbs := by
  have hd := validB_dig h
  have hc : cnt n g = sgn n (val g) := by unfold cnt mag; rw [if_pos h]
  rw [hc]
  cases n with
  | false => simp [sgn, hd]
  | true =>
    have h0 : val g ≠ 0 := fun e => by
      have : g = [] := by rw [← hd, e, dig_zero]
      subst this
      simp [validB] at h
    simp only [sgn, if_true]
    refine ⟨?_, ?_⟩
    · symm; rw [decide_eq_true_eq]; omega
    · rw [show (-(val g : Int)).natAbs = val g by omega, hd]
/-- a valid value is one of three forms -/
theorem vld_cases {d : Nat} {t : Tr} (h : vldD d t = true) : (∃ z, t = intT z) ∨ (∃ x, t = txtT x) ∨ (∃ e l, d = e + 1 ∧ t = lstT l ∧ ∀ x ∈ l, vldD e x = true) := by
  obtain ⟨k, n, g, t, l⟩ := t
  cases d with
  | zero =>
    simp only [vldD] at h
    split at h
    · rename_i hk
      simp only [Bool.and_eq_true, decide_eq_true_eq, List.length_eq_zero_iff] at h
      obtain ⟨⟨rfl, rfl⟩, hv⟩ := h
      have := valid_form hv
      exact .inl ⟨cnt n g, by rw [intT, ← this.1, ← this.2, hk]⟩
    · split at h
      · rename_i hk
        simp only [Bool.and_eq_true, decide_eq_true_eq, List.length_eq_zero_iff, noInt_iff] at h
        obtain ⟨⟨rfl, rfl⟩, rfl⟩ := h
        exact .inr (.inl ⟨t, by rw [txtT, hk]⟩)
      · cases h
  | succ d =>
    simp only [vldD] at h
    split at h
    · rename_i hk
      simp only [Bool.and_eq_true, decide_eq_true_eq, List.length_eq_zero_iff] at h
      obtain ⟨⟨rfl, rfl⟩, hv⟩ := h
      have := valid_form hv
      exact .inl ⟨cnt n g, by rw [intT, ← this.1, ← this.2, hk]⟩
    · split at h
      · rename_i hk
        simp only [Bool.and_eq_true, decide_eq_true_eq, List.length_eq_zero_iff, noInt_iff] at h
        obtain ⟨⟨rfl, rfl⟩, rfl⟩ := h
        exact .inr (.inl ⟨t, by rw [txtT, hk]⟩)
      · split at h
        · rename_i hk
          simp only [Bool.and_eq_true, decide_eq_true_eq, List.length_eq_zero_iff, noInt_iff, List.all_eq_true] at h
          obtain ⟨⟨⟨rfl, rfl⟩, rfl⟩, hl⟩ := h
          exact .inr (.inr ⟨d, l, rfl, by rw [lstT, hk], hl⟩)
        · cases h
end Go.Proofs.YtomjnjpehokjbaaGreatDoor

namespace Go.Proofs.YtomjnjpehokjbaaGreatDoor
open Go.RowKit

def b8 (xs : List UInt8) (j : Nat) : Value := .int .u8 ((xs.getD j 0).toNat : Nat)
/-- a slice that reads as f, its block one of those that are allowed -/
def SlK (ok : Nat → Prop) (w : World) (v : Value) (n : Nat) (f : Nat → Value) : Prop :=
  ∃ A c, v = .slice A n c ∧ n ≤ c ∧ c ≤ maxLen ∧ (A = none → c = 0) ∧ Row w A n f ∧ ∀ b o, 0 < n → A = some ⟨b, o, none⟩ → ok b
theorem keeps32 {w w' : World} (hk : Keeps w w') : Same32 w w' := fun _ _ h => h.below hk
theorem same32_refl (w : World) : Same32 w w := fun _ _ h => h
theorem Same32.trans {w w1 w2 : World} (h : Same32 w w1) (h2 : Same32 w1 w2) : Same32 w w2 := fun v xs hv => h2 v xs (h v xs hv)
/-- five cells read as a value; every block that is read is allowed -/
inductive ValC (ok : Nat → Prop) (N : Nat) (w : World) : Tr → List Value → Prop
  | mk (k : Int) (n : Bool) (g : List Nat) (t : List UInt8) (l : List Tr) (G T : Value) (L : Option Addr) (c b o : Nat) (cs : Nat → List Value)
    (hb : g.length ≤ N ∧ t.length ≤ N ∧ l.length ≤ N) (hG : U32 w G g) (hT : SlK ok w T t.length (b8 t))
    (hc : l.length ≤ c ∧ c ≤ maxLen ∧ (L = none → c = 0)) (hL : 0 < l.length → L = some ⟨b, o, none⟩ ∧ ok b ∧ b < w.heap.size)
    (hcs : ∀ j x, l[j]? = some x → (cs j).length = 5 ∧ ∀ i v, (cs j)[i]? = some v → w.cell? ⟨b, o + j * 5 + i, none⟩ = some v)
    (hv : ∀ j x, l[j]? = some x → ValC ok N w x (cs j)) :
    ValC ok N w (.mk k n g t l) [.int .i64 k, .bool n, G, T, .slice L l.length c]
abbrev anyB : Nat → Prop := fun _ => True
abbrev newB (base : Nat) : Nat → Prop := fun b => base ≤ b
section
variable {ok ok' : Nat → Prop} {N M : Nat} {w w' : World} {t : Tr} {cs : List Value}
theorem SlK.map {v : Value} {n : Nat} {f : Nat → Value} (h : SlK ok w v n f) (hs : ∀ b, ok b → b < w.heap.size → w'.heap[b]? = w.heap[b]?) (hk : ∀ b, ok b → b < w.heap.size → ok' b) : SlK ok' w' v n f := by
  obtain ⟨A, c, rfl, h1, h2, h0, hr, hok⟩ := h
  refine ⟨A, c, rfl, h1, h2, h0, fun hn => ?_, fun b o hn e => ?_⟩
  · obtain ⟨b, o, rfl, hlt, hc⟩ := hr hn
    have he := hs b (hok b o hn rfl) hlt
    refine ⟨b, o, rfl, ?_, fun j hj => (World.cell?_of_block he).trans (hc j hj)⟩
    rcases Nat.lt_or_ge b w'.heap.size with h | h
    · exact h
    · rw [Array.getElem?_eq_none h, Array.getElem?_eq_getElem hlt] at he
      cases he
  · obtain ⟨b', o', e', hlt, -⟩ := hr hn
    rw [e] at e'
    cases e'
    exact hk b (hok b o hn e) hlt
/-- a value lasts where its blocks last -/
theorem ValC.map (h : ValC ok N w t cs) (hs : ∀ b, ok b → b < w.heap.size → w'.heap[b]? = w.heap[b]?) (h32 : Same32 w w') (hk : ∀ b, ok b → b < w.heap.size → ok' b) (hN : N ≤ M) : ValC ok' M w' t cs := by
  induction h with
  | mk k n g t l G T L c b o cs hb hG hT hc hL hcs hv ih =>
    have key : 0 < l.length → w'.heap[b]? = w.heap[b]? := fun hp => hs b (hL hp).2.1 (hL hp).2.2
    refine .mk k n g t l G T L c b o cs ⟨by omega, by omega, by omega⟩ (h32 _ _ hG) (hT.map hs hk) hc (fun hp => ?_) (fun j x hj => ?_) ih
    · obtain ⟨e, h1, h2⟩ := hL hp
      refine ⟨e, hk b h1 h2, ?_⟩
      have he := key hp
      rcases Nat.lt_or_ge b w'.heap.size with h | h
      · exact h
      · rw [Array.getElem?_eq_none h, Array.getElem?_eq_getElem h2] at he
        cases he
    · obtain ⟨h1, h2⟩ := hcs j x hj
      have hp : 0 < l.length := by have := (List.getElem?_eq_some_iff.1 hj).1; omega
      exact ⟨h1, fun i v hi => (World.cell?_of_block (key hp)).trans (h2 i v hi)⟩
theorem ValC.keep (h : ValC ok N w t cs) (hk : Keeps w w') : ValC ok N w' t cs := h.map (fun b _ hb => hk.block b hb) (keeps32 hk) (fun _ h _ => h) (Nat.le_refl _)
theorem ValC.any (h : ValC ok N w t cs) : ValC anyB N w t cs := h.map (fun _ _ _ => rfl) (same32_refl _) (fun _ _ _ => trivial) (Nat.le_refl _)
theorem ValC.le (h : ValC ok N w t cs) (hN : N ≤ M) : ValC ok M w t cs := h.map (fun _ _ _ => rfl) (same32_refl _) (fun _ h _ => h) hN
theorem ValC.mono (h : ValC ok N w t cs) (hk : ∀ b, ok b → b < w.heap.size → ok' b) : ValC ok' N w t cs := h.map (fun _ _ _ => rfl) (same32_refl _) hk (Nat.le_refl _)
theorem ValC.drew (h : ValC ok N w t cs) : ValC ok N w.drew t cs := h.map (fun _ _ _ => rfl) (fun _ _ h => h) (fun _ h _ => h) (Nat.le_refl _)
theorem ValC.size (h : ValC ok N w t cs) : cs.length = 5 := by cases h; rfl
end
/-- the elements of a list of values in memory -/
def ElsC (ok : Nat → Prop) (N : Nat) (w : World) (L : Option Addr) (l : List Tr) : Prop :=
  ∀ j x, l[j]? = some x → ∃ b o c0 c1 c2 c3 c4, L = some ⟨b, o, none⟩ ∧ ok b ∧ b < w.heap.size ∧ (w.cell? ⟨b, o + j * 5, none⟩ = some c0 ∧ w.cell? ⟨b, o + j * 5 + 1, none⟩ = some c1 ∧ w.cell? ⟨b, o + j * 5 + 2, none⟩ = some c2 ∧ w.cell? ⟨b, o + j * 5 + 3, none⟩ = some c3 ∧ w.cell? ⟨b, o + j * 5 + 4, none⟩ = some c4) ∧ ValC ok N w x [c0, c1, c2, c3, c4]
section
variable {ok ok' : Nat → Prop} {N M : Nat} {w w' : World} {t : Tr} {cs : List Value}
theorem list5 {α : Type} {l : List α} (h : l.length = 5) : ∃ a b c d e, l = [a, b, c, d, e] := by
  match l, h with
  | [a, b, c, d, e], _ => exact ⟨a, b, c, d, e, rfl⟩
/-- a value opened -/
theorem ValC.open_ {k : Int} {n : Bool} {g : List Nat} {x : List UInt8} {l : List Tr} (h : ValC ok N w (.mk k n g x l) cs) : ∃ A n1 c1 B n2 c2 L c, cs = [.int .i64 k, .bool n, .slice A n1 c1, .slice B n2 c2, .slice L l.length c] ∧ (g.length ≤ N ∧ x.length ≤ N ∧ l.length ≤ N) ∧
    (n1 = g.length ∧ U32 w (.slice A n1 c1) g) ∧ (n2 = x.length ∧ SlK ok w (.slice B n2 c2) x.length (b8 x)) ∧ (l.length ≤ c ∧ c ≤ maxLen ∧ (L = none → c = 0)) ∧ ElsC ok N w L l := by
  generalize ht : Tr.mk k n g x l = t0 at h
  cases h with
  | mk k' n' g' x' l' G T L c b o cs hb hG hT hc hL hcs hv =>
    obtain ⟨rfl, rfl, rfl, rfl, rfl⟩ : k = k' ∧ n = n' ∧ g = g' ∧ x = x' ∧ l = l' := by simpa using ht
    obtain ⟨A, c1, rfl, r1⟩ := id hG
    obtain ⟨B, c2, rfl, r2⟩ := id hT
    refine ⟨A, _, c1, B, _, c2, L, c, rfl, hb, ⟨rfl, hG⟩, ⟨rfl, hT⟩, hc, fun j y hj => ?_⟩
    have hp : 0 < l.length := by have := (List.getElem?_eq_some_iff.1 hj).1; omega
    obtain ⟨e, h1, h2⟩ := hL hp
    obtain ⟨h5, hcell⟩ := hcs j y hj
    have hvj := hv j y hj
    obtain ⟨c0, c1, c2, c3, c4, e5⟩ := list5 h5
    rw [e5] at hcell hvj
    exact ⟨b, o, c0, c1, c2, c3, c4, e, h1, h2, ⟨hcell 0 _ rfl, hcell 1 _ rfl, hcell 2 _ rfl, hcell 3 _ rfl, hcell 4 _ rfl⟩, hvj⟩
/-- a value made of its parts -/
theorem ValC.make {k : Int} {n : Bool} {g : List Nat} {x : List UInt8} {l : List Tr} {G T : Value} {L : Option Addr} {c : Nat} (hb : g.length ≤ N ∧ x.length ≤ N ∧ l.length ≤ N) (hG : U32 w G g) (hT : SlK ok w T x.length (b8 x)) (hc : l.length ≤ c ∧ c ≤ maxLen ∧ (L = none → c = 0)) (he : ElsC ok N w L l) :
    ValC ok N w (.mk k n g x l) [.int .i64 k, .bool n, G, T, .slice L l.length c] := by
  cases l with
  | nil =>
    refine .mk k n g x [] G T L c 0 0 (fun _ => []) hb hG hT hc (fun h => absurd h (by simp)) (fun j y hj => by simp at hj) (fun j y hj => by simp at hj)
  | cons a r =>
    obtain ⟨b, o, -, -, -, -, -, rfl, h1, h2, -, -⟩ := he 0 a rfl
    have key : ∀ j, ∃ ys : List Value, ∀ y, (a :: r)[j]? = some y → ys.length = 5 ∧ (∀ i v, ys[i]? = some v → w.cell? ⟨b, o + j * 5 + i, none⟩ = some v) ∧ ValC ok N w y ys := fun j => by
      cases hj : (a :: r)[j]? with
      | none => exact ⟨[], fun y hy => by cases hy⟩
      | some y =>
        obtain ⟨b', o', c0, c1, c2, c3, c4, e, -, -, ⟨h0, h1, h2, h3, h4⟩, hv⟩ := he j y hj
        cases e
        refine ⟨[c0, c1, c2, c3, c4], fun y' hy => ?_⟩
        cases hy
        refine ⟨rfl, fun i v hi => ?_, hv⟩
        match i, hi with
        | 0, hi => cases hi; exact h0
        | 1, hi => cases hi; exact h1
        | 2, hi => cases hi; exact h2
        | 3, hi => cases hi; exact h3
        | 4, hi => cases hi; exact h4
    obtain ⟨f, hf⟩ : ∃ f : Nat → List Value, ∀ j y, (a :: r)[j]? = some y → (f j).length = 5 ∧ (∀ i v, (f j)[i]? = some v → w.cell? ⟨b, o + j * 5 + i, none⟩ = some v) ∧ ValC ok N w y (f j) :=
      ⟨fun j => (key j).choose, fun j => (key j).choose_spec⟩
    exact .mk k n g x (a :: r) G T (some ⟨b, o, none⟩) c b o f hb hG hT hc (fun _ => ⟨rfl, h1, h2⟩) (fun j y hj => ⟨(hf j y hj).1, (hf j y hj).2.1⟩) (fun j y hj => (hf j y hj).2.2)
/-- the forms of a value's five cells -/
theorem ValC.form (h : ValC ok N w t cs) : ∃ k n A n1 c1 B n2 c2 D n3 c3, cs = [.int .i64 k, .bool n, .slice A n1 c1, .slice B n2 c2, .slice D n3 c3] := by
  obtain ⟨k, n, g, x, l⟩ := t
  obtain ⟨A, n1, c1, B, n2, c2, L, c, rfl, -⟩ := h.open_
  exact ⟨k, n, A, n1, c1, B, n2, c2, L, _, c, rfl⟩
theorem ElsC.get5 {L : Option Addr} {l : List Tr} (h : ElsC ok N w L l) {j : Nat} {x : Tr} (hj : l[j]? = some x) : ∃ b o k n A n1 c1 B n2 c2 D n3 c3, L = some ⟨b, o, none⟩ ∧ ok b ∧ b < w.heap.size ∧
    (w.cell? ⟨b, o + j * 5, none⟩ = some (.int .i64 k) ∧ w.cell? ⟨b, o + j * 5 + 1, none⟩ = some (.bool n) ∧ w.cell? ⟨b, o + j * 5 + 2, none⟩ = some (.slice A n1 c1) ∧ w.cell? ⟨b, o + j * 5 + 3, none⟩ = some (.slice B n2 c2) ∧ w.cell? ⟨b, o + j * 5 + 4, none⟩ = some (.slice D n3 c3)) ∧ ValC ok N w x [.int .i64 k, .bool n, .slice A n1 c1, .slice B n2 c2, .slice D n3 c3] := by
  obtain ⟨b, o, c0, c1, c2, c3, c4, e, h1, h2, h3, hv⟩ := h j x hj
  obtain ⟨k, n, A, n1, d1, B, n2, d2, D, n3, d3, e5⟩ := hv.form
  simp only [List.cons.injEq, and_true] at e5
  obtain ⟨rfl, rfl, rfl, rfl, rfl⟩ := e5
  exact ⟨b, o, k, n, A, n1, d1, B, n2, d2, D, n3, d3, e, h1, h2, h3, hv⟩
theorem ElsC.map {L : Option Addr} {l : List Tr} (h : ElsC ok N w L l) (hs : ∀ b, ok b → b < w.heap.size → w'.heap[b]? = w.heap[b]?) (h32 : Same32 w w') (hk : ∀ b, ok b → b < w.heap.size → ok' b) (hN : N ≤ M) : ElsC ok' M w' L l := fun j x hj => by
  obtain ⟨b, o, c0, c1, c2, c3, c4, rfl, h1, h2, ⟨g0, g1, g2, g3, g4⟩, hv⟩ := h j x hj
  have he := hs b h1 h2
  have hlt : b < w'.heap.size := by
    rcases Nat.lt_or_ge b w'.heap.size with h | h
    · exact h
    · rw [Array.getElem?_eq_none h, Array.getElem?_eq_getElem h2] at he
      cases he
  exact ⟨b, o, c0, c1, c2, c3, c4, rfl, hk b h1 h2, hlt, ⟨(World.cell?_of_block he).trans g0, (World.cell?_of_block he).trans g1, (World.cell?_of_block he).trans g2, (World.cell?_of_block he).trans g3, (World.cell?_of_block he).trans g4⟩, hv.map hs h32 hk hN⟩
theorem ElsC.below {L : Option Addr} {l : List Tr} (h : ElsC ok N w L l) (hk : Keeps w w') : ElsC ok N w' L l := h.map (fun b _ hb => hk.block b hb) (keeps32 hk) (fun _ h _ => h) (Nat.le_refl _)
theorem SlK.below {v : Value} {n : Nat} {f : Nat → Value} (h : SlK ok w v n f) (hk : Keeps w w') : SlK ok w' v n f := h.map (fun b _ hb => hk.block b hb) (fun _ h _ => h)
theorem U32.row {A : Option Addr} {m c : Nat} {xs : List Nat} (h : U32 w (.slice A m c) xs) : Row w A xs.length (u32 xs) := by
  obtain ⟨A', c', e, -, -, -, hr⟩ := h
  cases e
  exact hr
theorem SlK.nil {f : Nat → Value} : SlK ok w (.slice none 0 0) 0 f := ⟨none, 0, rfl, Nat.le_refl _, by simp [maxLen], fun _ => rfl, Row.zero, fun _ _ h => absurd h (by omega)⟩
theorem ElsC.nil {L : Option Addr} : ElsC ok N w L [] := fun j x h => by simp at h
end
end Go.Proofs.YtomjnjpehokjbaaGreatDoor

namespace Go.Proofs.YtomjnjpehokjbaaGreatDoor
open Go.RowKit

def OwnsC (w : World) (base : Nat) (e : TypeId) (size : Nat) (v : Value) (n : Nat) (xs : List Value) : Prop :=
  w.ownsRow base e size v n xs ∧ ∀ g, v.ownBlock = some g → ∃ cur, w.heap[g]? = some (.cells cur e (0, 0)) ∧ cur.toList.all noU32 = true
section
variable {w w' : World} {base : Nat} {e : TypeId} {size : Nat} {v : Value} {n : Nat} {xs : List Value}
theorem OwnsC.nil : OwnsC w base e size (.slice none 0 0) 0 [] := ⟨World.ownsRow_nil _ _ _ _, fun g h => by simp [Value.ownBlock] at h⟩
theorem OwnsC.same (h : OwnsC w base e size v n xs) (hs : ∀ b, base ≤ b → b < w.heap.size → w'.heap[b]? = w.heap[b]?) : OwnsC w' base e size v n xs := by
  obtain ⟨⟨hl, ho⟩, hc⟩ := h
  refine ⟨⟨hl, ?_⟩, fun g hg => ?_⟩
  · rcases ho with ⟨e, h0⟩ | ⟨g, cap, cur, e, hb, hg, hr⟩
    · exact .inl ⟨e, h0⟩
    · exact .inr ⟨g, cap, cur, e, hb, (hs g hb (Array.getElem?_eq_some_iff.1 hg).1).trans hg, hr⟩
  · obtain ⟨cur, h1, h2⟩ := hc g hg
    rcases ho with ⟨e, h0⟩ | ⟨g', cap, cur', e, hb, hg', hr⟩
    · subst e; simp [Value.ownBlock] at hg
    · subst e
      obtain rfl : g' = g := by simpa [Value.ownBlock] using hg
      exact ⟨cur, (hs g' hb (Array.getElem?_eq_some_iff.1 hg').1).trans h1, h2⟩
theorem OwnsC.blk (h : OwnsC w base e size v n xs) : ∀ g, v.ownBlock = some g → base ≤ g ∧ g < w.heap.size := fun g hg => h.1.lt g hg
/-- what grows beside a clean row keeps every row of uint32 -/
theorem OwnsC.same32 (h : OwnsC w base e size v n xs) (hg : w.grownBy w' v.ownBlock) : Same32 w w' := by
  rintro u ys ⟨A, c, rfl, h1, h2, h0, hrow⟩
  refine ⟨A, c, rfl, h1, h2, h0, fun hn => ?_⟩
  obtain ⟨b, o, rfl, hlt, hc⟩ := hrow hn
  have hne : some b ≠ v.ownBlock := by
    intro e2
    obtain ⟨cur, hh, hall⟩ := h.2 b e2.symm
    have hc0 := hc 0 hn
    rw [cell_of_row w b (o + 0) cur _ _ hh] at hc0
    have hm : u32 ys 0 ∈ cur.toList := by
      rw [← Array.getElem?_toList] at hc0
      exact List.mem_of_getElem? hc0
    have := List.all_eq_true.1 hall _ hm
    simp [u32, noU32] at this
  exact ⟨b, o, rfl, Nat.lt_of_lt_of_le hlt hg.size, fun j hj => hg.cell (hc j hj) hne⟩
theorem zero_noU {z : Array Value} (hz : z.toList.all noU32 = true) (k : Nat) : (Builtin.zeroCells z k).toList.all noU32 = true := by
  rw [List.all_eq_true]
  intro x hx
  unfold Builtin.zeroCells at hx
  simp only [Array.toList_map, List.mem_map] at hx
  obtain ⟨i, hi, rfl⟩ := hx
  have hi : i < k * z.size := by simpa using hi
  have hp : 0 < z.size := Nat.pos_of_ne_zero fun h => by rw [h] at hi; simp at hi
  have hlt : i % z.size < z.size := Nat.mod_lt _ hp
  rw [getElem!_pos z _ hlt]
  exact List.all_eq_true.1 hz _ (Array.getElem_mem_toList hlt)
theorem OwnsC.xs_all (h : OwnsC w base e size v n xs) : xs.all noU32 = true := by
  obtain ⟨⟨hl, ⟨e, h0⟩ | ⟨g, cap, cur, e, hb, hg, hnc, hcm, hcs, ht⟩⟩, hc⟩ := h
  · have : xs = [] := List.eq_nil_of_length_eq_zero (by rw [hl, h0]; simp)
    subst this
    rfl
  · subst e
    obtain ⟨cur', h1, h2⟩ := hc g rfl
    rw [hg] at h1
    cases h1
    rw [List.all_eq_true] at h2 ⊢
    intro x hx
    rw [← ht] at hx
    exact h2 x (List.mem_of_mem_take hx)
end
theorem run_append_cln {P : Program} (w : World) (base : Nat) (t ty e : TypeId) (i : TypeInfo) (z : Value) (size bytes : Nat) (ht : P.underlying t = some (.slice e)) (hi : P.info? e = some i) (hz : i.zero = some z)
    (hsize : i.size = size) (hby : i.bytes = bytes) (hzs : z.cells.size = size) (hzc : z.cells.toList.all noU32 = true)
    (v : Value) (n : Nat) (xs : List Value) (hownc : OwnsC w base e size v n xs)
    (a : Addr) (m c : Nat) (news : List Value) (hl : news.length = m * size) (hm0 : 0 < m) (hnews : ∀ j u, news[j]? = some u → w.cell? (a.add j) = some u) (h1 : ∀ u ∈ news, u.oneCell' = true) (hnc' : news.all noU32 = true)
    (h63 : n + m ≤ maxLen) (hbytes : (n + m) * bytes ≤ 140737488355328) (hbase : base ≤ w.heap.size) :
    ∃ v' w', (Builtin.append_ #[t, t] ty #[v, .slice (some a) m c]).run P w = .ok v' w' ∧ OwnsC w' base e size v' (n + m) (xs ++ news) ∧ w.grownBy w' v.ownBlock ∧ (v'.ownBlock = v.ownBlock ∨ v'.ownBlock = some w.heap.size) := by
  subst hsize
  subst hby
  have hxall := hownc.xs_all
  have hown := hownc.1
  have hsmall : n + m ≤ 9223372036854775807 := by simp only [maxLen] at h63; omega
  have hlen : (xs ++ news).length = (n + m) * i.size := by rw [List.length_append, hown.1, hl, Nat.add_mul]
  have grown : ∀ (old : Nat), old < n + m → ∀ (row : Option Nat),
      OwnsC (w.drew.alloc (.cells (xs.toArray ++ news.toArray ++ Builtin.zeroCells z.cells (grownCap w (n + m) old e - (n + m))) e)) base e i.size
        (.slice (some ⟨w.heap.size, 0, none⟩) (n + m) (grownCap w (n + m) old e)) (n + m) (xs ++ news) ∧
      w.grownBy (w.drew.alloc (.cells (xs.toArray ++ news.toArray ++ Builtin.zeroCells z.cells (grownCap w (n + m) old e - (n + m))) e)) row := by
    intro old ho row
    have hge := grownCap_ge w (n + m) old e
    have hcm : grownCap w (n + m) old e ≤ maxLen := grownCap_le_maxLen w (n + m) old e h63
    refine ⟨⟨⟨hlen, .inr ⟨w.heap.size, _, _, rfl, hbase, heap_alloc_new w.drew _, hge, hcm, ?_, ?_⟩⟩, fun g hg => ?_⟩, ⟨rfl, rfl, rfl, by simp, fun k hk _ => heap_alloc_old w.drew _ hk⟩⟩
    · simp only [Array.size_append, List.size_toArray, size_zeroCells, hzs, hown.1, hl, ← Nat.add_mul]
      congr 1
      omega
    · simp only [Array.toList_append, List.append_assoc]
      rw [← List.append_assoc, ← hlen]
      exact List.take_left
    · obtain rfl : w.heap.size = g := by simpa [Value.ownBlock] using hg
      refine ⟨_, heap_alloc_new w.drew _, ?_⟩
      simp only [Array.toList_append, List.all_append, hxall, hnc', zero_noU hzc, Bool.true_and]
  rcases hown.2 with ⟨rfl, rfl⟩ | ⟨g, cap, cur, rfl, hbg, hg, hnc, hcm, hcs, htake⟩
  · have hx : xs = [] := List.eq_nil_of_length_eq_zero (by simpa using hown.1)
    subst hx
    have hr := run_append_nil (P := P) w t ty e i z ht hi hz a m c news hl hnews (by omega) (by omega) (by have hb := hbytes; simp only [Nat.zero_add] at hb; omega)
    have hgr := grown 0 (by omega) (Value.ownBlock (.slice none 0 0))
    simp only [Nat.zero_add, List.nil_append, Array.empty_append] at hgr ⊢
    exact ⟨_, _, hr, hgr.1, hgr.2, Or.inr rfl⟩
  · obtain ⟨cur', hg', hall⟩ := hownc.2 g rfl
    rw [hg] at hg'
    cases hg'
    by_cases hroom : n + m ≤ cap
    · have hfit : n * i.size + news.length ≤ cur.size := by rw [hl, hcs, ← Nat.add_mul]; exact Nat.mul_le_mul_right _ hroom
      have hr := run_append_room (P := P) w t ty e i ht hi g n cap cur hg a m c news hl hnews h1 hroom hfit
      refine ⟨_, _, hr, ⟨⟨hlen, .inr ⟨g, cap, _, rfl, hbg, setRow_heap w g cur _ e _ hg, hroom, hcm, ?_, ?_⟩⟩, fun g2 hg2 => ?_⟩, ⟨rfl, rfl, rfl, by simp, fun k _ hk => setRow_other w g k _ (fun e => hk (by simp [Value.ownBlock, e]))⟩, Or.inl rfl⟩
      · simp only [List.size_toArray, List.length_append, List.length_take, List.length_drop, Array.length_toList]
        omega
      · rw [htake, ← hlen]
        exact List.take_left
      · obtain rfl : g = g2 := by simpa [Value.ownBlock] using hg2
        refine ⟨_, setRow_heap w g cur _ e _ hg, ?_⟩
        rw [htake]
        simp only [List.all_append, hxall, hnc', Bool.true_and]
        rw [List.all_eq_true] at hall ⊢
        intro x hx
        exact hall x (List.mem_of_mem_drop hx)
    · have holds : ∀ j u, xs[j]? = some u → w.cell? ((⟨g, 0, none⟩ : Addr).add j) = some u := hown.cells (g := g) rfl
      have hr := run_append_grow (P := P) w t ty e i z ht hi hz ⟨g, 0, none⟩ n cap xs hown.1 holds a m c news hl hnews (by omega) (by omega) (growslice_fits (by omega) hbytes)
      have hgr := grown cap (by omega) (Value.ownBlock (.slice (some ⟨g, 0, none⟩) n cap))
      exact ⟨_, _, hr, hgr.1, hgr.2, Or.inr rfl⟩
theorem wpList_append_cln {P : Program} {w : World} {ops : Array Oper} {rest : List Oper} {o : Oper} {a : Act} {Q : Exit → Act → World → Prop} (hgd : o.guard = none) (s x : Operand) (t : TypeId)
    (ho : o.op = .call { callee := .builtin .append, args := #[s, x], argTypes := #[t, t] })
    (base : Nat) (e : TypeId) (i : TypeInfo) (z : Value) (size bytes : Nat) (ht : P.underlying t = some (.slice e)) (hi : P.info? e = some i) (hz : i.zero = some z)
    (hsize : i.size = size) (hby : i.bytes = bytes) (hzs : z.cells.size = size) (hzc : z.cells.toList.all noU32 = true)
    (v : Value) (n : Nat) (xs : List Value) (hs : a.eval s = v) (hown : OwnsC w base e size v n xs)
    (ad : Addr) (m c : Nat) (news : List Value) (hx : a.eval x = .slice (some ad) m c) (hl : news.length = m * size) (hm0 : 0 < m) (hnews : ∀ j u, news[j]? = some u → w.cell? (ad.add j) = some u) (h1 : ∀ u ∈ news, u.oneCell' = true) (hnc : news.all noU32 = true)
    (h63 : n + m ≤ maxLen) (hbytes : (n + m) * bytes ≤ 140737488355328) (hbase : base ≤ w.heap.size)
    (h : ∀ v' w', OwnsC w' base e size v' (n + m) (xs ++ news) → w.grownBy w' v.ownBlock → (v'.ownBlock = v.ownBlock ∨ v'.ownBlock = some w.heap.size) → wpList P ops Q rest (a.put o.dst v') w') : wpList P ops Q (o :: rest) a w := by
  refine wpList_plain hgd fun K hK => ?_
  obtain ⟨v', w', hr, h2, h3, h4⟩ := run_append_cln (P := P) w base t o.type e i z size bytes ht hi hz hsize hby hzs hzc v n xs hown ad m c news hl hm0 hnews h1 hnc h63 hbytes hbase
  unfold Oper.wp execOp
  simp only [ho, resolve, invoke, builtin, Sem.run_bind, Sem.run_pure, Result.andThen_ok, List.map_toArray, List.map_cons, List.map_nil, hs, hx, hr]
  exact hK _ _ (h v' w' h2 h3 h4)
end Go.Proofs.YtomjnjpehokjbaaGreatDoor

namespace Go.Proofs.YtomjnjpehokjbaaGreatDoor
open Go.RowKit

theorem info_val : (Tryz.prog.info? 30).map (fun i => (i.zero, i.size, i.bytes)) = some (some (.agg #[.int .i64 0, .bool false, .slice none 0 0, .slice none 0 0, .slice none 0 0]), 5, 88) := by kernel_rfl
/-- a row of the call's own that holds values, none of whose blocks is the row's -/
def RowV (N : Nat) (w : World) (base : Nat) (V : Value) (l : List Tr) : Prop :=
  ∃ xs : List Value, OwnsC w base 30 5 V l.length xs ∧ ∀ j x, l[j]? = some x → ∃ cs : List Value, (∀ i v, cs[i]? = some v → xs[j * 5 + i]? = some v) ∧ ValC (fun q => base ≤ q ∧ some q ≠ V.ownBlock) N w x cs
section
variable {N : Nat} {w w' : World} {base : Nat} {V : Value} {l : List Tr}
theorem RowV.nil : RowV N w base (.slice none 0 0) [] := ⟨[], OwnsC.nil, fun j x h => by simp at h⟩
/-- a row lasts where nothing from its base on is turned -/
theorem RowV.same (h : RowV N w base V l) (hs : ∀ b, base ≤ b → b < w.heap.size → w'.heap[b]? = w.heap[b]?) (h32 : Same32 w w') : RowV N w' base V l := by
  obtain ⟨xs, ho, he⟩ := h
  refine ⟨xs, ho.same hs, fun j x hj => ?_⟩
  obtain ⟨cs, h1, h2⟩ := he j x hj
  exact ⟨cs, h1, h2.map (fun b hb hlt => hs b hb.1 hlt) h32 (fun _ h _ => h) (Nat.le_refl _)⟩
theorem RowV.keep (h : RowV N w base V l) (hk : Keeps w w') : RowV N w' base V l := h.same (fun b _ hlt => hk.block b hlt) (keeps32 hk)
theorem RowV.turn {T : List Nat} (h : RowV N w base V l) (ht : Turn T w w') (h32 : Same32 w w') (hT : ∀ k ∈ T, k < base) : RowV N w' base V l := h.same (fun b hb hlt => ht.block b hlt fun hm => by have := hT b hm; omega) h32
theorem RowV.put (h : RowV N w base V l) {p : Addr} (hp : p.block < base) (u : Value) (h32 : Same32 w (w.setCell p u)) : RowV N (w.setCell p u) base V l := h.same (fun b hb _ => Below.heap_setCell w p u b (by omega)) h32
theorem RowV.blk (h : RowV N w base V l) : ∀ g, V.ownBlock = some g → base ≤ g ∧ g < w.heap.size := by
  obtain ⟨xs, ho, -⟩ := h
  exact ho.blk
theorem RowV.sl (h : RowV N w base V l) : ∃ A c, V = .slice A l.length c ∧ l.length ≤ c ∧ c ≤ maxLen ∧ (A = none → c = 0) := by
  obtain ⟨xs, ho, -⟩ := h
  exact ho.1.sl
/-- the row behind an append -/
theorem RowV.grow {V' : Value} {xs news : List Value} {t : Tr} (ho : OwnsC w base 30 5 V l.length xs)
    (he : ∀ j x, l[j]? = some x → ∃ cs : List Value, (∀ i v, cs[i]? = some v → xs[j * 5 + i]? = some v) ∧ ValC (fun q => base ≤ q ∧ some q ≠ V.ownBlock) N w x cs)
    (hv : ValC (fun q => base ≤ q ∧ some q ≠ V.ownBlock) N w t news)
    (hown : OwnsC w' base 30 5 V' (l.length + 1) (xs ++ news)) (hg : w.grownBy w' V.ownBlock) (hat : V'.ownBlock = V.ownBlock ∨ V'.ownBlock = some w.heap.size) : RowV N w' base V' (l ++ [t]) := by
  have hxl : xs.length = l.length * 5 := ho.1.1
  have hmap : ∀ x cs, ValC (fun q => base ≤ q ∧ some q ≠ V.ownBlock) N w x cs → ValC (fun q => base ≤ q ∧ some q ≠ V'.ownBlock) N w' x cs := fun x cs h => h.map (fun b hb hlt => hg.block b hlt hb.2) (ho.same32 hg) (fun b hb hlt => ⟨hb.1, fun e => by
    rcases hat with h | h
    · exact hb.2 (by rw [e, h])
    · rw [h] at e
      cases e
      omega⟩) (Nat.le_refl _)
  refine ⟨xs ++ news, by rw [List.length_append, List.length_singleton]; exact hown, fun j x hj => ?_⟩
  by_cases hlt : j < l.length
  · rw [List.getElem?_append_left hlt] at hj
    obtain ⟨cs, h1, h2⟩ := he j x hj
    refine ⟨cs, fun i v hi => ?_, hmap _ _ h2⟩
    have h3 := h1 i v hi
    rw [List.getElem?_append_left (List.getElem?_eq_some_iff.1 h3).1]
    exact h3
  · have hj2 : j = l.length := by
      have := (List.getElem?_eq_some_iff.1 hj).1
      rw [List.length_append, List.length_singleton] at this
      omega
    subst hj2
    rw [List.getElem?_append_right (Nat.le_refl _), Nat.sub_self] at hj
    obtain rfl : t = x := by simpa using hj
    refine ⟨news, fun i v hi => ?_, hmap _ _ hv⟩
    rw [List.getElem?_append_right (by omega), show l.length * 5 + i - xs.length = i by omega]
    exact hi
/-- such a row read -/
theorem RowV.els (h : RowV N w base V l) : ∃ A c, V = .slice A l.length c ∧ (l.length ≤ c ∧ c ≤ maxLen ∧ (A = none → c = 0)) ∧ ElsC (newB base) N w A l := by
  obtain ⟨xs, ho, he⟩ := h
  obtain ⟨A, c, rfl, h1, h2, h3⟩ := ho.1.sl
  refine ⟨A, c, rfl, ⟨h1, h2, h3⟩, fun j x hj => ?_⟩
  have hlt := (List.getElem?_eq_some_iff.1 hj).1
  obtain ⟨cs, h4, h5⟩ := he j x hj
  obtain ⟨hl, ⟨e, h0⟩ | ⟨g, cap, cur, e, hb, hg, hnc, hcm, hcs, ht⟩⟩ := id ho.1
  · omega
  · cases e
    obtain ⟨c0, c1, c2, c3, c4, rfl⟩ := list5 h5.size
    have hc : ∀ (i : Nat) (u : Value), xs[i]? = some u → w.cell? ⟨g, i, none⟩ = some u := fun i u hi => by
      have := ho.1.cells (g := g) rfl i u hi
      rwa [show (⟨g, 0, none⟩ : Addr).add i = ⟨g, i, none⟩ by unfold Addr.add; split <;> simp_all] at this
    refine ⟨g, 0, c0, c1, c2, c3, c4, rfl, hb, (Array.getElem?_eq_some_iff.1 hg).1, ?_, h5.mono (fun q hq _ => hq.1)⟩
    simp only [Nat.zero_add]
    exact ⟨hc _ _ (h4 0 _ rfl), hc _ _ (h4 1 _ rfl), hc _ _ (h4 2 _ rfl), hc _ _ (h4 3 _ rfl), hc _ _ (h4 4 _ rfl)⟩
end
end Go.Proofs.YtomjnjpehokjbaaGreatDoor
