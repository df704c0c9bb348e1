/- Keys in order: plain laws. -/
import Derived.Test.YtbkcnhbdjllojaaFChk
import Derived.Test.YtbkcnhbdjllojaaDecL
import Derived.Lib.SlicesS
import Derived.Lib.Bytealg
namespace Go.Proofs.Ytbkcnhbdjllojaa
open Go.RowKit Go.Shelf

theorem u8_lt_iff (x y : UInt8) : x < y ↔ x.toNat < y.toNat := Iff.rfl
theorem bL_trans : ∀ a b c : List UInt8, Op.bytesLess a b = true → Op.bytesLess b c = true → Op.bytesLess a c = true
  | _, _, [], _, h => by cases ‹List UInt8› <;> simp [Op.bytesLess] at h
  | _, [], _ :: _, h, _ => by cases ‹List UInt8› <;> simp [Op.bytesLess] at h
  | [], _ :: _, _ :: _, _, _ => rfl
  | x :: a, y :: b, z :: c, h1, h2 => by
    have ih := bL_trans a b c
    simp only [Op.bytesLess, Bool.or_eq_true, Bool.and_eq_true, decide_eq_true_eq, beq_iff_eq, u8_lt_iff] at h1 h2 ⊢
    rcases h1 with h1 | ⟨rfl, h1⟩
    · rcases h2 with h2 | ⟨rfl, h2⟩
      · exact .inl (by omega)
      · exact .inl h1
    · rcases h2 with h2 | ⟨rfl, h2⟩
      · exact .inl h2
      · exact .inr ⟨rfl, ih h1 h2⟩
theorem bL_irrefl : ∀ a : List UInt8, Op.bytesLess a a = false
  | [] => rfl
  | x :: a => by
    have ih := bL_irrefl a
    simp [Op.bytesLess, ih, u8_lt_iff]
theorem cmp_lt : ∀ a b : List UInt8, decide (Lib.compareBytes a b < 0) = Op.bytesLess a b
  | [], [] => rfl
  | [], _ :: _ => rfl
  | _ :: _, [] => rfl
  | x :: a, y :: b => by
    have ih := cmp_lt a b
    simp only [Lib.compareBytes, Op.bytesLess]
    rcases Nat.lt_trichotomy x.toNat y.toNat with h | h | h
    · have h1 : x < y := h
      simp [h1]
    · have h1 : x = y := UInt8.toNat_inj.1 h
      subst h1
      have h2 : ¬ x < x := fun e => by have : x.toNat < x.toNat := e; omega
      simpa [h2] using ih
    · have h1 : y < x := h
      have h2 : ¬ x < y := fun e => by have : x.toNat < y.toNat := e; omega
      have h3 : ¬ x = y := fun e => by subst e; omega
      simp [h1, h2, h3]
theorem cmp_eq : ∀ a b : List UInt8, (Lib.compareBytes a b = 0) ↔ a = b
  | [], [] => by simp [Lib.compareBytes]
  | [], _ :: _ => by simp [Lib.compareBytes]
  | _ :: _, [] => by simp [Lib.compareBytes]
  | x :: a, y :: b => by
    have ih := cmp_eq a b
    simp only [Lib.compareBytes]
    rcases Nat.lt_trichotomy x.toNat y.toNat with h | h | h
    · have h1 : x < y := h
      have h3 : ¬ x = y := fun e => by subst e; omega
      simp [h1, h3]
    · have h1 : x = y := UInt8.toNat_inj.1 h
      subst h1
      have h2 : ¬ x < x := fun e => by have : x.toNat < x.toNat := e; omega
      simp [h2, ih]
    · have h1 : y < x := h
      have h2 : ¬ x < y := fun e => by have : x.toNat < y.toNat := e; omega
      have h3 : ¬ x = y := fun e => by subst e; omega
      simp [h1, h2, h3]
theorem sLess_trans {a b c : ByteArray} (h1 : sLess a b = true) (h2 : sLess b c = true) : sLess a c = true := bL_trans _ _ _ h1 h2
theorem sLess_ne {a b : ByteArray} (h : sLess a b = true) : a ≠ b := fun e => by
  subst e
  rw [sLess, bL_irrefl] at h
  cases h
theorem sLess_not {a b : ByteArray} (h : sLess a b = true) : sLess b a = false := by
  cases h2 : sLess b a with
  | false => rfl
  | true => exact absurd rfl (sLess_ne (sLess_trans h h2))
theorem sLess_tri {a b : ByteArray} (h1 : sLess a b = false) (h2 : a ≠ b) : sLess b a = true := by
  have h := bytesLess_tri a.toList b.toList
  rw [show Op.bytesLess a.toList b.toList = false from h1] at h
  have h3 : (b.toList == a.toList) = false := by
    cases h4 : (b.toList == a.toList) with
    | false => rfl
    | true => exact absurd ((Lib.bytes_beq_iff _ _).1 h4).symm h2
  rw [h3] at h
  show Op.bytesLess b.toList a.toList = true
  simpa using h.symm
/-- all keys ahead of, all keys behind a key -/
def AllL (l : List Ent) (key : ByteArray) : Prop := ∀ e ∈ l, sLess e.1 key = true
def AllG (l : List Ent) (key : ByteArray) : Prop := ∀ e ∈ l, sLess key e.1 = true
theorem AllL.ne {l : List Ent} {key : ByteArray} (h : AllL l key) : ∀ e ∈ l, e.1 ≠ key := fun e he => sLess_ne (h e he)
theorem AllG.ne {l : List Ent} {key : ByteArray} (h : AllG l key) : ∀ e ∈ l, e.1 ≠ key := fun e he => (sLess_ne (h e he)).symm
def Sorted (es : List Ent) : Prop := es.Pairwise fun a b => sLess a.1 b.1 = true
theorem entC_sorted : ∀ (es : List Ent) (p : Option ByteArray), entC p es = 0 → (∀ q, p = some q → AllG es q) ∧ Sorted es
  | [], _, _ => ⟨fun _ _ _ he => (by cases he), List.Pairwise.nil⟩
  | (k, v) :: r, p, h => by
    have h1 : keyB k = true := by
      cases hk : keyB k with
      | true => rfl
      | false => rw [entC_key hk] at h; cases h
    have h2 : (p.all fun q => sLess q k) = true := by
      cases hq : (p.all fun q => sLess q k) with
      | true => rfl
      | false => rw [entC, if_neg (by simp [h1]), if_pos hq] at h; cases h
    have h3 : valC v = 0 := Classical.byContradiction fun hv => by rw [entC, if_neg (by simp [h1]), if_neg (by simp [h2]), if_pos hv] at h; exact hv h
    have h4 : entC (some k) r = 0 := by rwa [entC, if_neg (by simp [h1]), if_neg (by simp [h2]), if_neg (by simp [h3])] at h
    obtain ⟨i1, i2⟩ := entC_sorted r (some k) h4
    have i1 := i1 k rfl
    refine ⟨fun q hq e he => ?_, List.Pairwise.cons (fun e he => i1 e he) i2⟩
    subst hq
    have hqk : sLess q k = true := by simpa using h2
    rcases List.mem_cons.1 he with rfl | he
    · exact hqk
    · exact sLess_trans hqk (i1 e he)
theorem split_key (key : ByteArray) : ∀ (es : List Ent), Sorted es → (∃ l v r, es = l ++ (key, v) :: r ∧ AllL l key ∧ AllG r key) ∨ ∃ l r, es = l ++ r ∧ AllL l key ∧ AllG r key
  | [], _ => .inr ⟨[], [], rfl, fun _ h => (by cases h), fun _ h => (by cases h)⟩
  | (k, v) :: t, h => by
    obtain ⟨h1, h2⟩ := List.pairwise_cons.1 h
    cases hk : sLess k key with
    | true =>
      rcases split_key key t h2 with ⟨l, v', r, rfl, a, b⟩ | ⟨l, r, rfl, a, b⟩
      · refine .inl ⟨(k, v) :: l, v', r, rfl, fun e he => ?_, b⟩
        rcases List.mem_cons.1 he with rfl | he
        · exact hk
        · exact a e he
      · refine .inr ⟨(k, v) :: l, r, rfl, fun e he => ?_, b⟩
        rcases List.mem_cons.1 he with rfl | he
        · exact hk
        · exact a e he
    | false =>
      by_cases he : k = key
      · subst he
        exact .inl ⟨[], v, t, rfl, fun _ h => (by cases h), fun e he => h1 e he⟩
      · have hg := sLess_tri hk he
        refine .inr ⟨[], (k, v) :: t, rfl, fun _ h => (by cases h), fun e hm => ?_⟩
        rcases List.mem_cons.1 hm with rfl | hm
        · exact hg
        · exact sLess_trans hg (h1 e hm)
/-! the cells of entries -/
theorem entVs_length (es : List Ent) : (entVs es).length = 2 * es.length := by
  induction es with
  | nil => rfl
  | cons e r ih => rw [show entVs (e :: r) = .string e.1 :: .string e.2 :: entVs r from rfl]; simp [ih]; omega
theorem entVs_append (a b : List Ent) : entVs (a ++ b) = entVs a ++ entVs b := by simp [entVs]
theorem entVs_cons (e : Ent) (r : List Ent) : entVs (e :: r) = .string e.1 :: .string e.2 :: entVs r := rfl
theorem entVs_get {es : List Ent} {j : Nat} {k v : ByteArray} (h : es[j]? = some (k, v)) : (entVs es)[2 * j]? = some (.string k) ∧ (entVs es)[2 * j + 1]? = some (.string v) := by
  obtain ⟨hlt, he⟩ := List.getElem?_eq_some_iff.1 h
  have e : es = es.take j ++ (k, v) :: es.drop (j + 1) := by rw [← he, ← List.drop_eq_getElem_cons hlt, List.take_append_drop]
  have hl : (entVs (es.take j)).length = 2 * j := by rw [entVs_length, List.length_take]; omega
  rw [e, entVs_append, entVs_cons]
  constructor
  · rw [List.getElem?_append_right (by omega), hl]; simp
  · rw [List.getElem?_append_right (by omega), hl]; simp
theorem entVs_set {l r : List Ent} {k v x y : ByteArray} (sp : List Value) : ((entVs (l ++ (k, v) :: r) ++ sp).set (2 * l.length) (.string x)).set (2 * l.length + 1) (.string y) = entVs (l ++ (x, y) :: r) ++ sp := by
  have hl := entVs_length l
  simp only [entVs_append, entVs_cons, List.append_assoc, List.cons_append]
  rw [List.set_append_right _ _ (by omega), hl, Nat.sub_self, List.set_append_right _ _ (by omega), hl, show 2 * l.length + 1 - 2 * l.length = 1 by omega]
  rfl
theorem entVs_set1 {l r : List Ent} {k v y : ByteArray} (sp : List Value) : (entVs (l ++ (k, v) :: r) ++ sp).set (2 * l.length + 1) (.string y) = entVs (l ++ (k, y) :: r) ++ sp := by
  have hl := entVs_length l
  simp only [entVs_append, entVs_cons, List.append_assoc, List.cons_append]
  rw [List.set_append_right _ _ (by omega), hl, show 2 * l.length + 1 - 2 * l.length = 1 by omega]
  rfl
end Go.Proofs.Ytbkcnhbdjllojaa
