/- The file of a frame: plain lists of bytes; rows and boxes are apart. -/
import Derived.Test.YtbkcnhbdjllojaaChunk
import Derived.Test.YtbkcnhbdjllojaaBits
import Derived.Test.YtbkcnhbdjllojaaFChk
import Derived.Lib.AppendStr
namespace Go.Proofs.Ytbkcnhbdjllojaa
open Go.RowKit Go.Shelf

/-- a text's bytes -/
def bytesN (s : ByteArray) : List Nat := s.data.toList.map UInt8.toNat
theorem bytesN_length (s : ByteArray) : (bytesN s).length = s.size := by rw [bytesN, List.length_map, Array.length_toList]; rfl
theorem bytesN_append (a b : ByteArray) : bytesN (a ++ b) = bytesN a ++ bytesN b := by simp [bytesN]
theorem strCells_u8s (s : ByteArray) : Lib.strCells s = u8s (bytesN s) := by simp [Lib.strCells, u8s, bytesN]
theorem bytesN_oct (s : ByteArray) : Oct (bytesN s) := fun x hx => by
  obtain ⟨c, -, rfl⟩ := List.mem_map.1 hx
  exact c.toNat_lt
def magicB : List Nat := [70, 82, 65, 77, 69, 49, 10]
/-- the line of an entry -/
def entB (e : Ent) : List Nat := bytesN e.1 ++ [32] ++ bytesN e.2 ++ [10]
def headB (es : List Ent) : List Nat := magicB ++ es.flatMap entB ++ [10]
def sizesB (W H m : Nat) : List Nat := fourB W ++ fourB H ++ fourB m
/-- a row of residuals -/
def rowN (l : List Int) : List Nat := bestI l :: pack (codesB (bestI l) (l.map Int.toNat))
/-- the row number y -/
def rowOf (l : List Int) (W y : Nat) : List Int := (l.drop (y * W)).take W
def rowsB (l : List Int) (W : Nat) (H : Nat) : List Nat := (List.range H).flatMap fun y => rowN (rowOf l W y)
def fileB (es : List Ent) (W H m : Nat) (px : List Int) : List Nat := headB es ++ sizesB W H m ++ rowsB (resI px W m) W H
theorem rowsB_succ (l : List Int) (W H : Nat) : rowsB l W (H + 1) = rowsB l W H ++ rowN (rowOf l W H) := by
  simp [rowsB, List.range_succ]
theorem flatMap_take_succ {es : List Ent} {j : Nat} {e : Ent} (h : es[j]? = some e) : (es.take (j + 1)).flatMap entB = (es.take j).flatMap entB ++ entB e := by
  obtain ⟨hlt, rfl⟩ := List.getElem?_eq_some_iff.1 h
  rw [List.take_succ_eq_append_getElem hlt, List.flatMap_append]
  simp
/-- entries that are right are short -/
theorem entC_short : ∀ (es : List Ent) (p : Option ByteArray), entC p es = 0 → ∀ e ∈ es, e.1.size ≤ 24 ∧ e.2.size ≤ 120
  | [], _, _, _, h => by cases h
  | (k, v) :: r, p, h, e, he => by
    have h1 : keyB k = true := by
      cases hk : keyB k with
      | true => rfl
      | false => rw [entC, if_pos hk] at h; cases h
    rw [entC, if_neg (by simp [h1])] at h
    split at h
    · cases h
    · split at h
      · rename_i h3
        exact absurd h h3
      · rename_i h3
        rcases List.mem_cons.1 he with rfl | he
        · have hk := of_decide_eq_true h1
          refine ⟨hk.2.1, ?_⟩
          have h4 : valC v = 0 := Classical.byContradiction h3
          by_cases h5 : 120 < v.size
          · rw [valC_long h5] at h4; cases h4
          · show v.size ≤ 120
            omega
        · exact entC_short r _ h e he
theorem flatMap_len : ∀ (es : List Ent), (∀ e ∈ es, e.1.size ≤ 24 ∧ e.2.size ≤ 120) → (es.flatMap entB).length ≤ es.length * 146
  | [], _ => by simp
  | e :: r, h => by
    have ih := flatMap_len r fun x hx => h x (List.mem_cons_of_mem _ hx)
    have := h e List.mem_cons_self
    rw [List.flatMap_cons, List.length_append, List.length_cons, entB]
    simp only [List.length_append, bytesN_length, List.length_cons, List.length_nil]
    omega
/-- a row of one's own is no box of another type -/
theorem row_ne {w : World} {base : Nat} {e t : TypeId} {size : Nat} {v : Value} {n : Nat} {xs vs : List Value} {b : Nat} (h : w.ownsRow base e size v n xs) (ho : Own w b t vs) (ht : t ≠ e) : some b ≠ v.ownBlock := by
  obtain ⟨hl, ⟨rfl, -⟩ | ⟨g, cap, cur, rfl, hb, hg, hr⟩⟩ := h
  · simp [Value.ownBlock]
  · intro e'
    simp only [Value.ownBlock, Option.some.injEq] at e'
    subst e'
    unfold Own at ho
    rw [ho] at hg
    cases hg
    exact ht rfl
theorem BRow.of_own {w : World} {base : Nat} {A : Option Addr} {n c : Nat} {xs : List Nat} (h : w.ownsRow base 5 1 (.slice A n c) n (u8s xs)) (hn : n = xs.length) : BRow w A xs := by
  subst hn
  have := World.ownsRow.cells' h
  rw [Cells, u8s_length] at this
  refine this.congr fun j hj => ?_
  simp [at', u8s, bv, List.getD, hj]
theorem Row.sub {w : World} {b o n : Nat} {l : List Int} (h : IRow w (some ⟨b, o, none⟩) l) (hn : n ≤ l.length) {m : Nat} (hm : n + m ≤ l.length) : IRow w (some ⟨b, o + n, none⟩) ((l.drop n).take m) := fun hp => by
  obtain ⟨b', o', e, hlt, hc⟩ := h (by simp at hp; omega)
  cases e
  refine ⟨b, o + n, rfl, hlt, fun j hj => ?_⟩
  have hjm : j < m := by simp at hj; omega
  have := hc (n + j) (by omega)
  rw [← Nat.add_assoc] at this
  rw [this]
  simp [iv, List.getD, hjm, List.getElem?_drop]
theorem _root_.Go.World.ownsRow.nc {A B : World} {row : Option Nat} {base : Nat} {e : TypeId} {size : Nat} {v : Value} {n : Nat} {xs : List Value} (h : A.ownsRow base e size v n xs) (hg : A.grownBy B row) (hr : ∀ r, row = some r → ∃ o : Obj, A.heap[r]? = some o ∧ o.isCells = false) : B.ownsRow base e size v n xs := by
  obtain ⟨hl, h | ⟨g, cap, cur, rfl, hb, hc, h1, h2, h3⟩⟩ := h
  · exact ⟨hl, .inl h⟩
  · refine ⟨hl, .inr ⟨g, cap, cur, rfl, hb, ?_, h1, h2, h3⟩⟩
    rw [hg.block g (Array.getElem?_eq_some_iff.1 hc).1 (fun e => by
      obtain ⟨o, ho, hc'⟩ := hr g e.symm
      rw [hc] at ho; cases ho; cases hc')]
    exact hc
theorem four_row (n : Nat) (w : World) (hn : n ≤ 65535) :
    Calls Try.prog 52 #[.int .i64 (n : Nat)] w fun e w' => ∃ b, e = .returned (.slice (some ⟨b, 0, none⟩) 4 4) ∧ BRow w' (some ⟨b, 0, none⟩) (fourB n) ∧ Keeps w w' :=
  (four_any n w hn).mono fun e w' ⟨h1, h2⟩ => ⟨_, h1, by
    subst h2
    have := Own.new w 5 (u8s (fourB n))
    intro hp
    refine ⟨_, 0, rfl, this.lt, fun j hj => ?_⟩
    rw [Nat.zero_add, this.cell, u8s_get hj]
    rfl, h2 ▸ (Below.refl _ _).alloc (Nat.le_refl _) _⟩
theorem rowsAt4 {w : World} {b : Nat} {t : TypeId} {A0 A1 A2 A3 : Option Addr} {n0 n1 n2 n3 c0 c1 c2 c3 : Nat} {xs0 xs1 xs2 xs3 : List Nat}
    (h : Own w b t [.slice A0 n0 c0, .slice A1 n1 c1, .slice A2 n2 c2, .slice A3 n3 c3]) (e0 : xs0.length = n0) (e1 : xs1.length = n1) (e2 : xs2.length = n2) (e3 : xs3.length = n3)
    (r0 : BRow w A0 xs0) (r1 : BRow w A1 xs1) (r2 : BRow w A2 xs2) (r3 : BRow w A3 xs3) (a0 : A0 ≠ none ∧ n0 ≤ c0) (a1 : A1 ≠ none ∧ n1 ≤ c1) (a2 : A2 ≠ none ∧ n2 ≤ c2) (a3 : A3 ≠ none ∧ n3 ≤ c3) : RowsAt w b [xs0, xs1, xs2, xs3] := by
  subst e0 e1 e2 e3
  intro j xs hj
  match j, hj with
  | 0, hj => cases hj; exact ⟨A0, c0, h.cell 0, r0, fun e => absurd e a0.1, a0.2⟩
  | 1, hj => cases hj; exact ⟨A1, c1, h.cell 1, r1, fun e => absurd e a1.1, a1.2⟩
  | 2, hj => cases hj; exact ⟨A2, c2, h.cell 2, r2, fun e => absurd e a2.1, a2.2⟩
  | 3, hj => cases hj; exact ⟨A3, c3, h.cell 3, r3, fun e => absurd e a3.1, a3.2⟩
theorem own_ne {w : World} {b b' : Nat} {t t' : TypeId} {vs vs' : List Value} (h : Own w b t vs) (h' : Own w b' t' vs') (ht : t ≠ t') : b ≠ b' := by
  rintro rfl
  unfold Own at h h'
  rw [h] at h'
  cases h'
  exact ht rfl
theorem Row.block {w w' : World} {g o n : Nat} {f : Nat → Value} (h : Row w (some ⟨g, o, none⟩) n f) (e : w'.heap[g]? = w.heap[g]?) : Row w' (some ⟨g, o, none⟩) n f := fun hn => by
  obtain ⟨b, o', e', hlt, hc⟩ := h hn
  cases e'
  have hlt' : g < w'.heap.size := by
    rcases Nat.lt_or_ge g w'.heap.size with h | h
    · exact h
    · rw [Array.getElem?_eq_none h] at e
      have := Array.getElem?_eq_none_iff.1 e.symm
      omega
  exact ⟨g, o, rfl, hlt', fun j hj => (World.cell?_of_block e).trans (hc j hj)⟩
theorem rowOf_length {l : List Int} {W H y : Nat} (h : l.length = H * W) (hy : y < H) : (rowOf l W y).length = W := by
  have h1 : y * W + W ≤ H * W := by rw [← Nat.succ_mul]; exact Nat.mul_le_mul_right _ hy
  rw [rowOf, List.length_take, List.length_drop]
  omega
theorem rowOf_grey {l : List Int} {m : Int} (h : Grey m l) (W y : Nat) : Grey m (rowOf l W y) := fun x hx => h x (List.mem_of_mem_drop (List.mem_of_mem_take hx))
theorem rowN_length_le {l : List Int} (h : Grey 65535 l) (hl : l.length ≤ 64) : (rowN l).length ≤ 700000 := by
  have h1 := codesB_length_le (bestI l) (l.map Int.toNat) (fun v hv => by
    obtain ⟨x, hx, rfl⟩ := List.mem_map.1 hv
    have := h x hx
    omega) (bestU_le l 17)
  rw [List.length_map] at h1
  rw [rowN, List.length_cons, pack_length]
  omega
theorem rowsB_length_le {l : List Int} {W : Nat} (h : Grey 65535 l) (hW : W ≤ 64) : ∀ H, (rowsB l W H).length ≤ H * 700000
  | 0 => by simp [rowsB]
  | H + 1 => by
    have ih := rowsB_length_le h hW H
    have h2 := rowN_length_le (rowOf_grey h W H) (by rw [rowOf, List.length_take]; omega)
    rw [rowsB_succ, List.length_append]
    omega
end Go.Proofs.Ytbkcnhbdjllojaa
