/- Decoding: the frame under work, slices of its bytes, the values of a row. -/
import Derived.Test.YtbkcnhbdjllojaaDecA
import Derived.Test.YtbkcnhbdjllojaaEnc
import Derived.Test.YtbkcnhbdjllojaaOut
namespace Go.Proofs.Ytbkcnhbdjllojaa
open Go.RowKit Go.Shelf

theorem info_ent : (Try.prog.info? 57).map (fun i => (i.zero, i.size, i.bytes)) = some (some (.agg #[.string ⟨#[]⟩, .string ⟨#[]⟩]), 2, 32) := by kernel_rfl
/-- entries as cells -/
def entVs (es : List Ent) : List Value := es.flatMap fun e => [.string e.1, .string e.2]
theorem entVs_snoc (es : List Ent) (e : Ent) : entVs (es ++ [e]) = entVs es ++ [.string e.1, .string e.2] := by simp [entVs]
abbrev z27 : List Value := [.slice none 0 0, .int .i64 0, .int .i64 0, .int .i64 0, .slice none 0 0]

theorem run_from (u : World) {b o n c j : Nat} {z : Int} (hz : z = (j : Int)) (hj : j ≤ n) :
    (Instr.sliceAt 32 (.slice (some ⟨b, o, none⟩) n c) (some (.int .i64 z)) none none).run Try.prog u = .ok (Lib.fromV (some ⟨b, o, none⟩) n c j) u := by
  subst hz
  have he : Try.prog.elem 32 = 5 := by simp [Program.elem, Try.underlying32]
  have hu : Try.prog.underlying 32 = some (.slice (Try.prog.elem 32)) := by rw [he]; exact Try.underlying32
  rw [run_sliceAt_slice _ _ _ _ _ _ hu, run_slice_l _ _ _ _ _ hu _ _ (by omega) (by omega), he]
  simp [sliced, Lib.fromV, go_sem, Result.andThen]

/-- the decoder's frame, its sizes, its entries -/
structure DecF (w wr : World) (D b4 b11 : Nat) (Am : Option Addr) (cm : Nat) (es : List Ent) (W H m : Nat) : Prop where
  f2 : Own wr w.heap.size 27 z27
  f4 : Own wr b4 27 [.slice Am es.length cm, .int .i64 0, .int .i64 0, .int .i64 0, .slice none 0 0]
  f11 : Own wr b11 115 [.int .i64 (W : Nat), .int .i64 (H : Nat), .int .i64 (m : Nat)]
  ents : wr.ownsRow D 57 2 (.slice Am es.length cm) es.length (entVs es)
  keeps : Keeps w wr
section
variable {w wr wr' : World} {D b4 b11 : Nat} {Am : Option Addr} {cm W H m : Nat} {es : List Ent}
theorem DecF.keep (h : DecF w wr D b4 b11 Am cm es W H m) (hk : Keeps wr wr') : DecF w wr' D b4 b11 Am cm es W H m :=
  ⟨h.f2.below hk, h.f4.below hk, h.f11.below hk, h.ents.keeps hk, h.keeps.trans' hk⟩
theorem DecF.turn (h : DecF w wr D b4 b11 Am cm es W H m) {br : Nat} {vs : List Value} (hr : Own wr br 118 vs) (hbr : w.heap.size ≤ br) (ht : Turn [br] wr wr') : DecF w wr' D b4 b11 Am cm es W H m :=
  ⟨h.f2.turn ht (by simpa using own_ne h.f2 hr (by decide)), h.f4.turn ht (by simpa using own_ne h.f4 hr (by decide)), h.f11.turn ht (by simpa using own_ne h.f11 hr (by decide)),
    h.ents.turn ht (fun k hk => by
      have := row_ne h.ents hr (by decide)
      simp only [List.mem_singleton]
      rintro rfl
      exact this (by simpa [blkOf, eq_comm] using hk)),
    Below.trans h.keeps (ht.below (by simpa using hbr) h.keeps.size)⟩
theorem rows_ne {w : World} {base base' : Nat} {e e' : TypeId} {size size' : Nat} {v v' : Value} {n n' : Nat} {xs xs' : List Value} (h : w.ownsRow base e size v n xs) (h' : w.ownsRow base' e' size' v' n' xs') (ht : e ≠ e') : ∀ k ∈ blkOf v, k ∉ blkOf v' := fun k hk hk' => by
  obtain ⟨-, ⟨rfl, -⟩ | ⟨g, cap, cur, rfl, -, hg, -⟩⟩ := h
  · simp [blkOf, Value.ownBlock] at hk
  obtain ⟨-, ⟨rfl, -⟩ | ⟨g', cap', cur', rfl, -, hg', -⟩⟩ := h'
  · simp [blkOf, Value.ownBlock] at hk'
  simp only [blkOf, Value.ownBlock, Option.mem_toList, Option.some.injEq] at hk hk'
  subst hk hk'
  rw [hg] at hg'
  cases hg'
  exact ht rfl
theorem DecF.grown (h : DecF w wr D b4 b11 Am cm es W H m) {base : Nat} {v : Value} {n : Nat} {xs : List Value} (hr : wr.ownsRow base 3 1 v n xs) (hb : w.heap.size ≤ base) (hg : wr.grownBy wr' v.ownBlock) : DecF w wr' D b4 b11 Am cm es W H m :=
  ⟨h.f2.grown hg (row_ne hr h.f2 (by decide)), h.f4.grown hg (row_ne hr h.f4 (by decide)), h.f11.grown hg (row_ne hr h.f11 (by decide)),
    h.ents.turn (Turn.of_grown hg) (rows_ne h.ents hr (by decide)), h.keeps.grown hg h.keeps.size (fun b e => by have := (hr.lt b e).1; omega)⟩
end
/-- bytes below a world that is kept -/
theorem BSl.kept {w wr wr' : World} {v : Value} {xs : List Nat} (h : BSl wr w.heap.size v xs) (hk : Keeps w wr) (hk' : Keeps w wr') : BSl wr' w.heap.size v xs := by
  obtain ⟨A, c, e, h1, h2, h3, h4, h5, h6⟩ := h
  refine ⟨A, c, e, h1, h2, h3, fun hn => ?_, h5, h6⟩
  obtain ⟨b, o, rfl, hlt, hc⟩ := h4 hn
  have hb := h5 hn b o rfl
  exact ⟨b, o, rfl, Nat.lt_of_lt_of_le hb hk'.size, fun j hj => by rw [hk'.cell (p := ⟨b, o + j, none⟩) hb, ← hk.cell (p := ⟨b, o + j, none⟩) hb, hc j hj]⟩
theorem BSl.row {w : World} {B0 n c : Nat} {A : Option Addr} {xs : List Nat} (h : BSl w B0 (.slice A n c) xs) : BRow w A xs := by
  obtain ⟨A', c', e, h1, h2, h3, h4, h5, h6⟩ := h
  cases e
  exact h4
theorem rones_le (xs : List Nat) : ∀ (n : Nat) (s : Nat × Bool), s.1 ≤ 8 * xs.length → (rones xs n s).2.1 ≤ 8 * xs.length
  | 0, _, h => h
  | n + 1, s, h => by
    rw [rones]
    split
    · exact rones_le xs n _ (rbit_le h).1
    · exact (rbit_le h).1
theorem rbits_le (xs : List Nat) : ∀ (k v : Nat) (s : Nat × Bool), s.1 ≤ 8 * xs.length → (rbits xs k v s).2.1 ≤ 8 * xs.length
  | 0, _, _, h => h
  | k + 1, v, s, h => by
    rw [rbits]
    exact rbits_le xs k _ _ (rbit_le h).1
theorem rcode_le {xs : List Nat} {k : Nat} {s : Nat × Bool} (h : s.1 ≤ 8 * xs.length) : (rcode xs k s).2.1 ≤ 8 * xs.length := rbits_le _ _ _ _ (rones_le _ _ _ h)
theorem rvals_length (tl : List Nat) (k : Nat) : ∀ (n : Nat) (s : Nat × Bool) (acc : List Nat), (rvals tl k n s acc).1.length = acc.length + n
  | 0, _, _ => rfl
  | n + 1, s, acc => by rw [rvals, rvals_length tl k n]; simp; omega
theorem rowsP_length (W : Nat) : ∀ (H : Nat) (rst acc l : List Nat), rowsP W H rst acc = some l → l.length = acc.length + H * W
  | 0, _, acc, l, h => by simp [rowsP] at h; subst h; simp
  | H + 1, [], _, _, h => by simp [rowsP] at h
  | H + 1, k :: tl, acc, l, h => by
    rw [rowsP] at h
    split at h
    · cases h
    · split at h
      · cases h
      · rw [rowsP_length W H _ _ _ h, rvals_length, Nat.succ_mul]; omega
theorem ints_snoc (l : List Nat) (x : Nat) : ints (l ++ [x]) = ints l ++ [(x : Int)] := by simp [ints]
/-- entries in a row of one's own -/
theorem EntR.of_own {w : World} {D : Nat} {A : Option Addr} {c : Nat} {es : List Ent} (h : w.ownsRow D 57 2 (.slice A es.length c) es.length (entVs es)) : EntR w A es := fun j k v hj => by
  have hlt : j < es.length := (List.getElem?_eq_some_iff.1 hj).1
  have hc := h.cells'
  have hlen : ∀ l : List Ent, (entVs l).length = 2 * l.length := fun l => by
    induction l with
    | nil => rfl
    | cons e l ih => simp only [entVs, List.flatMap_cons, List.length_append, List.length_cons, List.length_nil] at ih ⊢; omega
  have hget : ∀ (l : List Ent) (j : Nat), l[j]? = some (k, v) → (entVs l)[2 * j]? = some (.string k) ∧ (entVs l)[2 * j + 1]? = some (.string v) := fun l => by
    induction l with
    | nil => intro j hj; simp at hj
    | cons e l ih =>
      intro j hj
      cases j with
      | zero => cases hj; exact ⟨rfl, rfl⟩
      | succ j =>
        have := ih j (by simpa using hj)
        have e1 : entVs (e :: l) = .string e.1 :: .string e.2 :: entVs l := rfl
        rw [e1, show 2 * (j + 1) = (2 * j) + 1 + 1 by omega, List.getElem?_cons_succ, List.getElem?_cons_succ, show 2 * j + 1 + 1 + 1 = (2 * j + 1) + 1 + 1 by omega, List.getElem?_cons_succ, List.getElem?_cons_succ]
        exact this
  obtain ⟨h1, h2⟩ := hget es j hj
  obtain ⟨b, o, rfl, hlt', hc1⟩ := hc.get h1
  obtain ⟨b', o', e', -, hc2⟩ := hc.get h2
  cases e'
  refine ⟨b, o, rfl, hlt', ?_, ?_⟩
  · rw [show o + j * 2 = o + 2 * j by omega]; exact hc1
  · rw [show o + j * 2 + 1 = o + (2 * j + 1) by omega]; exact hc2
end Go.Proofs.Ytbkcnhbdjllojaa
