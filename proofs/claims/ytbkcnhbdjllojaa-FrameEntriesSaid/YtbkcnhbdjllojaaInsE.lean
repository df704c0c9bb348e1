/- slices.Insert of one entry: the walk. -/
import Derived.Test.YtbkcnhbdjllojaaDelF
import Derived.Lib.Overlaps
import Derived.Lib.AppendZeros
import Derived.Lib.AppendZerosOnto
namespace Go.Proofs.Ytbkcnhbdjllojaa
open Go.RowKit Go.Shelf

/-- a row that lies in a block from B on -/
def Above (B : Nat) (A : Option Addr) : Prop := ∀ b o, A = some ⟨b, o, none⟩ → B ≤ b
theorem above_of {B g o : Nat} (h : B ≤ g) : Above B (some ⟨g, o, none⟩) := fun b o' e => by cases e; exact h
theorem above_none (B : Nat) : Above B none := fun b o e => by cases e
theorem EntR.far {w : World} {B : Nat} {A : Option Addr} {es : List Ent} (h : EntR w A es) (ha : Above B A) {p : Addr} (hp : p.block < B) (u : Value) : EntR (w.setCell p u) A es := fun j k v hj => by
  obtain ⟨b, o, e, hlt, c1, c2⟩ := h j k v hj
  have hb := ha b o e
  have hh : (w.setCell p u).heap[b]? = w.heap[b]? := Below.heap_setCell w p u b (by omega)
  refine ⟨b, o, e, by simpa [World.setCell] using hlt, ?_, ?_⟩
  · rw [World.cell?, hh]; exact c1
  · rw [World.cell?, hh]; exact c2
theorem EntR.five {w : World} {B : Nat} {A : Option Addr} {es : List Ent} (h : EntR w A es) (ha : Above B A) {b : Nat} (hp : b < B) (x y z u v : Value) :
    EntR (((((w.setCell ⟨b, 0, none⟩ x).setCell ⟨b, 1, none⟩ y).setCell ⟨b, 2, none⟩ z).setCell ⟨b, 3, none⟩ u).setCell ⟨b, 4, none⟩ v) A es :=
  ((((h.far ha (p := ⟨b, 0, none⟩) hp x).far ha (p := ⟨b, 1, none⟩) hp y).far ha (p := ⟨b, 2, none⟩) hp z).far ha (p := ⟨b, 3, none⟩) hp u).far ha (p := ⟨b, 4, none⟩) hp v
theorem IRow.far {w : World} {B : Nat} {A : Option Addr} {l : List Int} (h : IRow w A l) (ha : Above B A) {p : Addr} (hp : p.block < B) (u : Value) : IRow (w.setCell p u) A l := fun hn => by
  obtain ⟨b, o, e, hlt, hc⟩ := h hn
  have hb := ha b o e
  have hh : (w.setCell p u).heap[b]? = w.heap[b]? := Below.heap_setCell w p u b (by omega)
  refine ⟨b, o, e, by simpa [World.setCell] using hlt, fun j hj => ?_⟩
  rw [World.cell?, hh]
  exact hc j hj
theorem IRow.five {w : World} {B : Nat} {A : Option Addr} {l : List Int} (h : IRow w A l) (ha : Above B A) {b : Nat} (hp : b < B) (x y z u v : Value) :
    IRow (((((w.setCell ⟨b, 0, none⟩ x).setCell ⟨b, 1, none⟩ y).setCell ⟨b, 2, none⟩ z).setCell ⟨b, 3, none⟩ u).setCell ⟨b, 4, none⟩ v) A l :=
  ((((IRow.far h ha (p := ⟨b, 0, none⟩) hp x).far ha (p := ⟨b, 1, none⟩) hp y).far ha (p := ⟨b, 2, none⟩) hp z).far ha (p := ⟨b, 3, none⟩) hp u).far ha (p := ⟨b, 4, none⟩) hp v
theorem put_after (A Z N : List Value) {off : Nat} (h : off = A.length) : (A ++ Z).take off ++ N ++ (A ++ Z).drop (off + N.length) = A ++ N ++ Z.drop N.length := by
  subst h
  rw [List.take_append_of_le_length (Nat.le_refl _), List.take_length, List.drop_append, List.drop_of_length_le (by omega), List.nil_append, Nat.add_sub_cancel_left]
theorem Own.shape {w : World} {g : Nat} {t : TypeId} {vs : List Value} (h : Own w g t vs) : w.shape? g = some (t, vs.length) := by
  unfold Own at h
  unfold World.shape?
  rw [h]
  rfl
theorem own_setCells {w : World} {g b : Nat} {t : TypeId} {vs : List Value} (h : Own w b t vs) (hne : b ≠ g) : ∀ (news : List Value) (off : Nat), Own (w.setCells g off news) b t vs
  | [], _ => h
  | u :: r, off => own_setCells (w := w.setCell ⟨g, off, none⟩ u) (h.far (p := ⟨g, off, none⟩) hne u) hne r (off + 1)
theorem run_overlaps {w : World} {g vb : Nat} {xs vs : List Value} (h : Own w g 57 vs) (hv : Own w vb 57 xs) (hne : vb ≠ g) (h0 : vs.length ≠ 0) (o la ca lb cb : Nat) :
    (callFunc 68 #[.slice (some ⟨vb, 0, none⟩) la ca, .slice (some ⟨g, o, none⟩) lb cb]).run Try.prog w = .ok (.value (.bool false)) w := by
  rw [run_callFunc_extern Try.func68 (by kernel_rfl) (by kernel_rfl) (by kernel_rfl) (e := Extern.SlicesOverlaps.overlaps #[22, 22] #[4]) (by kernel_rfl),
    Lib.run_overlaps_apart w 22 4 57 Try.underlying22 2 Try.sizeOf57 ⟨vb, 0, none⟩ ⟨g, o, none⟩ la ca lb cb hne 57 57 xs.length vs.length hv.shape h.shape h0 (hv.frozen 0) (hv.frozen _)]
  rfl
set_option maxRecDepth 100000 in
set_option maxHeartbeats 1000000 in
/-- at the end of the row -/
theorem insertE_end {w : World} {base : Nat} {V : Value} {es : List Ent} {k v : ByteArray} {vb : Nat} (h : w.ownsRow base 57 2 V es.length (entVs es)) (hv : Own w vb 57 [.string k, .string v]) (hn : es.length ≤ 1000) (hb : base ≤ w.heap.size) :
    Calls Try.prog 47 #[V, .int .i64 (es.length : Nat), .slice (some ⟨vb, 0, none⟩) 1 1] w fun e w' => ∃ A' c', e = .returned (.slice A' (es.length + 1) c') ∧ EntR w' A' (es ++ [(k, v)]) ∧ Above base A' ∧ Below base w w' := by
  obtain ⟨i0, hi, hz0, hz1, hz2⟩ := info_parts info_ent
  obtain ⟨A, c, rfl, hnc, hcm, hA⟩ := h.sl
  have hnI : (es.length : Int) ≤ 1000 := by omega
  have n1 : es.length ≤ c := hnc
  have HN : Hid (∀ j u, [(Value.string k), .string v][j]? = some u → w.cell? ((⟨vb, 0, none⟩ : Addr).add j) = some u) := Lib.hid fun j u hj => by rw [addr0, hv.cell]; exact hj
  have HW := Lib.hid h
  have HB := Lib.hid hb
  clear h hv hA hb
  go_enter Try.func47, Try.ntmps47
  go_wp2_with (at_builtin; refine wpList_append_own _ rfl _ _ 22 rfl base 57 i0 (.agg #[.string ⟨#[]⟩, .string ⟨#[]⟩]) 2 32 Try.underlying22 hi hz0 hz1 hz2 rfl (by decide) _ _ _ rfl HW.out ⟨vb, 0, none⟩ 1 1 [.string k, .string v] rfl rfl HN.out (by simp [Value.oneCell']) (by simp only [maxLen]; omega) (by omega) HB.out ?_; intro v' w3 hown3 hgrow hnil; obtain ⟨A6, c6, rfl, -⟩ := hown3.sl)
  all_goals
    go_wp2
    go_ret
    have hk3 : Below base w w3 := (Below.refl _ _).grown hgrow HB.out (fun b e => (HW.out.lt b e).1)
    rw [show entVs es ++ [Value.string k, .string v] = entVs (es ++ [(k, v)]) by rw [entVs_append]; rfl] at hown3
    rcases OE.of_own hown3 with ⟨h1, h2⟩ | ⟨g', cap', h1, h2⟩
    · simp at h2
    · rw [show (es ++ [(k, v)]).length = es.length + 1 by simp] at h1
      cases h1
      first
        | exact ⟨_, _, rfl, h2.entR, above_of h2.lo, hk3⟩
        | exact ⟨_, ⟨_, rfl⟩, h2.entR, above_of h2.lo, hk3⟩
set_option maxRecDepth 100000 in
set_option maxHeartbeats 1000000 in
/-- there is room: in place -/
theorem insertE_room {w : World} {base g cap : Nat} {l r : List Ent} {k v : ByteArray} {vb : Nat} (h : OE w base g cap (l ++ r)) (hr : 0 < r.length) (hc : l.length + r.length < cap) (hv : Own w vb 57 [.string k, .string v]) (hne : vb ≠ g) (hn : l.length + r.length ≤ 1000) :
    Calls Try.prog 47 #[.slice (some ⟨g, 0, none⟩) (l.length + r.length) cap, .int .i64 (l.length : Nat), .slice (some ⟨vb, 0, none⟩) 1 1] w fun e w' => ∃ A' c', e = .returned (.slice A' (l.length + r.length + 1) c') ∧ EntR w' A' (l ++ (k, v) :: r) ∧ Above base A' ∧ Below base w w' := by
  obtain ⟨hlo, hle, hmx, sp, hO, hsp⟩ := h
  have hlr : (l ++ r).length = l.length + r.length := List.length_append
  rw [hlr] at hle hsp
  have hl2 := entVs_length l
  have hr2 := entVs_length r
  obtain ⟨D, hD⟩ : ∃ D, entVs r ++ sp = D := ⟨_, rfl⟩
  have hDl : D.length = 2 * cap - 2 * l.length := by rw [← hD, List.length_append, hr2, hsp]; omega
  rw [entVs_append, List.append_assoc, hD] at hO
  obtain ⟨W1, hW1⟩ : ∃ W1, w.drew.setCells g ((l.length + 1) * 2) (entVs r) = W1 := ⟨_, rfl⟩
  have hO1 : Own W1 g 57 (entVs l ++ (D.take 2 ++ entVs r ++ D.drop (2 + 2 * r.length))) := by
    have := Own.setCells (entVs r) ((l.length + 1) * 2) _ _ hO.drew (by rw [List.length_append, hl2, hDl, hr2]; omega)
    rw [hW1] at this
    have e1 : entVs l ++ D = (entVs l ++ D.take 2) ++ D.drop 2 := by rw [List.append_assoc, List.take_append_drop]
    rw [e1, put_after _ _ _ (by rw [List.length_append, hl2, List.length_take, hDl]; omega), List.drop_drop, hr2] at this
    simpa only [List.append_assoc] using this
  obtain ⟨W2, hW2⟩ : ∃ W2, W1.setCells g (l.length * 2) [.string k, .string v] = W2 := ⟨_, rfl⟩
  have hO2 : EntR W2 (some ⟨g, 0, none⟩) (l ++ (k, v) :: r) := by
    have := Own.setCells [.string k, .string v] (l.length * 2) _ _ hO1 (by simp [hl2]; omega)
    rw [hW2, put_after _ _ _ (by omega)] at this
    have e1 : (D.take 2 ++ entVs r ++ D.drop (2 + 2 * r.length)).drop ([Value.string k, .string v] : List Value).length = entVs r ++ D.drop (2 + 2 * r.length) := by
      rw [List.append_assoc, List.drop_append_of_le_length (by simp; omega), List.drop_of_length_le (by rw [List.length_take]; show min 2 _ ≤ 2; omega), List.nil_append]
    rw [e1] at this
    have e2 : entVs l ++ [Value.string k, .string v] ++ (entVs r ++ D.drop (2 + 2 * r.length)) = entVs (l ++ (k, v) :: r) ++ D.drop (2 + 2 * r.length) := by
      rw [entVs_append, entVs_cons]
      simp
    rw [e2] at this
    exact entR_of this
  have hk1 : Below base w W1 := hW1 ▸ below_setCells hlo _ _ _ (Below.drew (Below.refl _ _))
  have hk2 : Below base w W2 := hW2 ▸ below_setCells hlo _ _ _ hk1
  have hov := fun o lb cb => run_overlaps hO hv hne (by rw [List.length_append, hDl, hl2]; omega) o 1 1 lb cb
  have hvO1 : Own W1 vb 57 [.string k, .string v] := by
    rw [← hW1]
    exact own_setCells hv.drew hne _ _
  have hcp1 : ∀ ty dc sc, (Builtin.copy_ #[22, 22] ty #[.slice (some ⟨g, (l.length + 1) * 2, none⟩) r.length dc, .slice (some ⟨g, l.length * 2, none⟩) (r.length + 1) sc]).run Try.prog w.drew = .ok (goInt (Nat.min (r.length + 1) r.length)) W1 := fun ty dc sc => by
    rw [← hW1]
    exact run_copy_in hO.drew ⟨g, l.length * 2, none⟩ (entVs r) (by rw [hr2]; show _ = 2 * min (r.length + 1) r.length; omega) (fun j u hj => by
      have hjl : j < 2 * r.length := by have := (List.getElem?_eq_some_iff.1 hj).1; rwa [hr2] at this
      rw [addp, hO.drew.cell, List.getElem?_append_right (by omega), hl2, ← hD, show l.length * 2 + j - 2 * l.length = j by omega, List.getElem?_append_left (by omega)]
      exact hj) (entVs_one r) (by rw [List.length_append, hl2, hDl, hr2]; omega) ty
  have hcp2 : ∀ ty n' dc, 1 ≤ n' → (Builtin.copy_ #[22, 22] ty #[.slice (some ⟨g, l.length * 2, none⟩) n' dc, .slice (some ⟨vb, 0, none⟩) 1 1]).run Try.prog W1 = .ok (goInt 1) W2 := fun ty n' dc h1 => by
    have hm1 : Nat.min 1 n' = 1 := by show min 1 n' = 1; omega
    have := run_copy_in hO1 (off := l.length * 2) (dLen := n') (dCap := dc) (sLen := 1) (sCap := 1) ⟨vb, 0, none⟩ [.string k, .string v] (by rw [hm1]; rfl) (fun j u hj => by rw [addr0, hvO1.cell]; exact hj) (by simp [Value.oneCell']) (by simp [hl2]; omega) ty
    rw [hm1, hW2] at this
    exact this
  have HO2 : Hid (EntR W2 (some ⟨g, 0, none⟩) (l ++ (k, v) :: r)) := Lib.hid hO2
  have HCP1 := Lib.hid hcp1
  have HCP2 := Lib.hid hcp2
  have hcI : (l.length : Int) + r.length + 1 ≤ cap := by omega
  have hnI : (l.length : Int) + r.length ≤ 1000 := by omega
  have hrI : (0 : Int) < r.length := by omega
  clear hO hO1 hO2 hW1 hW2 hvO1 hv hcp1 hcp2 hD hDl hsp hl2 hr2 hlr
  generalize l.length = i at *
  generalize r.length = m at *
  have n1 : i ≤ cap := by omega
  have n2 : i + 1 ≤ cap := by omega
  have n3 : i + m ≤ cap := by omega
  have n4 : i + m + 1 ≤ cap := by omega
  have n5 : (0 : Int) ≤ (i : Int) + 1 := by omega
  have n6 : (i : Int) ≤ (i : Int) + m := by omega
  have c1 : ¬ (cap = i) := by omega
  have c2 : ¬ (cap = i + 1) := by omega
  have n8 : (i : Int) ≤ (i : Int) + m + 1 := by omega
  have n9 : i ≤ i + m + 1 := by omega
  have z1 : i + m + 1 - (i + 1) = m := by omega
  have z2 : i + m + 1 - i = m + 1 := by omega
  have z3 : ¬ (m = 0) := by omega
  have z4 : ((i + m : Nat) : Int) = (i : Int) + m := by push_cast; rfl
  go_enter Try.func47, Try.ntmps47
  go_wp2_with (simp only [hov])
  have hw1 : IntKind.i64.wrap ((i : Int) + 1) = (i : Int) + 1 := IntWalk.i64_in _ (by omega)
  go_region_held3 (fun _ => True) (trivial)
    (first
      | (refine step_copy_run (by rfl) _ _ 22 (by rfl) (.slice (some ⟨g, (i + 1) * 2, none⟩) m (cap - (i + 1))) (.slice (some ⟨g, i * 2, none⟩) (m + 1) (cap - i)) (by rfl) (by rfl) (HCP1.out _ _ _) ?_))
  have n7 : 1 ≤ m + 1 := by omega
  have hcp2 := HCP2.out 3 (m + 1) (cap - i) n7
  go_wp2
  go_ret
  first | exact ⟨_, _, rfl, HO2.out, above_of hlo, hk2⟩ | exact ⟨_, ⟨_, rfl⟩, HO2.out, above_of hlo, hk2⟩
set_option maxRecDepth 100000 in
set_option maxHeartbeats 1000000 in
/-- there is no room: a new row -/
theorem insertE_grow {w : World} {base g cap : Nat} {l r : List Ent} {k v : ByteArray} {vb : Nat} (h : OE w base g cap (l ++ r)) (hr : 0 < r.length) (hc : cap = l.length + r.length) (hv : Own w vb 57 [.string k, .string v]) (hn : l.length + r.length ≤ 1000) (hb : base ≤ w.heap.size) :
    Calls Try.prog 47 #[.slice (some ⟨g, 0, none⟩) (l.length + r.length) cap, .int .i64 (l.length : Nat), .slice (some ⟨vb, 0, none⟩) 1 1] w fun e w' => ∃ A' c', e = .returned (.slice A' (l.length + r.length + 1) c') ∧ EntR w' A' (l ++ (k, v) :: r) ∧ Above base A' ∧ Below base w w' := by
  obtain ⟨i0, hi, hz0, hz1, hz2⟩ := info_parts info_ent
  have hglt := h.lt
  obtain ⟨hlo, hle, hmx, sp, hO, hsp⟩ := h
  have hl2 := entVs_length l
  have hr2 := entVs_length r
  rw [entVs_append, List.append_assoc] at hO
  have hold : (Builtin.firstCells i0.size l.length (.slice (some ⟨g, 0, none⟩) l.length cap)).run Try.prog w.drew = .ok (entVs l).toArray w.drew := by
    rw [hz1]
    exact run_firstCells_some (P := Try.prog) (w := w.drew) 2 l.length ⟨g, 0, none⟩ l.length cap (entVs l) (by omega) (fun j u hj => by
      rw [addr0, hO.drew.cell, List.getElem?_append_left (List.getElem?_eq_some_iff.1 hj).1]
      exact hj)
  have hrz := fun ty => Lib.run_append_grow_zeros w 22 3 ty 57 i0 (.agg #[.string ⟨#[]⟩, .string ⟨#[]⟩]) .i64 .i64 Try.underlying22 Try.underlying3 hi hz0 (some ⟨g, 0, none⟩) l.length cap (entVs l) hold (r.length + 1) (by omega) (by omega) (by omega) (by omega) (by rw [hz2]; omega) (by rw [hz2]; exact growslice_fits (by omega) (by omega))
  have hGn := grownCap_ge w (l.length + (r.length + 1)) cap 57
  have hGm := grownCap_le_maxLen w (l.length + (r.length + 1)) cap 57 (by simp only [maxLen]; omega)
  generalize grownCap w (l.length + (r.length + 1)) cap 57 = G at *
  obtain ⟨ROW, hROW⟩ : ∃ ROW : Array Value, (entVs l).toArray ++ Builtin.zeroCells (Value.agg #[.string ⟨#[]⟩, .string ⟨#[]⟩]).cells (r.length + 1) ++ Builtin.zeroCells (Value.agg #[.string ⟨#[]⟩, .string ⟨#[]⟩]).cells (G - (l.length + (r.length + 1))) = ROW := ⟨_, rfl⟩
  rw [hROW] at hrz
  obtain ⟨Z, hZ, hZl⟩ : ∃ Z, ROW.toList = entVs l ++ Z ∧ Z.length = 2 * (G - l.length) := by
    refine ⟨(Builtin.zeroCells (Value.agg #[.string ⟨#[]⟩, .string ⟨#[]⟩]).cells (r.length + 1) ++ Builtin.zeroCells (Value.agg #[.string ⟨#[]⟩, .string ⟨#[]⟩]).cells (G - (l.length + (r.length + 1)))).toList, ?_, ?_⟩
    · rw [← hROW]
      simp
    · rw [Array.length_toList, Array.size_append, size_zeroCells, size_zeroCells]
      show (r.length + 1) * 2 + (G - (l.length + (r.length + 1))) * 2 = _
      omega
  obtain ⟨W1, hW1⟩ : ∃ W1, w.drew.alloc (.cells ROW 57) = W1 := ⟨_, rfl⟩
  rw [hW1] at hrz
  have hO1 : Own W1 w.heap.size 57 (entVs l ++ Z) := by
    rw [← hW1, ← hZ]
    have := Own.new w.drew 57 ROW.toList
    rwa [Array.toArray_toList] at this
  have hk1 : Below base w W1 := hW1 ▸ (Below.drew (Below.refl _ _)).alloc hb _
  have hKw : Keeps w W1 := hW1 ▸ (Below.drew (Below.refl _ _)).alloc (Nat.le_refl _) _
  have hvO1 := hv.below hKw
  have hgO1 := hO.below hKw
  have hgN : g ≠ w.heap.size := by omega
  obtain ⟨W2, hW2⟩ : ∃ W2, W1.setCells w.heap.size (l.length * 2) [.string k, .string v] = W2 := ⟨_, rfl⟩
  have hO2 : Own W2 w.heap.size 57 ((entVs l ++ [.string k, .string v]) ++ Z.drop 2) := by
    have := Own.setCells [.string k, .string v] (l.length * 2) _ _ hO1 (by rw [List.length_append, hl2, hZl]; simp; omega)
    rw [hW2, put_after _ _ _ (by omega)] at this
    exact this
  have hgO2 : Own W2 g 57 (entVs l ++ (entVs r ++ sp)) := hW2 ▸ own_setCells hgO1 hgN _ _
  have hk2 : Below base w W2 := hW2 ▸ below_setCells hb _ _ _ hk1
  obtain ⟨W3, hW3⟩ : ∃ W3, W2.drew.setCells w.heap.size ((l.length + 1) * 2) (entVs r) = W3 := ⟨_, rfl⟩
  have hO3 : EntR W3 (some ⟨w.heap.size, 0, none⟩) (l ++ (k, v) :: r) := by
    have := Own.setCells (entVs r) ((l.length + 1) * 2) _ _ hO2.drew (by rw [List.length_append, List.length_append, hl2, List.length_drop, hZl, hr2]; simp; omega)
    rw [hW3, put_after _ _ _ (by rw [List.length_append, hl2]; simp; omega)] at this
    have e2 : entVs l ++ [Value.string k, .string v] ++ entVs r ++ (Z.drop 2).drop (entVs r).length = entVs (l ++ (k, v) :: r) ++ (Z.drop 2).drop (entVs r).length := by
      rw [entVs_append, entVs_cons]
      simp
    rw [e2] at this
    exact entR_of this
  have hk3 : Below base w W3 := hW3 ▸ below_setCells hb _ _ _ (Below.drew hk2)
  have hcpA : (Builtin.copy_ #[22, 22] 3 #[.slice (some ⟨w.heap.size, l.length * 2, none⟩) (r.length + 1) (G - l.length), .slice (some ⟨vb, 0, none⟩) 1 1]).run Try.prog W1 = .ok (goInt 1) W2 := by
    have hm1 : Nat.min 1 (r.length + 1) = 1 := by show min 1 (r.length + 1) = 1; omega
    have := run_copy_in hO1 (off := l.length * 2) (dLen := r.length + 1) (dCap := G - l.length) (sLen := 1) (sCap := 1) ⟨vb, 0, none⟩ [.string k, .string v] (by rw [hm1]; rfl) (fun j u hj => by rw [addr0, hvO1.cell]; exact hj) (by simp [Value.oneCell']) (by rw [List.length_append, hl2, hZl]; simp; omega) 3
    rw [hm1, hW2] at this
    exact this
  have hcpB : ∀ ty dc sc, (Builtin.copy_ #[22, 22] ty #[.slice (some ⟨w.heap.size, (l.length + 1) * 2, none⟩) r.length dc, .slice (some ⟨g, l.length * 2, none⟩) r.length sc]).run Try.prog W2.drew = .ok (goInt (Nat.min r.length r.length)) W3 := fun ty dc sc => by
    rw [← hW3]
    exact run_copy_in hO2.drew ⟨g, l.length * 2, none⟩ (entVs r) (by rw [hr2]; show _ = 2 * min r.length r.length; omega) (fun j u hj => by
      have hjl : j < 2 * r.length := by have := (List.getElem?_eq_some_iff.1 hj).1; rwa [hr2] at this
      rw [addp, hgO2.drew.cell, List.getElem?_append_right (by omega), hl2, show l.length * 2 + j - 2 * l.length = j by omega, List.getElem?_append_left (by omega)]
      exact hj) (entVs_one r) (by rw [List.length_append, List.length_append, hl2, List.length_drop, hZl, hr2]; simp; omega) ty
  have HO3 : Hid (EntR W3 (some ⟨w.heap.size, 0, none⟩) (l ++ (k, v) :: r)) := Lib.hid hO3
  have HCPB := Lib.hid hcpB
  have HRZ := Lib.hid hrz
  have hcI : (cap : Int) = (l.length : Int) + r.length := by omega
  have hnI : (l.length : Int) + r.length ≤ 1000 := by omega
  have hrI : (0 : Int) < r.length := by omega
  clear hO hO1 hO2 hO3 hW1 hW2 hW3 hvO1 hgO1 hgO2 hv hcpB hrz hsp hl2 hr2 hZ hZl hROW hold hc hi hz0 hz1 hz2
  generalize l.length = i at *
  generalize r.length = m at *
  have n1 : i ≤ cap := by omega
  have n3 : i + m ≤ cap := by omega
  have n4 : i + (m + 1) ≤ G := hGn
  have n5 : (0 : Int) ≤ (i : Int) + 1 := by omega
  have n6 : (i : Int) ≤ (i : Int) + m := by omega
  have n8 : (i : Int) ≤ (i : Int) + m + 1 := by omega
  have n9 : i ≤ i + m + 1 := by omega
  have c1 : ¬ (cap = i) := by omega
  have c3 : ¬ (G = i) := by omega
  have n10 : (i : Int) + 1 ≤ (i : Int) + ((m : Int) + 1) := by omega
  have n11 : i + 1 ≤ i + (m + 1) := by omega
  have n12 : i + (m + 1) ≤ G := by omega
  have n13 : i + 1 ≤ G := by omega
  have c4 : ¬ (G = i + 1) := by omega
  have z1 : i + (m + 1) - (i + 1) = m := by omega
  have z2 : i + (m + 1) - i = m + 1 := by omega
  have z3 : ¬ (m = 0) := by omega
  have z4 : ((i + m : Nat) : Int) = (i : Int) + m := by push_cast; rfl
  have z5 : (i : Int) + m + 1 - i = ((m + 1 : Nat) : Int) := by omega
  have z6 : i + m - i = m := by omega
  have hw1 : IntKind.i64.wrap ((i : Int) + 1) = (i : Int) + 1 := IntWalk.i64_in _ (by omega)
  go_enter Try.func47, Try.ntmps47
  go_wp2_with (at_builtin; refine Lib.wpList_append_run _ rfl _ _ _ _ rfl _ _ rfl rfl _ _ (HRZ.out _) ?_)
  go_region_held3 (fun _ => True) (trivial)
    (first
      | (refine step_copy_run (by rfl) _ _ 22 (by rfl) (.slice (some ⟨w.heap.size, (i + 1) * 2, none⟩) m (G - (i + 1))) (.slice (some ⟨g, i * 2, none⟩) m (cap - i)) (by rfl) (by rfl) (HCPB.out _ _ _) ?_))
  go_wp2
  go_ret
  first | exact ⟨_, _, rfl, HO3.out, above_of hb, hk3⟩ | exact ⟨_, ⟨_, rfl⟩, HO3.out, above_of hb, hk3⟩
/-- slices.Insert of one entry -/
theorem insertE_any {w : World} {base : Nat} {V : Value} {l r : List Ent} {k v : ByteArray} {vb : Nat} (h : w.ownsRow base 57 2 V (l.length + r.length) (entVs (l ++ r))) (hv : Own w vb 57 [.string k, .string v]) (hne : V.ownBlock ≠ some vb) (hn : l.length + r.length ≤ 1000) (hb : base ≤ w.heap.size) :
    Calls Try.prog 47 #[V, .int .i64 (l.length : Nat), .slice (some ⟨vb, 0, none⟩) 1 1] w fun e w' => ∃ A' c', e = .returned (.slice A' (l.length + r.length + 1) c') ∧ EntR w' A' (l ++ (k, v) :: r) ∧ Above base A' ∧ Below base w w' := by
  by_cases hr : r.length = 0
  · obtain rfl := List.length_eq_zero_iff.1 hr
    rw [List.append_nil] at h
    exact insertE_end h hv hn hb
  · rcases OE.of_own h with ⟨-, h2⟩ | ⟨g, cap, h1, h2⟩
    · rw [List.append_eq_nil_iff] at h2
      rw [h2.2] at hr
      exact absurd rfl hr
    · rw [List.length_append] at h1
      subst h1
      have hle := h2.le
      rw [List.length_append] at hle
      by_cases hc : l.length + r.length < cap
      · exact insertE_room h2 (by omega) hc hv (fun e => hne (by rw [e]; rfl)) hn
      · exact insertE_grow h2 (by omega) (by omega) hv hn hb
end Go.Proofs.Ytbkcnhbdjllojaa
