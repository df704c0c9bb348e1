/- Slices in memory: what a slice value reads as; blocks of the call's own. No program in sight. -/
import Derived.Test.YtecibfncnaccjaaNum
import Derived.WalkKit
import Derived.Deep.AppendLies
import Derived.Deep.Draws
import Derived.Lib.Hide
import Derived.Laws.AppendOwnNone
namespace Go.Proofs.Ytecibfncnaccjaa
open Go.RowKit

/-- the cells behind a slice's address: n of them, the j-th is f j -/
def Row (w : World) (A : Option Addr) (n : Nat) (f : Nat → Value) : Prop :=
  0 < n → ∃ b o, A = some ⟨b, o, none⟩ ∧ b < w.heap.size ∧ ∀ j, j < n → w.cell? ⟨b, o + j, none⟩ = some (f j)
/-- a slice value of n elements that reads as f -/
def Sl (w : World) (v : Value) (n : Nat) (f : Nat → Value) : Prop :=
  ∃ A c, v = .slice A n c ∧ n ≤ c ∧ c ≤ maxLen ∧ (A = none → c = 0) ∧ Row w A n f
def u32 (xs : List Nat) (j : Nat) : Value := .int .u32 (ix xs j : Nat)
/-- a slice of uint32 that reads as a list -/
def U32 (w : World) (v : Value) (xs : List Nat) : Prop := Sl w v xs.length (u32 xs)
/-- a block of the call's own -/
def Own (w : World) (b : Nat) (t : TypeId) (vs : List Value) : Prop := w.heap[b]? = some (.cells vs.toArray t (0, 0))
def u32s (xs : List Nat) : List Value := xs.map fun (x : Nat) => Value.int .u32 x
/-- nothing that lay has turned -/
abbrev Keeps (w w' : World) : Prop := Below w.heap.size w w'
def lenOf : Value → Nat | .slice _ n _ => n | _ => 0

section
variable {w w' : World} {A : Option Addr} {n : Nat} {f : Nat → Value} {v : Value} {xs : List Nat}
theorem Row.zero : Row w A 0 f := fun h => absurd h (by omega)
theorem Row.below (h : Row w A n f) (hb : Below w.heap.size w w') : Row w' A n f := fun hn => by
  obtain ⟨b, o, rfl, hlt, hc⟩ := h hn
  exact ⟨b, o, rfl, Nat.lt_of_lt_of_le hlt hb.size, fun j hj => (hb.cell (p := ⟨b, o + j, none⟩) hlt).trans (hc j hj)⟩
theorem Row.take (h : Row w A n f) {k : Nat} (hk : k ≤ n) : Row w A k f := fun hp => by
  obtain ⟨b, o, rfl, hlt, hc⟩ := h (by omega)
  exact ⟨b, o, rfl, hlt, fun j hj => hc j (by omega)⟩
theorem Row.congr (h : Row w A n f) {g : Nat → Value} (hg : ∀ j, j < n → f j = g j) : Row w A n g := fun hp => by
  obtain ⟨b, o, rfl, hlt, hc⟩ := h hp
  exact ⟨b, o, rfl, hlt, fun j hj => by rw [← hg j hj]; exact hc j hj⟩
theorem Sl.below (h : Sl w v n f) (hb : Below w.heap.size w w') : Sl w' v n f := by
  obtain ⟨A, c, rfl, h1, h2, h0, h3⟩ := h
  exact ⟨A, c, rfl, h1, h2, h0, h3.below hb⟩
theorem U32.below (h : U32 w v xs) (hb : Below w.heap.size w w') : U32 w' v xs := Sl.below h hb
theorem U32.mk {c : Nat} (h : Row w A xs.length (u32 xs)) (h1 : xs.length ≤ c) (h2 : c ≤ maxLen) (h0 : A = none → c = 0) : U32 w (.slice A xs.length c) xs := ⟨A, c, rfl, h1, h2, h0, h⟩
theorem U32.nil : U32 w (.slice none 0 0) [] := ⟨none, 0, rfl, Nat.le_refl _, by simp [maxLen], fun _ => rfl, Row.zero⟩
theorem Row.lt (h : Row w A n f) {b o : Nat} (e : A = some ⟨b, o, none⟩) (hn : 0 < n) : b < w.heap.size := by
  obtain ⟨b', o', e', h1, _⟩ := h hn
  rw [e] at e'
  cases e'
  exact h1

theorem bcell {W w1 : World} (hb : Below W.heap.size W w1) : (∀ b o, b < W.heap.size → w1.cell? ⟨b, o, none⟩ = W.cell? ⟨b, o, none⟩) ∧ (∀ b o, b < W.heap.size → w1.frozen? ⟨b, o, none⟩ = W.frozen? ⟨b, o, none⟩) :=
  ⟨fun b o h => hb.cell (p := ⟨b, o, none⟩) h, fun b o h => hb.frozen (p := ⟨b, o, none⟩) h⟩
theorem Own.lt {b : Nat} {t : TypeId} {vs : List Value} (h : Own w b t vs) : b < w.heap.size := by
  unfold Own at h
  rcases Nat.lt_or_ge b w.heap.size with hlt | hge
  · exact hlt
  · rw [Array.getElem?_eq_none hge] at h; cases h
theorem Own.new (w : World) (t : TypeId) (vs : List Value) : Own (w.alloc (.cells vs.toArray t)) w.heap.size t vs := heap_alloc_new w _
theorem Own.cell {b : Nat} {t : TypeId} {vs : List Value} (h : Own w b t vs) (i : Nat) : w.cell? ⟨b, i, none⟩ = vs[i]? := by
  rw [cell_of_row w b i vs.toArray t (0, 0) h]; simp
theorem Own.frozen {b : Nat} {t : TypeId} {vs : List Value} (h : Own w b t vs) (i : Nat) : w.frozen? ⟨b, i, none⟩ = false := by
  unfold Own at h; simp [World.frozen?, h]
theorem Own.set {b : Nat} {t : TypeId} {vs : List Value} (h : Own w b t vs) (i : Nat) (u : Value) : Own (w.setCell ⟨b, i, none⟩ u) b t (vs.set i u) := by
  unfold Own at h ⊢
  simp [World.setCell, Array.getElem?_modify, h]
theorem Own.c0 {b : Nat} {t : TypeId} {x : Value} {r : List Value} (h : Own w b t (x :: r)) : w.cell? ⟨b, 0, none⟩ = some x := by rw [h.cell]; rfl
theorem Own.c1 {b : Nat} {t : TypeId} {x y : Value} {r : List Value} (h : Own w b t (x :: y :: r)) : w.cell? ⟨b, 1, none⟩ = some y := by rw [h.cell]; rfl
theorem Own.two {b : Nat} {t : TypeId} {x y : Value} (h : Own w b t [x, y]) (x' y' : Value) : Own ((w.setCell ⟨b, 0, none⟩ x').setCell ⟨b, 1, none⟩ y') b t [x', y'] := (h.set 0 x').set 1 y'
theorem Own.drew {b : Nat} {t : TypeId} {vs : List Value} (h : Own w b t vs) : Own w.drew b t vs := h
theorem own2 (w : World) (o : Obj) (t : TypeId) (vs : List Value) : Own ((w.alloc o).alloc (.cells vs.toArray t)) (w.heap.size + 1) t vs := by
  have := Own.new (w.alloc o) t vs
  rwa [World.size_alloc] at this
theorem own3 (w : World) (o o' : Obj) (t : TypeId) (vs : List Value) : Own (((w.alloc o).alloc o').alloc (.cells vs.toArray t)) (w.heap.size + 1 + 1) t vs := by
  have := Own.new ((w.alloc o).alloc o') t vs
  rwa [World.size_alloc, World.size_alloc] at this
theorem keep3 (w : World) (o o' o2 : Obj) : Keeps w (((w.alloc o).alloc o').alloc o2) := (((Below.refl _ _).alloc (Nat.le_refl _) _).alloc (by simp) _).alloc (by simp; omega) _
theorem keep2 (w : World) (o o' : Obj) : Keeps w ((w.alloc o).alloc o') := ((Below.refl _ _).alloc (Nat.le_refl _) _).alloc (by simp) _
theorem Keeps.trans' {w1 : World} (h : Keeps w w1) (h1 : Keeps w1 w') : Keeps w w' := Below.trans h (h1.mono h.size)
theorem Keeps.set (h : Keeps w w') {p : Addr} (hp : w.heap.size ≤ p.block) (u : Value) : Keeps w (w'.setCell p u) := Below.setCell h hp u
theorem Own.alloc {b : Nat} {t : TypeId} {vs : List Value} (h : Own w b t vs) (o : Obj) : Own (w.alloc o) b t vs := (Below.heap_alloc w o b h.lt).trans h
theorem Own.far {b : Nat} {t : TypeId} {vs : List Value} (h : Own w b t vs) {p : Addr} (hp : b ≠ p.block) (u : Value) : Own (w.setCell p u) b t vs := (Below.heap_setCell w p u b hp).trans h
theorem Own.far2 {b R : Nat} {t : TypeId} {vs : List Value} (h : Own w b t vs) (hp : b ≠ R) {x y : Value} : Own ((w.setCell ⟨R, 0, none⟩ x).setCell ⟨R, 1, none⟩ y) b t vs := (h.far (p := ⟨R, 0, none⟩) hp x).far (p := ⟨R, 1, none⟩) hp y
theorem Own.grown {b : Nat} {t : TypeId} {vs : List Value} (h : Own w b t vs) {row : Option Nat} (hg : w.grownBy w' row) (hne : some b ≠ row) : Own w' b t vs := (hg.block b h.lt hne).trans h
theorem Own.keep {b : Nat} {t : TypeId} {vs : List Value} (h : Own w b t vs) {B : Nat} (hb : Below B w w') (hB : b < B) : Own w' b t vs := (hb.block b hB).trans h
theorem Own.below {b : Nat} {t : TypeId} {vs : List Value} (h : Own w b t vs) (hb : Below w.heap.size w w') : Own w' b t vs := h.keep hb h.lt

theorem u32s_length (xs : List Nat) : (u32s xs).length = xs.length := by simp [u32s]
theorem u32s_get (xs : List Nat) (i : Nat) (h : i < xs.length) : (u32s xs)[i]? = some (u32 xs i) := by
  simp [u32s, u32, ix, h]
theorem u32s_set (xs : List Nat) (i x : Nat) : (u32s xs).set i (.int .u32 (x : Nat)) = u32s (xs.set i x) := by
  simp [u32s, List.map_set]
theorem Own.u32cell {b : Nat} {t : TypeId} {xs : List Nat} (h : Own w b t (u32s xs)) {i : Nat} (hi : i < xs.length) : w.cell? ⟨b, i, none⟩ = some (.int .u32 (ix xs i : Nat)) := by
  rw [h.cell, u32s_get xs i hi]; rfl
theorem Own.u32set {b : Nat} {t : TypeId} {xs : List Nat} (h : Own w b t (u32s xs)) (i x : Nat) : Own (w.setCell ⟨b, i, none⟩ (.int .u32 (x : Nat))) b t (u32s (xs.set i x)) := by
  rw [← u32s_set]; exact h.set i _
theorem Own.put {b : Nat} {t : TypeId} {xs : List Nat} (h : Own w b t (u32s xs)) (i x : Nat) {z : Int} (e : z = (x : Int)) : Own (w.setCell ⟨b, i, none⟩ (.int .u32 z)) b t (u32s (xs.set i x)) := by
  subst e; exact h.u32set i x
theorem Own.row {b : Nat} {t : TypeId} {xs : List Nat} (h : Own w b t (u32s xs)) : Row w (some ⟨b, 0, none⟩) xs.length (u32 xs) := fun _ =>
  ⟨b, 0, rfl, h.lt, fun j hj => by rw [Nat.zero_add]; exact h.u32cell hj⟩

/-- a store into a block that holds no u32 keeps every row of u32 -/
def noU32 : Value → Bool | .int .u32 _ => false | _ => true
theorem Row.put {xs : List Nat} {R : Nat} {t : TypeId} {vs : List Value} (h : Row w A n (u32 xs)) (hR : Own w R t vs) (hv : vs.all noU32 = true) (i : Nat) (u : Value) : Row (w.setCell ⟨R, i, none⟩ u) A n (u32 xs) := fun hn => by
  obtain ⟨b, o, rfl, hlt, hc⟩ := h hn
  have hne : b ≠ R := by
    rintro rfl
    have h0 := hc 0 hn
    rw [hR.cell] at h0
    have := List.all_eq_true.1 hv _ (List.mem_of_getElem? h0)
    simp [u32, noU32] at this
  exact ⟨b, o, rfl, by simpa [World.setCell] using hlt, fun j hj => (World.cell?_of_block (Below.heap_setCell w ⟨R, i, none⟩ u b hne)).trans (hc j hj)⟩
theorem U32.put {xs : List Nat} {R : Nat} {t : TypeId} {vs : List Value} (h : U32 w v xs) (hR : Own w R t vs) (hv : vs.all noU32 = true) (i : Nat) (u : Value) : U32 (w.setCell ⟨R, i, none⟩ u) v xs := by
  obtain ⟨A, c, rfl, h1, h2, h0, h3⟩ := h
  exact ⟨A, c, rfl, h1, h2, h0, h3.put hR hv i u⟩
/-- a store into a block from B on keeps a row that lies below B -/
theorem Row.setCell {B : Nat} (h : Row w A n f) (hB : ∀ b o, A = some ⟨b, o, none⟩ → b < B) {p : Addr} (hp : B ≤ p.block) (u : Value) : Row (w.setCell p u) A n f := fun hn => by
  obtain ⟨b, o, rfl, hlt, hc⟩ := h hn
  have := hB b o rfl
  exact ⟨b, o, rfl, by simpa [World.setCell] using hlt, fun j hj => (Below.cell ((Below.refl B w).setCell hp u) (p := ⟨b, o + j, none⟩) this).trans (hc j hj)⟩
end

theorem U32.of_own {w : World} {base : Nat} {t : TypeId} {v : Value} {n : Nat} {xs : List Nat} (h : w.ownsRow base t 1 v n (u32s xs)) : U32 w v xs := by
  have hn : xs.length = n := by have := h.1; rw [u32s_length] at this; omega
  subst hn
  rcases h.2 with ⟨rfl, h0⟩ | ⟨g, cap, cur, rfl, _, hg, hc, hm, hs, ht⟩
  · have : xs = [] := List.eq_nil_of_length_eq_zero h0
    subst this
    exact U32.nil
  · refine ⟨_, cap, rfl, hc, hm, (by intro h; cases h), fun hp => ⟨g, 0, rfl, (Array.getElem?_eq_some_iff.1 hg).1, fun j hj => ?_⟩⟩
    rw [Nat.zero_add, cell_of_row w g j cur t (0, 0) hg]
    have := u32s_get xs j hj
    rw [← ht, List.getElem?_take] at this
    split at this
    · simpa using this
    · cases this
/-- the one cell of a new block -/
theorem newcell (w : World) (x : Value) (t : TypeId) : ∀ (j : Nat) (u : Value), [x][j]? = some u → (w.alloc (.cells #[x] t)).cell? ((⟨w.heap.size, 0, none⟩ : Addr).add j) = some u := by
  intro j u h
  cases j with
  | zero => simp at h; subst h; exact (Own.new w t [x]).cell 0
  | succ j => simp at h
theorem u32s_snoc (xs : List Nat) (x : Nat) {z : Int} (e : z = (x : Int)) : u32s xs ++ [Value.int .u32 z] = u32s (xs ++ [x]) := by subst e; simp [u32s]
/-- where n cells are made by 'make' -/
theorem madeCells_u32 (n : Nat) : madeCells #[Value.int .u32 0] n = (u32s (List.replicate n 0)).toArray := by
  apply Array.ext
  · simp [madeCells, u32s]
  · intro i h1 h2
    simp [madeCells, u32s, Nat.mod_one]
theorem trimL_row {w : World} {A : Option Addr} {xs : List Nat} (h : Row w A xs.length (u32 xs)) : Row w A (trimL xs).length (u32 (trimL xs)) := by
  refine (h.take (trimL_length_le xs)).congr fun j hj => ?_
  unfold u32
  rw [show ix (trimL xs) j = ix xs j by
    rw [trimL_take xs]; exact ix_take xs _ j hj]
theorem U32.trim {w : World} {A : Option Addr} {c : Nat} {xs : List Nat} (h : Row w A xs.length (u32 xs)) (h1 : xs.length ≤ c) (h2 : c ≤ maxLen) (h0 : A = none → c = 0) : U32 w (.slice A (trimL xs).length c) (trimL xs) :=
  ⟨A, c, rfl, Nat.le_trans (trimL_length_le xs) h1, h2, h0, trimL_row h⟩

/-- a block of the call's own, trimmed, as a row that may be appended to -/
theorem owns_trim {w : World} {base b : Nat} {t : TypeId} {out : List Nat} {N : Nat} (h : Own w b t (u32s out)) (hl : out.length = N) (hb : base ≤ b) (hm : N ≤ maxLen) :
    w.ownsRow base t 1 (.slice (some ⟨b, 0, none⟩) (trimL out).length N) (trimL out).length (u32s (trimL out)) := by
  refine ⟨by simp [u32s], .inr ⟨b, N, (u32s out).toArray, rfl, hb, h, by have := trimL_length_le out; omega, hm, by simp [u32s, hl], ?_⟩⟩
  have := trimL_take out
  simp only [Nat.mul_one]
  conv => rhs; rw [this]
  simp [u32s, List.map_take]
/-- append of a row that may be nil, empty or not, of one-cell elements -/
theorem wpList_append_row {P : Program} {w : World} {ops : Array Oper} {rest : List Oper} {o : Oper} {a : Act} {Q : Exit → Act → World → Prop} (hgd : o.guard = none) (s x : Operand) (t : TypeId)
    (ho : o.op = .call { callee := .builtin .append, args := #[s, x], argTypes := #[t, t] })
    (base : Nat) (e : TypeId) (i : TypeInfo) (z : Value) (bytes : Nat) (ht : P.underlying t = some (.slice e)) (hi : P.info? e = some i) (hz : i.zero = some z)
    (hsize : i.size = 1) (hby : i.bytes = bytes) (hzs : z.cells.size = 1)
    (v : Value) (n : Nat) (xs : List Value) (hs : a.eval s = v) (hown : w.ownsRow base e 1 v n xs)
    (A : Option Addr) (m c : Nat) (f : Nat → Value) (hx : a.eval x = .slice A m c) (hA : A = none → c = 0) (hmc : m ≤ c) (hr : Row w A m f) (h1 : ∀ j, (f j).oneCell' = true)
    (h63 : n + m ≤ maxLen) (hbytes : (n + m) * bytes ≤ 140737488355328) (hbase : base ≤ w.heap.size)
    (h : ∀ v' w', w'.ownsRow base e 1 v' (n + m) (xs ++ (List.range m).map f) → w.grownBy w' v.ownBlock → wpList P ops Q rest (a.put o.dst v') w') : wpList P ops Q (o :: rest) a w := by
  rcases A with _ | ad
  · obtain rfl := hA rfl
    obtain rfl : m = 0 := by omega
    exact wpList_append_own_none hgd s x t ho base e i 1 ht hi v n xs hs hown hx (h v w (by simpa using hown) ⟨rfl, rfl, rfl, Nat.le_refl _, fun _ _ _ => rfl⟩)
  · refine wpList_append_own w hgd s x t ho base e i z 1 bytes ht hi hz hsize hby hzs (by omega) v n xs hs hown ad m c ((List.range m).map f) hx (by simp) ?_ (by intro u hu; obtain ⟨j, _, rfl⟩ := List.mem_map.1 hu; exact h1 j) h63 hbytes hbase (fun v' w' h2 h3 _ => h v' w' h2 h3)
    intro j u hu
    have hj : j < m := by
      rcases Nat.lt_or_ge j m with h | h
      · exact h
      · rw [List.getElem?_eq_none (by simpa using h)] at hu; cases hu
    obtain ⟨b, off, e1, _, hc⟩ := hr (by omega)
    cases e1
    rw [List.getElem?_map, List.getElem?_range hj] at hu
    cases hu
    have e2 : (⟨b, off, none⟩ : Addr).add j = ⟨b, off + j, none⟩ := by unfold Addr.add; split <;> simp_all
    rw [e2]
    exact hc j hj
theorem u32s_take (xs : List Nat) (k : Nat) (h : k ≤ xs.length) : (List.range k).map (u32 xs) = u32s (xs.take k) := by
  apply List.ext_getElem
  · simp [u32s, h]
  · intro i h1 h2
    have h3 : i < xs.length := by simp [u32s] at h2; omega
    simp [u32s, u32, ix, h3]
theorem u32s_range (xs : List Nat) : (List.range xs.length).map (u32 xs) = u32s xs := by
  apply List.ext_getElem
  · simp [u32s]
  · intro i h1 h2
    have h3 : i < xs.length := by simpa [u32s] using h2
    simp [u32s, u32, ix, h3]
end Go.Proofs.Ytecibfncnaccjaa
