/- The triangles of a height grid, plainly. No program in sight. A range over an iterator whose k-th round is known: one law for the caller, by the number of the round. No program in sight. The walks of the magnitudes' small functions. The walks of plus and minus. The walks of made, split, Of, Valid, groups. -/
import Derived.Test.YtecibfncnaccjaaGreatPo2
import Derived.Test.YtecibfncnaccjaaGreatPo1
import Derived.RangeFuncNested
import Derived.RangeFuncBound
import Derived.RangeFuncCalls
import Derived.RangeFuncLeaves
import Derived.Shelf.Abstract
import Derived.Shelf.RegionOpen
import Derived.WalkKit
import Derived.OwnWalkIn
import Derived.TacticsInMore
import Derived.LoopNIn
import Derived.LoopIn
import Derived.Test.YtecibfncnaccjaaGreatProg
import Derived.WalkSpells
namespace Go.Proofs.YtecibfncnaccjaaGreat

abbrev Tri := Nat × Nat × Nat
def pairT (W k : Nat) : List Tri := [(k, k + 1, k + W + 1), (k, k + W + 1, k + W)]
def rowT (W k0 n : Nat) : List Tri := (List.range n).flatMap fun i => pairT W (k0 + i)
def allT (W n : Nat) : List Tri := (List.range n).flatMap fun j => rowT W (j * W) (W - 1)
def isZ (zs : List Int) (k : Nat) : Bool := zs.getD k 0 != -2147483648
def hereT (zs : List Int) (t : Tri) : Bool := isZ zs t.1 && isZ zs t.2.1 && isZ zs t.2.2
def preT (zs : List Int) (W j i e : Nat) : List Tri := (allT W j ++ rowT W (j * W) i ++ (pairT W (j * W + i)).take e).filter (hereT zs)
def triL (W H : Nat) (zs : List Int) : List Tri := (allT W (H - 1)).filter (hereT zs)
theorem preT_start (zs : List Int) (W : Nat) : preT zs W 0 0 0 = [] := by simp [preT, allT, rowT]
theorem preT_next {zs : List Int} {W j i e : Nat} {t : Tri} (h : (pairT W (j * W + i))[e]? = some t) : preT zs W j i (e + 1) = preT zs W j i e ++ if hereT zs t then [t] else [] := by
 have he : e < (pairT W (j * W + i)).length := (List.getElem?_eq_some_iff.1 h).1
 have ht : (pairT W (j * W + i))[e] = t := (List.getElem?_eq_some_iff.1 h).2
 unfold preT
 rw [List.take_succ_eq_append_getElem he, ← List.append_assoc, List.filter_append _ [_], ht]
 congr 1
 cases hh : hereT zs t <;> simp [hh]
theorem preT_cell (zs : List Int) (W j i : Nat) : preT zs W j i 2 = preT zs W j (i + 1) 0 := by
 unfold preT
 rw [show (pairT W (j * W + i)).take 2 = pairT W (j * W + i) from rfl, List.take_zero, List.append_nil]
 simp [rowT, List.range_succ]
theorem preT_row (zs : List Int) (W j : Nat) : preT zs W j (W - 1) 0 = preT zs W (j + 1) 0 0 := by
 unfold preT
 simp [rowT, allT, List.range_succ]
theorem preT_end (zs : List Int) (W H : Nat) : preT zs W (H - 1) 0 0 = triL W H zs := by
 unfold preT triL
 simp [rowT]
theorem pair_at (W k : Nat) {e : Nat} (h : e < 2) : ∃ a b c : Nat, (pairT W k)[e]? = some (a, b, c) ∧ k ≤ a ∧ a ≤ k + W + 1 ∧ k ≤ b ∧ b ≤ k + W + 1 ∧ k ≤ c ∧ c ≤ k + W + 1 := by
 have : e = 0 ∨ e = 1 := by omega
 rcases this with rfl | rfl
 ·exact ⟨k, k + 1, k + W + 1, rfl, by omega, by omega, by omega, by omega, by omega, by omega⟩
 ·exact ⟨k, k + W + 1, k + W, rfl, by omega, by omega, by omega, by omega, by omega, by omega⟩
def flatT (l : List Tri) : List Value := l.flatMap fun t => [.int .i64 (t.1 : Nat), .int .i64 (t.2.1 : Nat), .int .i64 (t.2.2 : Nat)]
theorem flatT_append (a b : List Tri) : flatT (a ++ b) = flatT a ++ flatT b := by simp [flatT]
theorem flatT_length : ∀ l : List Tri, (flatT l).length = l.length * 3
 | [] => rfl
 | t :: l => by
  have := flatT_length l
  simp only [flatT, List.flatMap_cons, List.length_append, List.length_cons, List.length_nil] at this ⊢
  omega
theorem flatT_at : ∀ {l : List Tri} {j : Nat} {t : Tri}, l[j]? = some t → (flatT l)[j * 3]? = some (.int .i64 (t.1 : Nat)) ∧ (flatT l)[j * 3 + 1]? = some (.int .i64 (t.2.1 : Nat)) ∧ (flatT l)[j * 3 + 2]? = some (.int .i64 (t.2.2 : Nat))
 | [], j, t, h => by simp at h
 | a :: l, 0, t, h => by
  obtain rfl : a = t := by simpa using h
  exact ⟨rfl, rfl, rfl⟩
 | a :: l, j + 1, t, h => by
  have := flatT_at (l := l) (j := j) (t := t) (by simpa using h)
  have e : flatT (a :: l) = [.int .i64 (a.1 : Nat), .int .i64 (a.2.1 : Nat), .int .i64 (a.2.2 : Nat)] ++ flatT l := rfl
  rw [e]
  refine ⟨?_, ?_, ?_⟩
  ·rw [List.getElem?_append_right (by simp; omega), ← this.1]; congr 1; simp; omega
  ·rw [List.getElem?_append_right (by simp; omega), ← this.2.1]; congr 1; simp; omega
  ·rw [List.getElem?_append_right (by simp; omega), ← this.2.2]; congr 1; simp; omega
theorem idx_top {W H j i x : Nat} (hj : j + 1 < H) (hi : i + 1 < W) (hx : x ≤ j * W + i + W + 1) : x < W * H := by
 have := idx_lt (W := W) (H := H) (x := i + 1) (y := j + 1) (by omega) (by omega)
 rw [Nat.add_mul, Nat.one_mul] at this
 omega
theorem allT_mem {W H : Nat} {t : Tri} (h : t ∈ allT W (H - 1)) : ∃ j i, j + 1 < H ∧ i + 1 < W ∧ t ∈ pairT W (j * W + i) := by
 unfold allT rowT at h
 simp only [List.mem_flatMap, List.mem_range] at h
 obtain ⟨j, hj, i, hi, ht⟩ := h
 exact ⟨j, i, by omega, by omega, ht⟩
theorem triL_lt {W H : Nat} {zs : List Int} {t : Tri} (h : t ∈ triL W H zs) : t.1 < W * H ∧ t.2.1 < W * H ∧ t.2.2 < W * H := by
 obtain ⟨j, i, hj, hi, ht⟩ := allT_mem (List.mem_filter.1 h).1
 simp only [pairT, List.mem_cons, List.not_mem_nil, or_false] at ht
 rcases ht with rfl | rfl
 ·exact ⟨idx_top hj hi (by simp only; omega), idx_top hj hi (by simp only; omega), idx_top hj hi (by simp only; omega)⟩
 ·exact ⟨idx_top hj hi (by simp only; omega), idx_top hj hi (by simp only; omega), idx_top hj hi (by simp only; omega)⟩
theorem flatMap_len {α β : Type} (l : List α) (f : α → List β) (m : Nat) (h : ∀ x ∈ l, (f x).length ≤ m) : (l.flatMap f).length ≤ l.length * m := by
 induction l with
 | nil => simp
 | cons a l ih =>
  have h1 := h a List.mem_cons_self
  have h2 := ih (fun x hx => h x (List.mem_cons_of_mem _ hx))
  rw [List.flatMap_cons, List.length_append, List.length_cons, Nat.add_mul]
  omega
theorem rowT_len (W k n : Nat) : (rowT W k n).length ≤ n * 2 := by
 have := flatMap_len (List.range n) (fun i => pairT W (k + i)) 2 (fun x _ => Nat.le_refl _)
 rw [List.length_range] at this
 exact this
theorem allT_len (W n : Nat) : (allT W n).length ≤ n * (W * 2) := by
 have := flatMap_len (List.range n) (fun j => rowT W (j * W) (W - 1)) (W * 2) (fun x _ => Nat.le_trans (rowT_len _ _ _) (Nat.mul_le_mul (by omega) (Nat.le_refl _)))
 rw [List.length_range] at this
 exact this
theorem preT_len {zs : List Int} {W j i e : Nat} (hW : W ≤ 64) (hj : j ≤ 64) (hi : i ≤ 64) : (preT zs W j i e).length ≤ 9000 := by
 unfold preT
 refine Nat.le_trans (List.length_filter_le _ _) ?_
 rw [List.length_append, List.length_append]
 have h1 := allT_len W j
 have h2 := rowT_len W (j * W) i
 have h3 : ((pairT W (j * W + i)).take e).length ≤ 2 := by rw [List.length_take]; exact Nat.min_le_right _ _
 have h4 : j * (W * 2) ≤ 64 * (64 * 2) := Nat.mul_le_mul hj (by omega)
 omega
theorem triL_len (W H : Nat) (zs : List Int) : (triL W H zs).length ≤ 2 * (W * H) := by
 unfold triL
 refine Nat.le_trans (List.length_filter_le _ _) (Nat.le_trans (allT_len _ _) ?_)
 have : (H - 1) * (W * 2) ≤ H * (W * 2) := Nat.mul_le_mul_right _ (by omega)
 rw [show H * (W * 2) = 2 * (W * H) by rw [← Nat.mul_assoc, Nat.mul_comm H W, Nat.mul_comm]] at this
 exact this
end Go.Proofs.YtecibfncnaccjaaGreat
namespace Go.Proofs.YtecibfncnaccjaaGreat
open Go.RowKit Go.Shelf

variable {F : Fence} {n : Nat} {P : Program}

def SeqIdx (F : Fence) (n : Nat) (P : Program) (g : Nat) (lb : Array Value) (encs : Nat → Array Value) (Kp : World → World → Prop) (N : Nat) (w : World) : Prop :=
 ∀ (l : Nat) (J Jx : Nat → World → Prop) (W : World), Below w.heap.size w W → AbidesFrom W.heap.size J → AbidesFrom W.heap.size Jx →
  (∀ k W1, J k W1 → k < N → YieldAt F (n - 1) P l (encs k) W1 fun e W' =>
   (e = .returned (.bool true) ∧ J (k + 1) W' ∧ Kp W1 W') ∨ (e = .returned (.bool false) ∧ Jx (k + 1) W')) →
  J 0 W →
  CallsIn F n P g (#[.func (.yield l) #[] #[]] ++ lb) W fun e W' => (∃ v, e = .returned v) ∧ (J N W' ∨ ∃ k, k ≤ N ∧ Jx k W')

def idxPost (B : Nat) (Kp : World → World → Prop) (I : Nat → World → Prop) (Ix : Code → Nat → World → Prop) (k : Nat) (W : World) : Exit → Act → World → Prop
 | .normal, _, W' => KeepsFrom B W W' ∧ Kp W W' ∧ I (k + 1) W'
 | .ret, _, W' => KeepsFrom B W W' ∧ Ix .ret (k + 1) W'
 | .exit id, _, W' => KeepsFrom B W W' ∧ Ix (.exit id) (k + 1) W'
 | .goto t, _, W' => KeepsFrom B W W' ∧ Ix (.goto t) (k + 1) W'
 | .panic _, _, _ => False
 | .outgrown, _, _ => False

theorem wpIn_range_idx {g : Operand} {ps : Array Tmp} {assign body : Code} {Q : Exit → Act → World → Prop} {a : Act} {w : World}
 (hro : F.round = none) (h1 : 1 ≤ n) {gf : Nat} {lb : Array Value} (hg : a.eval g = .func (.func gf) #[] lb) (hFg : F.fn gf) (eg : ∀ args w, (callFunc gf args).run P w = .ok (.enter gf args) w)
 {encs : Nat → Array Value} {Kp : World → World → Prop} {N : Nat} {w0 : World} (hseq : SeqIdx F (n - 1) P gf lb encs Kp N w0)
 (hKt : ∀ {A B C : World}, Kp A B → Kp B C → Kp A C) (hKb : ∀ (W : World) (l : Nat) (o o' : Obj), w.heap.size ≤ l → W.heap[l]? = some o → o.isCells = false → o.isWalk = false → Kp W (W.putObj l o')) (hb0 : Below w0.heap.size w0 w) (hps : ∀ x, (encs x).size = ps.size)
 (I : Nat → World → Prop) (Ix : Code → Nat → World → Prop) (hI : OwnFrom w.heap.size I) (hIx : ∀ c, OwnFrom w.heap.size (Ix c)) (h0 : I 0 w) (a₁ : Nat → Act)
 (hassign : ∀ (l : Nat) (x : Nat) (W : World) (K : Act → World → Prop), K (a₁ x) W →
  assign.wpIn (F.inRound l) (n - 1 - 1) P (Exit.then K (fun _ _ _ => False)) { tmps := (ps.zip (encs x)).foldl (fun t (p, v) => t.setIfInBounds p v) a.tmps, defers := [] } W)
 (hbody : ∀ (l : Nat) (k : Nat) (W : World), I k W → k < N → body.wpIn (F.inRound l) (n - 1 - 1) P (idxPost w.heap.size Kp I Ix k W) (a₁ k) W)
 (hdone : ∀ (D : Nat) (W : World), w.heap.size ≤ D → I N W → W.heap[D]? = some (.deferred (some [])) → Q .normal { a with defers := { target := .collected D, args := #[] } :: a.defers } W)
 (hstop : ∀ (D : Nat) (c : Code) (k : Nat) (W : World), w.heap.size ≤ D → k ≤ N → Ix c k W → W.heap[D]? = some (.deferred (some [])) → c.wpIn F n P Q { a with defers := { target := .collected D, args := #[] } :: a.defers } W) :
 (Code.rangeFunc g ps assign body).wpIn F n P Q a w := by
 refine wpIn_rangeFunc ?_
 intro fn hfn
 rw [hro]
 -- the loop's record, and the world in which the iterator is called
 let rec_ : LoopState → Option Code → Loop := fun st pe => { state := st, pending := pe, fn, tmps := a.tmps, params := ps, assign, body, defers := w.heap.size }
 obtain ⟨rec, hrec⟩ : ∃ rec, rec = rec_ := ⟨_, rfl⟩
 obtain ⟨W1, hW1⟩ : ∃ W1, (w.alloc (.deferred (some []))).alloc (.loop (rec .ready none)) = W1 := ⟨_, rfl⟩
 have hsz : W1.heap.size = w.heap.size + 2 := by rw [← hW1]; simp
 have hL1 : W1.heap[w.heap.size + 1]? = some (.loop (rec .ready none)) := by
  rw [← hW1]; have := World.alloc_heap_new (w.alloc (.deferred (some []))) (.loop (rec .ready none)); rwa [World.size_alloc] at this
 have hK1 : W1.heap[w.heap.size]? = some (.deferred (some [])) := by
  rw [← hW1]; exact (Below.heap_alloc _ _ _ (by simp)).trans (World.alloc_heap_new w _)
 have hI1 : I 0 W1 := by rw [← hW1]; exact hI.alloc _ (hI.alloc _ h0)
 have hb1 : Below w0.heap.size w0 W1 := by
  rw [← hW1]; exact hb0.trans ((((Below.refl _ w).alloc (Nat.le_refl _) _).alloc (by simp) _).mono hb0.size)
 refine ⟨w.heap.size + 1, [{ target := .collected w.heap.size, args := #[] }], W1, { target := .fn (.func gf) lb, args := #[.func (.yield (w.heap.size + 1)) #[] #[]] }, W1, gf,
  #[.func (.yield (w.heap.size + 1)) #[] #[]] ++ lb, W1, ?enter, ?target, ?leads, ?invoke, fun _ => h1, ?call⟩
 case enter => rw [← hW1, hrec]; exact run_enterLoop_outer _ _ _ _ _
 case target =>
  simp only [resolve, hg]
  simp [go_sem]
 case leads => intro f' hf'; simp [Target.leads] at hf'; subst hf'; exact hFg
 case invoke => simp [invoke, go_sem, eg]
 case call =>
  have wide : ∀ {A : World} {row : Option Nat}, (∀ r, row = some r → W1.heap.size ≤ r ∧ ∃ o : Obj, A.heap[r]? = some o ∧ o.isWalk = true) → ∀ r, row = some r → w.heap.size ≤ r ∧ ∃ o : Obj, A.heap[r]? = some o ∧ o.isCells = false :=
   fun hr r e => by
    obtain ⟨hB, o, ho, hw⟩ := hr r e
    exact ⟨by omega, o, ho, Obj.not_cells_of_walk hw⟩
  refine (hseq (w.heap.size + 1)
   (fun k W => I k W ∧ W.heap[w.heap.size + 1]? = some (.loop (rec .ready none)) ∧ W.heap[w.heap.size]? = some (.deferred (some [])))
   (fun k W => ∃ c, Ix c k W ∧ W.heap[w.heap.size + 1]? = some (.loop (rec .done (some c))) ∧ W.heap[w.heap.size]? = some (.deferred (some [])))
   W1 hb1 ?ab1 ?ab2 ?rounds ⟨hI1, hL1, hK1⟩).mono ?after
  case ab1 =>
   rintro s A B row ⟨hs, hl, hd⟩ hg' hr
   exact ⟨hI s A B row hs hg' (wide hr), (grownBy_keeps hg' (fun r e => (hr r e).2) hl rfl).trans hl, (grownBy_keeps hg' (fun r e => (hr r e).2) hd rfl).trans hd⟩
  case ab2 =>
   rintro s A B row ⟨c, hs, hl, hd⟩ hg' hr
   exact ⟨c, hIx c s A B row hs hg' (wide hr), (grownBy_keeps hg' (fun r e => (hr r e).2) hl rfl).trans hl, (grownBy_keeps hg' (fun r e => (hr r e).2) hd rfl).trans hd⟩
  case rounds =>
   rintro k W ⟨hi, hl, hd⟩ hlt
   have hsW : w.heap.size + 1 < W.heap.size := (Array.getElem?_eq_some_iff.1 hl).1
   have hy := run_yield (P := P) (args := encs k) hl (by rw [hrec]; exact hps k)
   rw [hrec] at hy
   refine ⟨fn, _, assign, body, hy, roundIn_of_wpIn hfn (hassign _ k W _ ⟨_, run_beginRound hl (by rw [hrec]), ?_⟩)⟩
   have hl2 : (W.putObj (w.heap.size + 1) (.loop { rec .ready none with state := .busy })).heap[w.heap.size + 1]? = some (.loop { rec .ready none with state := .busy }) := World.putObj_heap_same hsW
   have hd2 : (W.putObj (w.heap.size + 1) (.loop { rec .ready none with state := .busy })).heap[w.heap.size]? = some (.deferred (some [])) := (World.putObj_heap_other (by omega)).trans hd
   have hkp : Kp W (W.putObj (w.heap.size + 1) (.loop { rec .ready none with state := .busy })) := hKb _ _ _ _ (by omega) hl rfl rfl
   refine wpIn_mono (hbody _ k _ (hI.putObj _ hi (by omega) hl rfl) hlt) ?_
   -- behind the body: the record is put back
   have back : ∀ (jump : Option Code) (W3 : World), KeepsFrom w.heap.size (W.putObj (w.heap.size + 1) (.loop { rec .ready none with state := .busy })) W3 →
    (Instr.endRound (w.heap.size + 1) jump).run P W3 = .ok (.bool jump.isNone) (W3.putObj (w.heap.size + 1) (.loop (rec (if jump.isNone then .ready else .done) jump))) ∧
    W3.heap[w.heap.size + 1]? = some (.loop { rec .ready none with state := .busy }) ∧
    (W3.putObj (w.heap.size + 1) (.loop (rec (if jump.isNone then .ready else .done) jump))).heap[w.heap.size + 1]? = some (.loop (rec (if jump.isNone then .ready else .done) jump)) ∧
    (W3.putObj (w.heap.size + 1) (.loop (rec (if jump.isNone then .ready else .done) jump))).heap[w.heap.size]? = some (.deferred (some [])) := fun jump W3 hk3 => by
    have hl3 := hk3.same _ _ (by omega) hl2 rfl
    have hrun := run_endRound (P := P) jump hl3
    rw [hrec] at hrun ⊢
    exact ⟨hrun, by rw [hrec] at hl3; exact hl3, World.putObj_heap_same (Array.getElem?_eq_some_iff.1 hl3).1, (World.putObj_heap_other (by omega)).trans (hk3.same _ _ (Nat.le_refl _) hd2 rfl)⟩
   intro e a3 W3 hp
   cases e with
   | normal =>
    obtain ⟨hk3, hkp3, hi3⟩ := hp
    obtain ⟨hr, hl3, hl4, hd4⟩ := back none W3 hk3
    exact ⟨_, _, hr, .inl ⟨rfl, ⟨hI.putObj _ hi3 (by omega) hl3 rfl, hl4, hd4⟩, hKt (hKt hkp hkp3) (hKb _ _ _ _ (by omega) hl3 rfl rfl)⟩⟩
   | ret =>
    obtain ⟨hr, hl3, hl4, hd4⟩ := back (some .ret) W3 hp.1
    exact ⟨_, _, hr, .inr ⟨rfl, .ret, (hIx _).putObj _ hp.2 (by omega) hl3 rfl, hl4, hd4⟩⟩
   | exit id =>
    obtain ⟨hr, hl3, hl4, hd4⟩ := back (some (.exit id)) W3 hp.1
    exact ⟨_, _, hr, .inr ⟨rfl, .exit id, (hIx _).putObj _ hp.2 (by omega) hl3 rfl, hl4, hd4⟩⟩
   | goto t =>
    obtain ⟨hr, hl3, hl4, hd4⟩ := back (some (.goto t)) W3 hp.1
    exact ⟨_, _, hr, .inr ⟨rfl, .goto t, (hIx _).putObj _ hp.2 (by omega) hl3 rfl, hl4, hd4⟩⟩
   | panic ch => exact hp.elim
   | outgrown => exact hp.elim
  case after =>
   rintro e W2 ⟨⟨v, rfl⟩, (⟨hi, hl, hd⟩ | ⟨k, hkN, c, hi, hl, hd⟩)⟩
   ·exact ⟨none, _, by have := run_endLoop (P := P) hl (by rw [hrec]; simp [rec_]); rw [hrec] at this; exact this, hdone _ _ (Nat.le_refl _) (hI.putObj _ hi (by omega) hl rfl) ((World.putObj_heap_other (by omega)).trans hd)⟩
   ·exact ⟨some c, _, by have := run_endLoop (P := P) hl (by rw [hrec]; simp [rec_]); rw [hrec] at this; exact this, hstop _ c k _ (Nat.le_refl _) hkN ((hIx c).putObj _ hi (by omega) hl rfl) ((World.putObj_heap_other (by omega)).trans hd)⟩

theorem Own.nc {A B : World} {row : Option Nat} {b : Nat} {t : TypeId} {vs : List Value} (h : Own A b t vs) (hg : A.grownBy B row) (hr : ∀ r, row = some r → ∃ o : Obj, A.heap[r]? = some o ∧ o.isCells = false) : Own B b t vs := by
 unfold Own at h ⊢
 rw [hg.block b (Array.getElem?_eq_some_iff.1 h).1 (fun e => by
  obtain ⟨o, ho, hc⟩ := hr b e.symm
  rw [h] at ho; cases ho; cases hc)]
 exact h
theorem Row.nc {A B : World} {row : Option Nat} {a : Option Addr} {m : Nat} {f : Nat → Value} (h : Row A a m f) (hg : A.grownBy B row) (hr : ∀ r, row = some r → ∃ o : Obj, A.heap[r]? = some o ∧ o.isCells = false) : Row B a m f := fun hn => by
 obtain ⟨b, o, e, hlt, hc⟩ := h hn
 refine ⟨b, o, e, Nat.lt_of_lt_of_le hlt hg.size, fun j hj => ?_⟩
 refine (World.cell?_of_block (hg.block b hlt fun e' => ?_)).trans (hc j hj)
 obtain ⟨ob, ho, hcl⟩ := hr b e'.symm
 have h0 := hc j hj
 unfold World.cell? at h0
 rw [ho] at h0
 cases ob <;> simp [Obj.isCells] at hcl h0
theorem U32.nc {A B : World} {row : Option Nat} {v : Value} {xs : List Nat} (h : U32 A v xs) (hg : A.grownBy B row) (hr : ∀ r, row = some r → ∃ o : Obj, A.heap[r]? = some o ∧ o.isCells = false) : U32 B v xs := by
 obtain ⟨a, c, rfl, h1, h2, h0, h3⟩ := h
 exact ⟨a, c, rfl, h1, h2, h0, h3.nc hg hr⟩
end Go.Proofs.YtecibfncnaccjaaGreat
namespace Go.Proofs.YtecibfncnaccjaaGreat
open Go.RowKit

theorem ret_slice {A : Option Addr} {n m c : Nat} (h : n = m) : Ending.returned (.slice A n c) = .returned (.slice A m c) := by rw [h]

set_option maxHeartbeats 400000 in
theorem trim_any (A : Option Addr) (c : Nat) (xs : List Nat) (w : World) (h : Row w A xs.length (u32 xs)) (hc : xs.length ≤ c) (hm : c ≤ maxLen) :
 Calls Tryz.prog 125 #[.slice A xs.length c] w fun e w' => e = .returned (.slice A (trimL xs).length c) ∧ w = w' := by
 unfold maxLen at hm
 go_enter Tryz.func125, Tryz.ntmps125
 go_wp2
 go_loop [0] (fun g => ∃ k : Nat, k ≤ xs.length ∧ trimL (xs.take k) = trimL xs ∧ g = .slice A k c) (fun g => lenOf g)
 case atStart => exact ⟨_, Nat.le_refl _, by simp, rfl⟩
 case round =>
  obtain ⟨k, hk, ht, rfl⟩ := hrel
  have HT := Lib.hid ht
  clear ht
  rcases Nat.eq_zero_or_pos k with rfl | hpos
  ·go_wp2
   go_ret
   exact ⟨by rw [← HT.out]; simp [trimL], rfl⟩
  ·obtain ⟨j, rfl⟩ : ∃ j, k = j + 1 := ⟨k - 1, by omega⟩
   obtain ⟨b, o, rfl, hb, hcell⟩ := h (by omega)
   have hx : w.cell? ⟨b, o + j, none⟩ = some (.int .u32 (ix xs j : Nat)) := hcell j (by omega)
   have hts := take_snoc xs j (by omega)
   clear hcell
   by_cases hz : ix xs j = 0
   ·have HZ := Lib.hid hz
    rw [hz] at hx
    clear hz
    have HS := Lib.hid hts
    clear hts
    go_wp2
    go_round
    case rel => exact ⟨j, by omega, by rw [← HT.out, HS.out, HZ.out, trimL_snoc_zero], rfl⟩
    case measure => simp [lenOf]
   ·have hb2 : (((ix xs j : Nat) : Int) == 0) = false := by simpa using hz
    have HS := Lib.hid hts
    clear hts
    go_wp2
    go_ret
    exact ⟨ret_slice (by rw [← HT.out, HS.out, trimL_snoc _ _ hz]; simp; omega), rfl⟩

theorem at_any (A : Option Addr) (c : Nat) (xs : List Nat) (i : Nat) (w : World) (h : Row w A xs.length (u32 xs)) (hm : xs.length ≤ 1000000000) (hi : i ≤ 1000000000) :
 Calls Tryz.prog 141 #[.slice A xs.length c, .int .i64 (i : Nat)] w fun e w' => e = .returned (.int .u32 (ix xs i : Nat)) ∧ w = w' := by
 by_cases hlt : i < xs.length
 ·obtain ⟨b, o, rfl, hb, hcell⟩ := h (by omega)
  have hx : w.cell? ⟨b, o + i, none⟩ = some (.int .u32 (ix xs i : Nat)) := hcell i hlt
  go_enter Tryz.func141, Tryz.ntmps141
  go_wp2
  go_ret
  exact ⟨rfl, rfl⟩
 ·have HZ := Lib.hid (ix_past xs i (by omega))
  go_enter Tryz.func141, Tryz.ntmps141
  go_wp2
  go_ret
  exact ⟨by rw [HZ.out]; rfl, rfl⟩

theorem trim_n (A : Option Addr) (n c : Nat) (xs : List Nat) (w : World) (e : xs.length = n) (h : Row w A n (u32 xs)) (hc : n ≤ c) (hm : c ≤ maxLen) :
 Calls Tryz.prog 125 #[.slice A n c] w fun e w' => e = .returned (.slice A (trimL xs).length c) ∧ w = w' := by
 subst e
 exact trim_any A c xs w h hc hm
theorem at_n (A : Option Addr) (n c : Nat) (xs : List Nat) (i : Nat) (w : World) (e : xs.length = n) (h : Row w A n (u32 xs)) (hm : n ≤ 1000000000) (hi : i ≤ 1000000000) :
 Calls Tryz.prog 141 #[.slice A n c, .int .i64 (i : Nat)] w fun e w' => e = .returned (.int .u32 (ix xs i : Nat)) ∧ w = w' := by
 subst e
 exact at_any A c xs i w h hm hi
theorem info_u32 : (Tryz.prog.info? 90).map (fun i => (i.zero, i.size, i.bytes)) = some (some (.int .u32 0), 1, 4) := by kernel_rfl
theorem make_u32 (k : Int) (n : Nat) (e : k = (n : Int)) (h : n ≤ 4000000) : ∀ u : World, (Instr.makeSlice 31 (.int .i64 k) (.int .i64 k)).run Tryz.prog u =
 .ok (.slice (some ⟨u.heap.size, 0, none⟩) n n) (u.alloc (.cells (u32s (List.replicate n 0)).toArray 90)) := fun u => by
 subst e
 obtain ⟨i0, hi, hz0, hz1, hz2⟩ := info_parts info_u32
 have h := run_make (P := Tryz.prog) u 31 90 i0 (.int .u32 0) Tryz.underlying31 hi hz0 .i64 .i64 (n : Int) (n : Int) (by omega) (Int.le_refl _) (by rw [hz2]; omega) (by omega)
 rw [← madeCells_u32]
 simpa [hz1, Value.cells] using h

set_option maxRecDepth 100000 in
set_option maxHeartbeats 400000 in
theorem plus_any (A D : Option Addr) (c1 c2 : Nat) (xs ys : List Nat) (w : World) (h1 : Row w A xs.length (u32 xs)) (h2 : Row w D ys.length (u32 ys))
 (ha : AllB xs) (hb : AllB ys) (hm1 : xs.length ≤ 1000000) (hm2 : ys.length ≤ 1000000) :
 Calls Tryz.prog 123 #[.slice A xs.length c1, .slice D ys.length c2] w fun e w' => ∃ v, e = .returned v ∧ U32 w' v (dig (val xs + val ys)) ∧ Keeps w w' := by
 obtain ⟨N, hN⟩ : ∃ N, N = max xs.length ys.length + 1 := ⟨_, rfl⟩
 have hN1 : N ≤ 4000000 := by omega
 have hN2 : xs.length + 1 ≤ N := by omega
 have hN3 : ys.length + 1 ≤ N := by omega
 rcases Nat.lt_or_ge xs.length ys.length with hle | hle
 all_goals
  first
  | have hmk := make_u32 (xs.length + 1) N (by omega) hN1
  | have hmk := make_u32 (ys.length + 1) N (by omega) hN1
  have HN := Lib.hid hN
  clear hN
  go_enter Tryz.func123, Tryz.ntmps123
  go_wp2
  have hown := Own.new w 90 (u32s (List.replicate N 0))
  have hk : Keeps w (w.alloc (.cells (u32s (List.replicate N 0)).toArray 90)) := bl.alloc (Nat.le_refl _) _
  go_loopw [6, 18] (fun c i wr => ∃ (k cc : Nat) (out : List Nat), k ≤ N ∧ i = .int .i64 (k : Nat) ∧ c = .int .u32 (cc : Nat) ∧ cc ≤ 1 ∧ out.length = N ∧ AllB out ∧
   val (out.take k) + cc * 1000000000 ^ k = val (xs.take k) + val (ys.take k) ∧ Own wr w.heap.size 90 (u32s out) ∧ Keeps w wr)
   (fun _ i _ => N - (intOf i).toNat)
  case atStart => exact ⟨0, 0, List.replicate N 0, by omega, rfl, rfl, by omega, by simp, AllB.replicate N, by simp [val], hown, hk⟩
  case round =>
   obtain ⟨k, cc, out, hkN, rfl, rfl, hcc, hol, hob, hval, hown1, hk1⟩ := hrel
   have HV := Lib.hid hval
   have HL := Lib.hid hol
   clear hval hol
   by_cases hlt : k < N
   ·have hc0 := hown1.u32cell (i := k) (by rw [HL.out]; exact hlt)
    have hf0 := hown1.frozen k
    have hx : (ix xs k : Int) < 1000000000 := by have := ha.ix k; omega
    have hy : (ix ys k : Int) < 1000000000 := by have := hb.ix k; omega
    rcases Int.lt_or_le ((ix xs k : Int) + ix ys k + cc) 1000000000 with hs | hs
    ·go_wp2_with fail
     refine (at_any A c1 xs k wr (h1.below hk1) (by omega) (by omega)).mono ?_
     rintro e w1 ⟨rfl, rfl⟩
     go_wp2_with fail
     refine (at_any D c2 ys k wr (h2.below hk1) (by omega) (by omega)).mono ?_
     rintro e w1 ⟨rfl, rfl⟩
     have HD : decide ((1000000000 : Int) ≤ (ix xs k : Int) + ix ys k + cc) = false := decide_eq_false (by omega)
     go_wp2
     go_roundw
     case rel => exact ⟨k + 1, 0, out.set k (ix xs k + ix ys k + cc), by omega, by go_num, rfl, by omega, by rw [List.length_set]; exact HL.out,
      hob.set _ _ (by omega), plus_step xs ys out k cc _ 0 (by rw [HL.out]; exact hlt) HV.out (by omega), hown1.put k _ (by omega), hk1.setCell (Nat.le_refl _) _⟩
     case measure => simp [intOf]; omega
    ·go_wp2_with fail
     refine (at_any A c1 xs k wr (h1.below hk1) (by omega) (by omega)).mono ?_
     rintro e w1 ⟨rfl, rfl⟩
     go_wp2_with fail
     refine (at_any D c2 ys k wr (h2.below hk1) (by omega) (by omega)).mono ?_
     rintro e w1 ⟨rfl, rfl⟩
     go_wp2
     go_roundw
     case rel => exact ⟨k + 1, 1, out.set k (ix xs k + ix ys k + cc - 1000000000), by omega, by go_num, rfl, by omega, by rw [List.length_set]; exact HL.out,
      hob.set _ _ (by omega), plus_step xs ys out k cc _ 1 (by rw [HL.out]; exact hlt) HV.out (by omega), hown1.put k _ (by omega), hk1.setCell (Nat.le_refl _) _⟩
     case measure => simp [intOf]; omega
   ·obtain rfl : k = N := by omega
    go_wp2_with fail
    refine (trim_n _ _ _ out wr HL.out (by rw [← HL.out]; exact hown1.row) (Nat.le_refl _) (by simp only [maxLen]; omega)).mono ?_
    rintro e w1 ⟨rfl, rfl⟩
    go_wp2
    go_ret
    refine ⟨_, rfl, ?_, hk1⟩
    rw [← plus_done xs ys out k cc HL.out hN2 hN3 ha hb HV.out, ← trimL_eq hob]
    exact U32.trim hown1.row (by rw [HL.out]; exact Nat.le_refl _) (by simp only [maxLen]; omega) (by intro h; cases h)

set_option maxRecDepth 100000 in
set_option maxHeartbeats 400000 in
theorem minus_any (A D : Option Addr) (n1 n2 c1 c2 : Nat) (xs ys : List Nat) (w : World) (e1 : xs.length = n1) (e2 : ys.length = n2) (h1 : Row w A n1 (u32 xs)) (h2 : Row w D n2 (u32 ys))
 (ha : AllB xs) (hb : AllB ys) (hm1 : n1 ≤ 1000000) (hl : n2 ≤ n1) (hle : val ys ≤ val xs) :
 Calls Tryz.prog 124 #[.slice A n1 c1, .slice D n2 c2] w fun e w' => ∃ v, e = .returned v ∧ U32 w' v (dig (val xs - val ys)) ∧ Keeps w w' := by
 have hmk := make_u32 n1 n1 rfl (by omega)
 have HE1 := Lib.hid e1
 have HE2 := Lib.hid e2
 clear e1 e2
 go_enter Tryz.func124, Tryz.ntmps124
 go_wp2
 have hown := Own.new w 90 (u32s (List.replicate n1 0))
 have hk : Keeps w (w.alloc (.cells (u32s (List.replicate n1 0)).toArray 90)) := bl.alloc (Nat.le_refl _) _
 go_loopw [6, 14] (fun c i wr => ∃ (k cc : Nat) (out : List Nat), k ≤ n1 ∧ i = .int .i64 (k : Nat) ∧ c = .int .u32 (cc : Nat) ∧ cc ≤ 1 ∧ out.length = n1 ∧ AllB out ∧
  val (out.take k) + val (ys.take k) = val (xs.take k) + cc * 1000000000 ^ k ∧ Own wr w.heap.size 90 (u32s out) ∧ Keeps w wr)
  (fun _ i _ => n1 - (intOf i).toNat)
 case atStart => exact ⟨0, 0, List.replicate n1 0, by omega, rfl, rfl, by omega, by simp, AllB.replicate n1, by simp [val], hown, hk⟩
 case round =>
  obtain ⟨k, cc, out, hkN, rfl, rfl, hcc, hol, hob, hval, hown1, hk1⟩ := hrel
  have HV := Lib.hid hval
  have HL := Lib.hid hol
  clear hval hol
  by_cases hlt : k < n1
  ·have hc0 := hown1.u32cell (i := k) (by rw [HL.out]; exact hlt)
   have hf0 := hown1.frozen k
   have hx : (ix xs k : Int) < 1000000000 := by have := ha.ix k; omega
   have hy : (ix ys k : Int) < 1000000000 := by have := hb.ix k; omega
   obtain ⟨b, o, hA, hbl, hcell⟩ := (h1.below hk1) (by omega)
   have hxc : wr.cell? ⟨b, o + k, none⟩ = some (.int .u32 (ix xs k : Nat)) := hcell k hlt
   subst hA
   clear hcell
   by_cases hs : ix xs k < ix ys k + cc
   ·have HD : decide ((ix xs k : Int) < (ix ys k : Int) + cc) = true := decide_eq_true (by omega)
    go_wp2_with fail
    refine (at_n D n2 c2 ys k wr HE2.out (h2.below hk1) (by omega) (by omega)).mono ?_
    rintro e w1 ⟨rfl, rfl⟩
    go_wp2
    go_roundw
    case rel => exact ⟨k + 1, 1, out.set k (ix xs k + 1000000000 - (ix ys k + cc)), by omega, by go_num, rfl, by omega, by rw [List.length_set]; exact HL.out,
     hob.set _ _ (by omega), minus_step xs ys out k cc _ 1 (by rw [HL.out]; exact hlt) HV.out (by omega), hown1.put k _ (by omega), hk1.setCell (Nat.le_refl _) _⟩
    case measure => simp [intOf]; omega
   ·have HD : decide ((ix xs k : Int) < (ix ys k : Int) + cc) = false := decide_eq_false (by omega)
    go_wp2_with fail
    refine (at_n D n2 c2 ys k wr HE2.out (h2.below hk1) (by omega) (by omega)).mono ?_
    rintro e w1 ⟨rfl, rfl⟩
    go_wp2
    go_roundw
    case rel => exact ⟨k + 1, 0, out.set k (ix xs k - (ix ys k + cc)), by omega, by go_num, rfl, by omega, by rw [List.length_set]; exact HL.out,
     hob.set _ _ (by omega), minus_step xs ys out k cc _ 0 (by rw [HL.out]; exact hlt) HV.out (by omega), hown1.put k _ (by omega), hk1.setCell (Nat.le_refl _) _⟩
    case measure => simp [intOf]; omega
  ·obtain rfl : k = n1 := by omega
   go_wp2_with fail
   refine (trim_n _ _ _ out wr HL.out (by rw [← HL.out]; exact hown1.row) (Nat.le_refl _) (by simp only [maxLen]; omega)).mono ?_
   rintro e w1 ⟨rfl, rfl⟩
   go_wp2
   go_ret
   refine ⟨_, rfl, ?_, hk1⟩
   have HE := HE1.out
   subst HE
   have HF := HE2.out
   subst HF
   rw [← minus_done xs ys out cc HL.out hob ha hcc hl hle HV.out, ← trimL_eq hob]
   exact U32.trim hown1.row (by rw [HL.out]; exact Nat.le_refl _) (by simp only [maxLen]; omega) (by intro h; cases h)
def sgn (neg : Bool) (m : Nat) : Int := if neg then -(m : Int) else m
def IntRep (w : World) (V : Value) (z : Int) : Prop := ∃ v, V = .agg #[.bool (decide (z < 0)), v] ∧ U32 w v (dig z.natAbs)
theorem IntRep.below {w w' : World} {V : Value} {z : Int} (h : IntRep w V z) (hb : Below w.heap.size w w') : IntRep w' V z := by
 obtain ⟨v, rfl, hv⟩ := h
 exact ⟨v, rfl, hv.below hb⟩

theorem IntRep.zero (w : World) : IntRep w (.agg #[.bool false, .slice none 0 0]) 0 := ⟨.slice none 0 0, by simp, by simpa [dig_zero] using U32.nil⟩
theorem IntRep.mk {w : World} {v : Value} {neg : Bool} {m : Nat} (h : U32 w v (dig m)) (hm : m ≠ 0) : IntRep w (.agg #[.bool neg, v]) (sgn neg m) := by
 cases neg
 ·exact ⟨v, by simp [sgn], by simpa [sgn] using h⟩
 ·exact ⟨v, by simp [sgn]; omega, by simpa [sgn] using h⟩

set_option maxRecDepth 100000 in
set_option maxHeartbeats 400000 in
theorem made_any (neg : Bool) (A : Option Addr) (n c : Nat) (xs : List Nat) (w : World) (e : xs.length = n) (h : Row w A n (u32 xs)) (ha : AllB xs) (hc : n ≤ c) (hm : c ≤ maxLen) (h0 : A = none → c = 0) :
 Calls Tryz.prog 101 #[.bool neg, .slice A n c] w fun e w' => ∃ V, e = .returned V ∧ IntRep w' V (sgn neg (val xs)) ∧ Keeps w w' := by
 have HT := Lib.hid (trim_n A n c xs (w.alloc (.cells #[.bool false, .slice none 0 0] 33)) e (h.below (bl.alloc (Nat.le_refl _) _)) hc hm)
 have HL := Lib.hid (trimL_eq ha)
 go_enter Tryz.func101, Tryz.ntmps101
 go_wp2_with fail
 refine HT.out.mono ?_
 rintro e w1 ⟨rfl, rfl⟩
 go_wp2
 ·refine bodyPost_ret (v := .agg #[.bool false, .slice none 0 0]) (by simp [results, Tryz.results101, go_sem]) rfl ?_
  have h0 : val xs = 0 := by
   rw [← dig_length_zero, ← HL.out]
   have : (((trimL xs).length : Int) == 0) = true := by assumption
   simpa using this
  rw [h0]
  exact ⟨_, rfl, by simpa [sgn] using IntRep.zero _, bl.alloc (Nat.le_refl _) _⟩
 ·refine bodyPost_ret (v := .agg #[.bool neg, .slice A (trimL xs).length c]) (by simp [results, Tryz.results101, go_sem]) rfl ?_
  have h1 : val xs ≠ 0 := by
   have : (((trimL xs).length : Int) == 0) = false := by assumption
   rw [← Nat.pos_iff_ne_zero, Nat.pos_iff_ne_zero, ← dig_length_pos, ← HL.out]
   simp at this
   exact List.length_pos_iff.2 this
  exact ⟨_, rfl, IntRep.mk (by rw [← HL.out]; exact (U32.trim (by rw [e]; exact h) (by omega) hm h0).below (bl.alloc (Nat.le_refl _) _)) h1, bl.alloc (Nat.le_refl _) _⟩

set_option maxRecDepth 100000 in
set_option maxHeartbeats 400000 in
theorem split_any (m : Nat) (w : World) (hm : (m : Int) ≤ 18446744073709551615) :
 Calls Tryz.prog 110 #[.int .u64 (m : Nat)] w fun e w' => ∃ v, e = .returned v ∧ U32 w' v (dig m) ∧ Keeps w w' := by
 obtain ⟨i0, hi, hz0, hz1, hz2⟩ := info_parts info_u32
 have hd3 : (dig m).length ≤ 3 := dig_length_le (by omega)
 go_enter Tryz.func110, Tryz.ntmps110
 go_wp2
 go_loopw [0, 3] (fun x g wr => ∃ (k : Nat) (out : List Nat), k ≤ m ∧ x = .int .u64 (k : Nat) ∧ out ++ dig k = dig m ∧ wr.ownsRow w.heap.size 90 1 g out.length (u32s out) ∧ Keeps w wr)
  (fun x _ _ => (intOf x).toNat)
 case atStart => exact ⟨m, [], Nat.le_refl _, rfl, rfl, World.ownsRow_nil _ _ _ _, Below.refl _ _⟩
 case round =>
  obtain ⟨k, out, hk, rfl, hd, hown, hk1⟩ := hrel
  by_cases hpos : 0 < k
  ·have hol : out.length ≤ 2 := by
    have := congrArg List.length hd
    rw [List.length_append] at this
    have := dig_length_pos.2 (show k ≠ 0 by omega)
    omega
   rw [dig_pos (by omega)] at hd
   have HD := Lib.hid hd
   clear hd
   go_wp2_with (at_builtin; refine wpList_append_own _ rfl _ _ 31 rfl w.heap.size 90 i0 (.int .u32 0) 1 4 Tryz.underlying31 hi hz0 hz1 hz2 rfl (by decide) _ _ _ rfl (hown.alloc _) ⟨wr.heap.size, 0, none⟩ 1 1 [.int .u32 ((k : Int) % 1000000000)] rfl rfl (newcell _ _ _) (by simp [Value.oneCell']) (by simp only [maxLen]; omega) (by omega) (by have := hk1.size; simp; omega) ?_; intro v' w1 hown' hgrow _)
   rw [u32s_snoc out (k % 1000000000) (by omega)] at hown'
   have hk2 : Keeps w w1 := (hk1.alloc hk1.size _).grown hgrow (by have := hk1.size; simp; omega) (fun b e => (hown.lt b e).1)
   go_roundw
   case rel => exact ⟨k / 1000000000, out ++ [k % 1000000000], by omega, by go_num, by rw [List.append_assoc]; exact HD.out, by simpa using hown', hk2⟩
   case measure => simp [intOf]; omega
  ·obtain rfl : k = 0 := by omega
   rw [dig_zero, List.append_nil] at hd
   have HD := Lib.hid hd
   clear hd
   go_wp2
   go_ret
   exact ⟨_, rfl, by rw [← HD.out]; exact U32.of_own hown, hk1⟩

set_option maxRecDepth 100000 in
set_option maxHeartbeats 400000 in
theorem clone_any (A : Option Addr) (n c : Nat) (xs : List Nat) (w : World) (e : xs.length = n) (h : Row w A n (u32 xs)) (hc : n ≤ c) (hm : n ≤ 1000000) (h0 : A = none → c = 0) :
 Calls Tryz.prog 120 #[.slice A n c] w fun e w' => ∃ v, e = .returned v ∧ U32 w' v xs ∧ Keeps w w' := by
 obtain ⟨i0, hi, hz0, hz1, hz2⟩ := info_parts info_u32
 have HE := Lib.hid e
 clear e
 cases A with
 | none =>
  obtain rfl := h0 rfl
  obtain rfl : n = 0 := by omega
  have hx := Lib.run_eql_slice_nil (P := Tryz.prog) w 31 90 none 0 0 0 0 Tryz.underlying31
  go_enter Tryz.func120, Tryz.ntmps120
  go_wp2
  go_ret
  exact ⟨_, rfl, by rw [List.eq_nil_of_length_eq_zero HE.out]; exact U32.nil, Below.refl _ _⟩
 | some ad =>
  have hx := Lib.run_eql_slice_nil (P := Tryz.prog) w 31 90 (some ad) n c 0 0 Tryz.underlying31
  go_enter Tryz.func120, Tryz.ntmps120
  go_wp2_with (at_builtin; refine wpList_append_row rfl _ _ 31 rfl w.heap.size 90 i0 (.int .u32 0) 4 Tryz.underlying31 hi hz0 hz1 hz2 rfl _ 0 [] rfl (World.ownsRow_made w #[] 0 (Nat.le_refl _) (by simp [maxLen]) rfl) _ _ _ (u32 xs) rfl h0 hc (h.below (bl.alloc (Nat.le_refl _) _)) (fun j => rfl) (by simp only [maxLen]; omega) (by omega) (by simp) ?_; intro v' w1 hown' hgrow)
  go_ret
  refine ⟨_, rfl, ?_, (bl.alloc (Nat.le_refl _) _).grown hgrow (by simp) (fun b e => by cases e; exact Nat.le_refl _)⟩
  have he := HE.out
  subst he
  rw [List.nil_append, u32s_range] at hown'
  exact U32.of_own hown'

end Go.Proofs.YtecibfncnaccjaaGreat
