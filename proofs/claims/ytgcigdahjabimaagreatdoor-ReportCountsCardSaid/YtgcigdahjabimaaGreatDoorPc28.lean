/- More for straight walks: a box made anywhere in a region; pairs of a fraction and a code. No program in sight. More for straight walks printed by walk.py: the world named; pairs with an integer; the magnitude. No program in sight. A law for a region that draws its order, with one late operation: it reads no memory and nobody waits for it. No program in sight. The simplest fraction of an interval: its definition by fuel, and that no other one of the interval is simpler. No program in sight. The simplest fraction of any interval. No program in sight. The walk of fraction.simplest. The walk of fraction.Simplest. The number of decimal digits; powers. No program in sight. The walks of digits and of the reference's Digits. The walk of Power. The walks of fraction.nearest, tens. Square roots: what Newton's step and halving make of them. No program in sight. -/
import Derived.Test.YtgcigdahjabimaaGreatDoorPc26
import Derived.Test.YtgcigdahjabimaaGreatDoorPc13
import Derived.Test.YtgcigdahjabimaaGreatDoorPc12
import Derived.Test.YtgcigdahjabimaaGreatDoorPc27
import Derived.Test.YtgcigdahjabimaaGreatDoorPc24
import Derived.Test.YtgcigdahjabimaaGreatDoorPc8
import Derived.Test.YtgcigdahjabimaaGreatDoorPc5
namespace Go.Proofs.YtgcigdahjabimaaGreatDoor
open Go.RowKit

theorem St.box {w0 W w' : World} {bs : List Bx} {ps : List (World → Prop)} (S : St w0 W bs ps) (S' : St w0 w' bs ps) {b : Nat} {t : TypeId} {vs : List Value} (hO : Own w' b t vs) (hb : W.heap.size ≤ b) : St w0 w' ((b, t, vs) :: bs) ps := by
 refine ⟨S'.k, ⟨hO, S'.b⟩, ?_, ?_, S'.p⟩
 ·intro p hp
  rcases List.mem_cons.1 hp with rfl | hp
  ·exact Nat.le_trans S.k.size hb
  ·exact S'.lo p hp
 ·rw [List.pairwise_cons]
  exact ⟨fun q hq e => by have := (S.b.mem hq).lt; simp only at e; omega, S'.d⟩
def FstQ (c : Int) (q : Rat) (v : Value) (w : World) : Prop := if c = 0 then RatRep w v q else v = zeroRat
def TupQ (c : Int) (q : Rat) (v : Value) (w : World) : Prop := ∃ Q, v = .tuple #[Q, .int .i64 c] ∧ FstQ c q Q w
theorem FstQ.below {c : Int} {q : Rat} {v : Value} {w w' : World} (h : FstQ c q v w) (hk : Keeps w w') : FstQ c q v w' := by
 unfold FstQ at h ⊢
 split
 ·rw [if_pos (by assumption)] at h; exact h.below hk
 ·rw [if_neg (by assumption)] at h; exact h
theorem TupQ.below {c : Int} {q : Rat} {v : Value} {w w' : World} (h : TupQ c q v w) (hk : Keeps w w') : TupQ c q v w' := by
 obtain ⟨Q, e, hq⟩ := h
 exact ⟨Q, e, hq.below hk⟩
theorem rcode_eq {P : Program} {F : FuncId} {args : Array Value} {w : World} {c c' : Int} {q q' : Rat} (h : Calls P F args w (RCode c q w)) (e : c = c') (e2 : q = q') : Calls P F args w (RCode c' q' w) := by subst e e2; exact h
theorem St.pack {w0 w : World} {bs : List Bx} {ps : List (World → Prop)} (S : St w0 w bs ps) : ∃ W, w = W ∧ St w0 W bs ps := ⟨w, rfl, S⟩
theorem FstQ.rep {q : Rat} {v : Value} {w : World} (h : FstQ 0 q v w) : RatRep w v q := by unfold FstQ at h; rwa [if_pos rfl] at h
theorem FstQ.zero {c : Int} {q : Rat} {v : Value} {w : World} (h : FstQ c q v w) (hc : c ≠ 0) : v = zeroRat := by unfold FstQ at h; rwa [if_neg hc] at h
def TupI (z : Int) (v : Value) (w : World) : Prop := ∃ Q, v = .tuple #[Q, .int .i64 0] ∧ IntRep w Q z
def TupD (q r : Int) (v : Value) (w : World) : Prop := ∃ Q R, v = .tuple #[Q, R, .int .i64 0] ∧ IntRep w Q q ∧ IntRep w R r
theorem TupI.below {z : Int} {v : Value} {w w' : World} (h : TupI z v w) (hk : Keeps w w') : TupI z v w' := by
 obtain ⟨Q, e, hq⟩ := h
 exact ⟨Q, e, hq.below hk⟩
theorem TupD.below {q r : Int} {v : Value} {w w' : World} (h : TupD q r v w) (hk : Keeps w w') : TupD q r v w' := by
 obtain ⟨Q, R, e, hq, hr⟩ := h
 exact ⟨Q, R, e, hq.below hk, hr.below hk⟩
theorem isgn_pos (z : Int) : 0 < z.sign ↔ 0 < z := by
 rcases Int.lt_trichotomy z 0 with h | h | h
 ·rw [Int.sign_eq_neg_one_of_neg h]; omega
 ·subst h; simp
 ·rw [Int.sign_eq_one_of_pos h]; omega
theorem isgn_neg (z : Int) : z.sign < 0 ↔ z < 0 := by
 rcases Int.lt_trichotomy z 0 with h | h | h
 ·rw [Int.sign_eq_neg_one_of_neg h]; omega
 ·subst h; simp
 ·rw [Int.sign_eq_one_of_pos h]; omega
theorem rsgn_pos (x : Rat) : 0 < x.num.sign ↔ 0 < x := by
 rw [isgn_pos, Rat.lt_iff]
 simp
theorem rsgn_neg (x : Rat) : x.num.sign < 0 ↔ x < 0 := by
 rw [isgn_neg, Rat.lt_iff]
 simp
structure LateOk (ops : Array Oper) (m d e : Nat) : Prop where
 apart : ∀ j k, j < m → k < m → ∀ d, dstOf ops j = some d → dstOf ops k = some d → j = k
 reads : ∀ i j, i < m → j < m → ∀ o d, ops[i]? = some o → dstOf ops j = some d → d ∈ o.looksAt ops → j ∈ bindsOf ops i
 noSel : ∀ i, i < ops.size → ∃ o, ops[i]? = some o ∧ isSel o = false
 back : ∀ i j, j ∈ bindsOf ops i → j < i
 dm : d < m
 ms : m ≤ ops.size
 me : m ≤ e
 es : e ≤ ops.size
 tail : ∀ k, k < ops.size → m ≤ k → ∀ j, j < k → j ≠ d → j ∈ reachOf ops 5 k
 free : ∀ i, i < e → d ∉ bindsOf ops i
 still : ∀ k, m ≤ k → k < e → dstOf ops k = none
 wait : ∀ k, e ≤ k → k < ops.size → d ∈ reachOf ops 5 k
 blind : ∀ k o t, m ≤ k → k < e → ops[k]? = some o → dstOf ops d = some t → t ∉ o.looksAt ops

section
variable {P : Program} {ops : Array Oper} {Q : Exit → Act → World → Prop} {vs : Nat → Value} {a : Act}
structure Late (P : Program) (ops : Array Oper) (Φ : Nat → Value → World → Prop) (m d : Nat) (vs : Nat → Value) (a : Act) (w : World) : Prop where
 go : ∃ v, Φ d v w ∧ ∀ w' (K : Act → World → Prop), K ((fr ops vs a (depsOf ops m d)).put (dstOf ops d) v) w' → wpOp P ops (fun _ _ _ => False) d K (fr ops vs a (depsOf ops m d)) w'
end
end Go.Proofs.YtgcigdahjabimaaGreatDoor
namespace Go.Proofs.YtgcigdahjabimaaGreatDoor
open Go.RowKit Go.Shelf

end Go.Proofs.YtgcigdahjabimaaGreatDoor
namespace Go.Proofs.YtgcigdahjabimaaGreatDoor
open Go

end Go.Proofs.YtgcigdahjabimaaGreatDoor
namespace Go.Proofs.YtgcigdahjabimaaGreatDoor
open Go.RowKit Go.Shelf

end Go.Proofs.YtgcigdahjabimaaGreatDoor
namespace Go.Proofs.YtgcigdahjabimaaGreatDoor

def IsRoot (z : Int) (s : Nat) : Prop := if z < 0 then s = 0 else (s : Int) * s ≤ z ∧ z < ((s : Int) + 1) * (s + 1)
theorem IsRoot.zero : IsRoot 0 0 := by unfold IsRoot; rw [if_neg (by omega)]; omega
theorem IsRoot.neg {z : Int} (h : z < 0) : IsRoot z 0 := by unfold IsRoot; rw [if_pos h]
end Go.Proofs.YtgcigdahjabimaaGreatDoor
