/- CodecEncodes: the walk. -/
import Derived.Test.YtomjnjpehokjbaaGreatDoorMgRefP
import Derived.Test.YtomjnjpehokjbaaGreatDoorKnoW
namespace Go.Proofs.YtomjnjpehokjbaaGreatDoor
open Go.RowKit Go.Shelf

/-- the bytes that Encode hands back -/
def outL (t : Tr) : List UInt8 := if chkC t = 0 then encT t else []
theorem chk0 {t : Tr} (h : chkC t = 0) : enD 8 t = encT t := by
  have hv : vldD 8 t = true := by
    unfold chkC at h
    cases hq : vldD 8 t with
    | true => rfl
    | false => rw [hq] at h; simp at h
  exact (vld_encsh t 8 hv).1
theorem szC_out (t : Tr) : szC t = (outL t).length := by
  unfold szC outL
  split
  · rename_i h; rw [chk0 h]
  · rfl
theorem SlK.anyB {ok : Nat → Prop} {w : World} {v : Value} {n : Nat} {f : Nat → Value} (h : SlK ok w v n f) : SlK anyB w v n f := h.map (fun _ _ _ => rfl) (fun _ _ _ => trivial)
/-- both Encodes alike -/
def EncOut (t : Tr) (w : World) (e : Ending) (w' : World) : Prop := ∃ V, e = .returned (.tuple #[V, .int .i64 (chkC t)]) ∧ SlK anyB w' V (outL t).length (b8 (outL t)) ∧ Keeps w w'
theorem encode_out {t : Tr} {cs : List Value} {w : World} (hv : ValC anyB 800000 w t cs) (ht : PowTab w) : Calls Tryz.prog 22 #[.agg cs.toArray] w (EncOut t w) :=
  (encode_any hv ht).mono fun e w' ⟨V, he, hk, h1, h2⟩ => by
    refine ⟨V, he, ?_, hk⟩
    unfold outL
    by_cases h0 : chkC t = 0
    · have := h1 h0
      rw [chk0 h0] at this
      rw [if_pos h0]
      exact (own8 this rfl).anyB
    · rw [if_neg h0, h2 h0]
      exact SlK.nil
theorem natAbs_cnt (n : Bool) (g : List Nat) : (cnt n g).natAbs = mag n g := by
  unfold cnt
  cases n <;> simp [sgn]
theorem encT_len : ∀ t : Tr, wtT t ≤ 100000 → (encT t).length ≤ 20 * wtT t := by
  intro t
  induction t using Tr.ind with
  | h k n g t l ih =>
    intro hw
    have hws := wtT_sub hw
    rw [encT_mk]
    rw [wtT_mk] at hw ⊢
    split
    · have h1 := textL_le9 (cnt n g)
      rw [natAbs_cnt] at h1
      have h2 := mag_length n g
      simp only [List.length_cons, List.length_append, List.length_nil]
      omega
    · split
      · have h1 := (decDigits_len t.length (by omega)).1
        simp only [List.length_cons, List.length_append]
        omega
      · have hl := sum_len (l := l)
        have h1 := (decDigits_len l.length (by omega)).1
        have h2 : ∀ (r : List Tr), (∀ x ∈ r, x ∈ l) → ((r.map encT).flatten).length ≤ 20 * (r.map wtT).sum := by
          intro r
          induction r with
          | nil => intro _; simp
          | cons x r ihr =>
            intro hr
            have h3 := ih x (hr x List.mem_cons_self) (hws x (hr x List.mem_cons_self))
            have h4 := ihr (fun y hy => hr y (List.mem_cons_of_mem _ hy))
            simp only [List.map_cons, List.flatten_cons, List.length_append, List.sum_cons]
            omega
        have h3 := h2 l (fun x hx => hx)
        simp only [List.length_cons, List.length_append]
        omega
end Go.Proofs.YtomjnjpehokjbaaGreatDoor
