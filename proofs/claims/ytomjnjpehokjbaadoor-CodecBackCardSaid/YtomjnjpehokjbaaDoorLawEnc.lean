/- CodecEncodes: the walk. -/
import Derived.Test.YtomjnjpehokjbaaDoorMgRefP
import Derived.Test.YtomjnjpehokjbaaDoorKnoW
namespace Go.Proofs.YtomjnjpehokjbaaDoor
open Go.RowKit Go.Shelf

/-- the bytes that Encode hands back -/
def outL (t : Tr) : List UInt8 := if chkC t = 0 then encT t else []
theorem chk0 {t : Tr} (h : chkC t = 0) : enD 8 t = encT t := by
  have hv : vldD 8 t = true := by
    unfold chkC at h
    cases hq : vldD 8 t with
    | true => rfl
    | false => rw [hq] at h; simp at h
  exact (vld_encsh t 8 hv).1
theorem szC_out (t : Tr) : szC t = (outL t).length := by
  unfold szC outL
  split
  · rename_i h; rw [chk0 h]
  · rfl
theorem SlK.anyB {ok : Nat → Prop} {w : World} {v : Value} {n : Nat} {f : Nat → Value} (h : SlK ok w v n f) : SlK anyB w v n f := h.map (fun _ _ _ => rfl) (fun _ _ _ => trivial)
/-- both Encodes alike -/
def EncOut (t : Tr) (w : World) (e : Ending) (w' : World) : Prop := ∃ V, e = .returned (.tuple #[V, .int .i64 (chkC t)]) ∧ SlK anyB w' V (outL t).length (b8 (outL t)) ∧ Keeps w w'
theorem encode_out {t : Tr} {cs : List Value} {w : World} (hv : ValC anyB 800000 w t cs) (ht : PowTab w) : Calls Tryd.prog 9 #[.agg cs.toArray] w (EncOut t w) :=
  (encode_any hv ht).mono fun e w' ⟨V, he, hk, h1, h2⟩ => by
    refine ⟨V, he, ?_, hk⟩
    unfold outL
    by_cases h0 : chkC t = 0
    · have := h1 h0
      rw [chk0 h0] at this
      rw [if_pos h0]
      exact (own8 this rfl).anyB
    · rw [if_neg h0, h2 h0]
      exact SlK.nil
theorem rencode_out {N : Nat} (hN : N ≤ 800000) {t : Tr} {cs : List Value} {w : World} (hv : ValC anyB N w t cs) (hd : depT t ≤ 1000) (hb : (encT t).length ≤ 100000000) : Calls Tryd.prog 20 #[.agg cs.toArray] w (EncOut t w) :=
  (rencode_any hN hv hd hb).mono fun e w' ⟨V, he, hk, h⟩ => by
    refine ⟨V, he, ?_, hk⟩
    unfold outL
    rcases h with ⟨h0, h1⟩ | ⟨h0, rfl⟩
    · rw [if_pos h0]
      exact h1.anyB
    · rw [if_neg h0]
      exact SlK.nil
theorem natAbs_cnt (n : Bool) (g : List Nat) : (cnt n g).natAbs = mag n g := by
  unfold cnt
  cases n <;> simp [sgn]
theorem encT_len : ∀ t : Tr, wtT t ≤ 100000 → (encT t).length ≤ 20 * wtT t := by
  intro t
  induction t using Tr.ind with
  | h k n g t l ih =>
    intro hw
    have hws := wtT_sub hw
    rw [encT_mk]
    rw [wtT_mk] at hw ⊢
    split
    · have h1 := textL_le9 (cnt n g)
      rw [natAbs_cnt] at h1
      have h2 := mag_length n g
      simp only [List.length_cons, List.length_append, List.length_nil]
      omega
    · split
      · have h1 := (decDigits_len t.length (by omega)).1
        simp only [List.length_cons, List.length_append]
        omega
      · have hl := sum_len (l := l)
        have h1 := (decDigits_len l.length (by omega)).1
        have h2 : ∀ (r : List Tr), (∀ x ∈ r, x ∈ l) → ((r.map encT).flatten).length ≤ 20 * (r.map wtT).sum := by
          intro r
          induction r with
          | nil => intro _; simp
          | cons x r ihr =>
            intro hr
            have h3 := ih x (hr x List.mem_cons_self) (hws x (hr x List.mem_cons_self))
            have h4 := ihr (fun y hy => hr y (List.mem_cons_of_mem _ hy))
            simp only [List.map_cons, List.flatten_cons, List.length_append, List.sum_cons]
            omega
        have h3 := h2 l (fun x hx => hx)
        simp only [List.length_cons, List.length_append]
        omega
set_option maxRecDepth 100000 in
set_option maxHeartbeats 4000000 in
theorem codecEncodes_any {w : World} {t : Tr} {cs : List Value} {N : Nat} (hv : ValC anyB N w t cs) (hN : N ≤ maxLen) (he : EnvB w.heap.size w) :
    Calls Tryd.prog 6 #[.agg cs.toArray] w fun e w' => e = .returned (.bool true) ∧ Keeps w w' := by
  obtain ⟨k, n, A, n1, c1, B, n2, c2, D, n3, c3, rfl⟩ := hv.form
  obtain ⟨W1, hW1⟩ : ∃ W1, w.alloc (.cells #[.int .i64 k, .bool n, .slice A n1 c1, .slice B n2 c2, .slice D n3 c3] 29) = W1 := ⟨_, rfl⟩
  have hk1 : Keeps w W1 := hW1 ▸ box2 w _
  have q1 : Own W1 w.heap.size 29 [.int .i64 k, .bool n, .slice A n1 c1, .slice B n2 c2, .slice D n3 c3] := hW1 ▸ Own.new w _ _
  have HV := Lib.hid (hv.keep hk1)
  have HEN := Lib.hid (EnvB.keep he hk1)
  have HK := Lib.hid (known_any (HEN.out.mono hk1.size))
  have HNN := Lib.hid hN
  have HQ := Lib.hid q1
  have x0 := q1.cell 0
  have x1 := q1.cell 1
  have x2 := q1.cell 2
  have x3 := q1.cell 3
  have x4 := q1.cell 4
  simp only [List.getElem?_cons_zero, List.getElem?_cons_succ] at x0 x1 x2 x3 x4
  clear q1 hv he hN
  go_enter Tryd.func6, Tryd.ntmps6
  go_wp2_with fail
  refine HK.out.mono ?_
  rintro e w2 ⟨rfl, hk2⟩
  have HFW := Lib.hid (few_any HNN.out (HV.out.keep hk2))
  have r2 := HQ.out.below hk2
  clear x0 x1 x2 x3 x4
  have x0 := r2.cell 0
  have x1 := r2.cell 1
  have x2 := r2.cell 2
  have x3 := r2.cell 3
  have x4 := r2.cell 4
  simp only [List.getElem?_cons_zero, List.getElem?_cons_succ] at x0 x1 x2 x3 x4
  clear r2
  go_wp2_with fail
  refine HFW.out.mono ?_
  rintro e w3 ⟨⟨b, rfl, hb⟩, hk3⟩
  have hk13 := hk2.trans' hk3
  cases b with
  | false =>
    clear hb
    go_wp2
    go_ret
    exact ⟨rfl, hk1.trans' hk13⟩
  | true =>
    have hw := hb rfl
    have HW := Lib.hid hw
    have HV4 := Lib.hid (HV.out.shrink hw)
    have HDP : Hid (depT t ≤ 1000) := Lib.hid (Nat.le_trans (depT_wt t) (by omega))
    have HEL : Hid ((encT t).length ≤ 100000000) := Lib.hid (by have := encT_len t (by omega); omega)
    have hlo : (outL t).length ≤ 100000000 := by
      unfold outL
      split
      · exact HEL.out
      · simp
    clear hb hw
    have HE3 := Lib.hid (encode_out ((HV4.out.keep hk13).le (M := 800000) (by decide)) (HEN.out.keep (hk13.mono hk1.size)).1.1)
    have r3 := HQ.out.below hk13
    clear x0 x1 x2 x3 x4
    have x0 := r3.cell 0
    have x1 := r3.cell 1
    have x2 := r3.cell 2
    have x3 := r3.cell 3
    have x4 := r3.cell 4
    simp only [List.getElem?_cons_zero, List.getElem?_cons_succ] at x0 x1 x2 x3 x4
    clear r3
    have HSZ := Lib.hid (szC_out t)
    go_wp2_with fail
    refine HE3.out.mono ?_
    rintro e w4 ⟨V1, rfl, hs1, hk4⟩
    have hk14 := hk13.trans' hk4
    have HR := Lib.hid (rencode_out (N := 400) (by decide) (HV4.out.keep hk14) HDP.out HEL.out)
    have r4 := HQ.out.below hk14
    clear x0 x1 x2 x3 x4
    have x0 := r4.cell 0
    have x1 := r4.cell 1
    have x2 := r4.cell 2
    have x3 := r4.cell 3
    have x4 := r4.cell 4
    simp only [List.getElem?_cons_zero, List.getElem?_cons_succ] at x0 x1 x2 x3 x4
    clear r4
    go_wp2_with fail
    refine HR.out.mono ?_
    rintro e w5 ⟨V2, rfl, hs2, hk5⟩
    have hk15 := hk14.trans' hk5
    have HZ := Lib.hid (size_any ((HV4.out.keep hk15).le (M := 800000) (by decide)) (HEN.out.keep (hk15.mono hk1.size)).1.1)
    rw [HSZ.out] at HZ
    have r5 := HQ.out.below hk15
    clear x0 x1 x2 x3 x4
    have x0 := r5.cell 0
    have x1 := r5.cell 1
    have x2 := r5.cell 2
    have x3 := r5.cell 3
    have x4 := r5.cell 4
    simp only [List.getElem?_cons_zero, List.getElem?_cons_succ] at x0 x1 x2 x3 x4
    clear r5
    obtain ⟨A1, p1, rfl, -, -, -, hr1, -⟩ := hs1
    obtain ⟨A2, p2, rfl, -, -, -, hr2, -⟩ := hs2
    have HR1 := Lib.hid (hr1.below hk5)
    have HR2 := Lib.hid hr2
    clear hr1 hr2
    go_wp2_with fail
    refine HZ.out.mono ?_
    rintro e w6 ⟨rfl, hk6⟩
    have hk16 := hk15.trans' hk6
    have HB := Lib.hid (bEqual_any (c := p1) (d := p2) (HR1.out.below hk6) (HR2.out.below hk6) rfl rfl)
    rw [decide_eq_true rfl] at HB
    have HC := Lib.hid (check_any ((HV4.out.keep hk16).le (M := 800000) (by decide)) (HEN.out.keep (hk16.mono hk1.size)).1.1)
    have r6 := HQ.out.below hk16
    clear x0 x1 x2 x3 x4
    have x0 := r6.cell 0
    have x1 := r6.cell 1
    have x2 := r6.cell 2
    have x3 := r6.cell 3
    have x4 := r6.cell 4
    simp only [List.getElem?_cons_zero, List.getElem?_cons_succ] at x0 x1 x2 x3 x4
    clear r6
    generalize chkC t = c at *
    generalize (outL t).length = m at *
    have hmI : (m : Int) ≤ 100000000 := by omega
    go_wp2_with fail
    refine HB.out.mono ?_
    rintro e w7 ⟨rfl, rfl⟩
    go_wp2_with fail
    refine HC.out.mono ?_
    rintro e w8 ⟨rfl, hk8⟩
    go_wp2
    go_ret
    exact ⟨by first | done | rfl | simp, (hk1.trans' hk16).trans' hk8⟩
end Go.Proofs.YtomjnjpehokjbaaDoor
