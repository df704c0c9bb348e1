/- CodecEquals: the walk. -/
import Derived.Test.YtomjnjpehokjbaaDoorLawEnc
import Derived.Test.YtomjnjpehokjbaaDoorMgREq
namespace Go.Proofs.YtomjnjpehokjbaaDoor
open Go.RowKit Go.Shelf
/-- valid values are equal exactly if their bytes are -/
theorem outL_iff {t u : Tr} (h : chkC t = 0) (h' : chkC u = 0) : outL t = outL u ↔ t = u := by
  unfold outL
  rw [if_pos h, if_pos h', ← chk0 h, ← chk0 h']
  constructor
  · intro e
    have a := (decT_iff (b := enD 8 t)).2 ⟨h, rfl⟩
    have b := (decT_iff (b := enD 8 u)).2 ⟨h', rfl⟩
    rw [e, b] at a
    exact (Option.some.inj a).symm
  · rintro rfl
    rfl
set_option maxRecDepth 100000 in
set_option maxHeartbeats 4000000 in
theorem codecEquals_any {w : World} {t u : Tr} {cs ds : List Value} {N M : Nat} (hv : ValC anyB N w t cs) (hN : N ≤ maxLen) (hu : ValC anyB M w u ds) (hM : M ≤ maxLen) (he : EnvB w.heap.size w) :
    Calls Tryd.prog 4 #[.agg cs.toArray, .agg ds.toArray] w fun e w' => e = .returned (.bool true) ∧ Keeps w w' := by
  obtain ⟨k, n, A, n1, c1, B, n2, c2, D, n3, c3, rfl⟩ := hv.form
  obtain ⟨k', n', A', n1', c1', B', n2', c2', D', n3', c3', rfl⟩ := hu.form
  obtain ⟨W2, hW2⟩ : ∃ W2, (w.alloc (.cells #[.int .i64 k, .bool n, .slice A n1 c1, .slice B n2 c2, .slice D n3 c3] 29)).alloc (.cells #[.int .i64 k', .bool n', .slice A' n1' c1', .slice B' n2' c2', .slice D' n3' c3'] 29) = W2 := ⟨_, rfl⟩
  have hk1 : Keeps w W2 := hW2 ▸ keep2 w _ _
  have q1 : Own W2 w.heap.size 29 [.int .i64 k, .bool n, .slice A n1 c1, .slice B n2 c2, .slice D n3 c3] := hW2 ▸ (Own.new w _ _).alloc _
  have q2 : Own W2 (w.heap.size + 1) 29 [.int .i64 k', .bool n', .slice A' n1' c1', .slice B' n2' c2', .slice D' n3' c3'] := hW2 ▸ own2 w _ _ _
  have HV := Lib.hid (hv.keep hk1)
  have HU := Lib.hid (hu.keep hk1)
  have HEN := Lib.hid (EnvB.keep he hk1)
  have HK := Lib.hid (known_any (HEN.out.mono hk1.size))
  have HNN := Lib.hid (And.intro hN hM)
  have HQ1 := Lib.hid q1
  have HQ2 := Lib.hid q2
  have x0 := q1.cell 0
  have x1 := q1.cell 1
  have x2 := q1.cell 2
  have x3 := q1.cell 3
  have x4 := q1.cell 4
  simp only [List.getElem?_cons_zero, List.getElem?_cons_succ] at x0 x1 x2 x3 x4
  have y0 := q2.cell 0
  have y1 := q2.cell 1
  have y2 := q2.cell 2
  have y3 := q2.cell 3
  have y4 := q2.cell 4
  simp only [List.getElem?_cons_zero, List.getElem?_cons_succ] at y0 y1 y2 y3 y4
  clear q1 q2 hv hu he hN hM
  go_enter Tryd.func4, Tryd.ntmps4
  go_wp2_with fail
  refine HK.out.mono ?_
  rintro e w2 ⟨rfl, hk2⟩
  have HFV := Lib.hid (few_any HNN.out.1 (HV.out.keep hk2))
  have r1 := HQ1.out.below hk2
  have r2 := HQ2.out.below hk2
  clear x0 x1 x2 x3 x4 y0 y1 y2 y3 y4
  have x0 := r1.cell 0
  have x1 := r1.cell 1
  have x2 := r1.cell 2
  have x3 := r1.cell 3
  have x4 := r1.cell 4
  simp only [List.getElem?_cons_zero, List.getElem?_cons_succ] at x0 x1 x2 x3 x4
  have y0 := r2.cell 0
  have y1 := r2.cell 1
  have y2 := r2.cell 2
  have y3 := r2.cell 3
  have y4 := r2.cell 4
  simp only [List.getElem?_cons_zero, List.getElem?_cons_succ] at y0 y1 y2 y3 y4
  clear r1 r2
  go_wp2_with fail
  refine HFV.out.mono ?_
  rintro e w3 ⟨⟨b, rfl, hb⟩, hk3⟩
  have hk13 := hk2.trans' hk3
  cases b with
  | false =>
    clear hb
    go_wp2
    go_ret
    exact ⟨rfl, hk1.trans' hk13⟩
  | true =>
    have HW := Lib.hid (hb rfl)
    clear hb
    have HFU := Lib.hid (few_any HNN.out.2 (HU.out.keep hk13))
    have r1 := HQ1.out.below hk13
    have r2 := HQ2.out.below hk13
    clear x0 x1 x2 x3 x4 y0 y1 y2 y3 y4
    have x0 := r1.cell 0
    have x1 := r1.cell 1
    have x2 := r1.cell 2
    have x3 := r1.cell 3
    have x4 := r1.cell 4
    simp only [List.getElem?_cons_zero, List.getElem?_cons_succ] at x0 x1 x2 x3 x4
    have y0 := r2.cell 0
    have y1 := r2.cell 1
    have y2 := r2.cell 2
    have y3 := r2.cell 3
    have y4 := r2.cell 4
    simp only [List.getElem?_cons_zero, List.getElem?_cons_succ] at y0 y1 y2 y3 y4
    clear r1 r2
    go_wp2_with fail
    refine HFU.out.mono ?_
    rintro e w4 ⟨⟨b, rfl, hb⟩, hk4⟩
    have hk14 := hk13.trans' hk4
    cases b with
    | false =>
      clear hb
      go_wp2
      go_ret
      exact ⟨rfl, hk1.trans' hk14⟩
    | true =>
      have HW' := Lib.hid (hb rfl)
      clear hb
      have HV4 := Lib.hid (HV.out.shrink HW.out)
      have HU4 := Lib.hid (HU.out.shrink HW'.out)
      have HE1 := Lib.hid (vequal_any (N := 400) (by decide) t u _ _ _ (HV4.out.keep hk14) (HU4.out.keep hk14))
      have r1 := HQ1.out.below hk14
      have r2 := HQ2.out.below hk14
      clear x0 x1 x2 x3 x4 y0 y1 y2 y3 y4
      have x0 := r1.cell 0
      have x1 := r1.cell 1
      have x2 := r1.cell 2
      have x3 := r1.cell 3
      have x4 := r1.cell 4
      simp only [List.getElem?_cons_zero, List.getElem?_cons_succ] at x0 x1 x2 x3 x4
      have y0 := r2.cell 0
      have y1 := r2.cell 1
      have y2 := r2.cell 2
      have y3 := r2.cell 3
      have y4 := r2.cell 4
      simp only [List.getElem?_cons_zero, List.getElem?_cons_succ] at y0 y1 y2 y3 y4
      clear r1 r2
      obtain ⟨s, hs⟩ : ∃ s, eqB t u = s := ⟨_, rfl⟩
      rw [hs] at HE1
      have HS := Lib.hid hs
      clear hs
      go_wp2_with fail
      refine HE1.out.mono ?_
      rintro e w5 ⟨rfl, hk5⟩
      have hk15 := hk14.trans' hk5
      have HE2 := Lib.hid (requal_any (N := 400) (by decide) t u _ _ _ (HV4.out.keep hk15) (HU4.out.keep hk15))
      rw [HS.out] at HE2
      have r1 := HQ1.out.below hk15
      have r2 := HQ2.out.below hk15
      clear x0 x1 x2 x3 x4 y0 y1 y2 y3 y4
      have x0 := r1.cell 0
      have x1 := r1.cell 1
      have x2 := r1.cell 2
      have x3 := r1.cell 3
      have x4 := r1.cell 4
      simp only [List.getElem?_cons_zero, List.getElem?_cons_succ] at x0 x1 x2 x3 x4
      have y0 := r2.cell 0
      have y1 := r2.cell 1
      have y2 := r2.cell 2
      have y3 := r2.cell 3
      have y4 := r2.cell 4
      simp only [List.getElem?_cons_zero, List.getElem?_cons_succ] at y0 y1 y2 y3 y4
      clear r1 r2
      go_wp2_with fail
      refine HE2.out.mono ?_
      rintro e w6 ⟨rfl, hk6⟩
      have hk16 := hk15.trans' hk6
      have HE3 := Lib.hid (vequal_any (N := 400) (by decide) t t _ _ _ (HV4.out.keep hk16) (HV4.out.keep hk16))
      rw [eqB_refl] at HE3
      have r1 := HQ1.out.below hk16
      have r2 := HQ2.out.below hk16
      clear x0 x1 x2 x3 x4 y0 y1 y2 y3 y4
      have x0 := r1.cell 0
      have x1 := r1.cell 1
      have x2 := r1.cell 2
      have x3 := r1.cell 3
      have x4 := r1.cell 4
      simp only [List.getElem?_cons_zero, List.getElem?_cons_succ] at x0 x1 x2 x3 x4
      have y0 := r2.cell 0
      have y1 := r2.cell 1
      have y2 := r2.cell 2
      have y3 := r2.cell 3
      have y4 := r2.cell 4
      simp only [List.getElem?_cons_zero, List.getElem?_cons_succ] at y0 y1 y2 y3 y4
      clear r1 r2
      go_wp2_with fail
      refine HE3.out.mono ?_
      rintro e w7 ⟨rfl, hk7⟩
      have hk17 := hk16.trans' hk7
      have HC1 := Lib.hid (encode_out ((HV4.out.keep hk17).le (M := 800000) (by decide)) (HEN.out.keep (hk17.mono hk1.size)).1.1)
      have r1 := HQ1.out.below hk17
      have r2 := HQ2.out.below hk17
      clear x0 x1 x2 x3 x4 y0 y1 y2 y3 y4
      have x0 := r1.cell 0
      have x1 := r1.cell 1
      have x2 := r1.cell 2
      have x3 := r1.cell 3
      have x4 := r1.cell 4
      simp only [List.getElem?_cons_zero, List.getElem?_cons_succ] at x0 x1 x2 x3 x4
      have y0 := r2.cell 0
      have y1 := r2.cell 1
      have y2 := r2.cell 2
      have y3 := r2.cell 3
      have y4 := r2.cell 4
      simp only [List.getElem?_cons_zero, List.getElem?_cons_succ] at y0 y1 y2 y3 y4
      clear r1 r2
      go_wp2_with fail
      refine HC1.out.mono ?_
      rintro e w8 ⟨V1, rfl, hs1, hk8⟩
      have hk18 := hk17.trans' hk8
      have HC2 := Lib.hid (encode_out ((HU4.out.keep hk18).le (M := 800000) (by decide)) (HEN.out.keep (hk18.mono hk1.size)).1.1)
      have r1 := HQ1.out.below hk18
      have r2 := HQ2.out.below hk18
      clear x0 x1 x2 x3 x4 y0 y1 y2 y3 y4
      have x0 := r1.cell 0
      have x1 := r1.cell 1
      have x2 := r1.cell 2
      have x3 := r1.cell 3
      have x4 := r1.cell 4
      simp only [List.getElem?_cons_zero, List.getElem?_cons_succ] at x0 x1 x2 x3 x4
      have y0 := r2.cell 0
      have y1 := r2.cell 1
      have y2 := r2.cell 2
      have y3 := r2.cell 3
      have y4 := r2.cell 4
      simp only [List.getElem?_cons_zero, List.getElem?_cons_succ] at y0 y1 y2 y3 y4
      clear r1 r2
      obtain ⟨A1, p1, rfl, -, -, -, hr1, -⟩ := hs1
      have HR1 := Lib.hid hr1
      clear hr1
      go_wp2_with fail
      refine HC2.out.mono ?_
      rintro e w9 ⟨V2, rfl, hs2, hk9⟩
      have hk19 := hk18.trans' hk9
      obtain ⟨A2, p2, rfl, -, -, -, hr2, -⟩ := hs2
      have HB := Lib.hid (bEqual_any (c := p1) (d := p2) (HR1.out.below hk9) hr2 rfl rfl)
      have HI := Lib.hid (outL_iff (t := t) (u := u))
      clear x0 x1 x2 x3 x4 y0 y1 y2 y3 y4 hr2
      generalize (outL t).length = m1 at *
      generalize (outL u).length = m2 at *
      obtain ⟨C, hC⟩ : ∃ C, chkC t = C := ⟨_, rfl⟩
      obtain ⟨C', hC'⟩ : ∃ C', chkC u = C' := ⟨_, rfl⟩
      rw [hC, hC'] at HI
      rw [hC, hC']
      clear hC hC'
      by_cases h1 : C = 0
      · subst h1
        by_cases h2 : C' = 0
        · subst h2
          have hd : decide (outL t = outL u) = s := by
            rw [← HS.out]
            apply bool_ext
            rw [decide_eq_true_eq, HI.out rfl rfl, eqB_iff]
          rw [hd] at HB
          clear hd
          go_wp2_with fail
          refine HB.out.mono ?_
          rintro e w10 ⟨rfl, rfl⟩
          go_wp2
          go_ret
          exact ⟨by first | done | rfl | simp, hk1.trans' hk19⟩
        · have h3 : decide (C' = 0) = false := decide_eq_false h2
          go_wp2
          go_ret
          exact ⟨by first | done | rfl | simp, hk1.trans' hk19⟩
      · have h3 : decide (C = 0) = false := decide_eq_false h1
        go_wp2
        go_ret
        exact ⟨by first | done | rfl | simp, hk1.trans' hk19⟩
end Go.Proofs.YtomjnjpehokjbaaDoor
