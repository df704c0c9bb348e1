/- CodecBack: the walk. -/
import Derived.Test.YtomjnjpehokjbaaDoorLawEqu
namespace Go.Proofs.YtomjnjpehokjbaaDoor
open Go.RowKit Go.Shelf
/-- what is encoded is decoded to the same value -/
theorem outL_dec {t : Tr} (h : chkC t = 0) : decT (outL t) = some t ∧ (outL t).length ≤ 65536 := by
  have h1 : outL t = enD 8 t := by
    unfold outL
    rw [if_pos h, chk0 h]
  rw [h1]
  exact ⟨decT_iff.2 ⟨h, rfl⟩, (chkC_iff.1 h).2.2⟩
set_option maxRecDepth 100000 in
set_option maxHeartbeats 4000000 in
theorem codecBack_any {w : World} {t : Tr} {cs : List Value} {N : Nat} (hv : ValC anyB N w t cs) (hN : N ≤ maxLen) {Ab : Option Addr} {cb : Nat} {xs : List UInt8} (hb : Byt w Ab cb xs) (hl : xs.length ≤ 9223372036854775807) (he : EnvB w.heap.size w) :
    Calls Tryd.prog 3 #[.agg cs.toArray, .slice Ab xs.length cb] w fun e w' => e = .returned (.bool true) ∧ Keeps w w' := by
  obtain ⟨k, n, A, n1, c1, B, n2, c2, D, n3, c3, rfl⟩ := hv.form
  obtain ⟨W1, hW1⟩ : ∃ W1, w.alloc (.cells #[.int .i64 k, .bool n, .slice A n1 c1, .slice B n2 c2, .slice D n3 c3] 29) = W1 := ⟨_, rfl⟩
  have hk1 : Keeps w W1 := hW1 ▸ box2 w _
  have q1 : Own W1 w.heap.size 29 [.int .i64 k, .bool n, .slice A n1 c1, .slice B n2 c2, .slice D n3 c3] := hW1 ▸ Own.new w _ _
  have hlI : (xs.length : Int) ≤ 9223372036854775807 := by omega
  have HV := Lib.hid (hv.keep hk1)
  have HBY := Lib.hid (hb.keep hk1)
  have HEN := Lib.hid ((EnvB.keep he hk1).mono hk1.size)
  have HK := Lib.hid (known_any HEN.out)
  have HNN := Lib.hid hN
  have HQ := Lib.hid q1
  have x0 := q1.cell 0
  have x1 := q1.cell 1
  have x2 := q1.cell 2
  have x3 := q1.cell 3
  have x4 := q1.cell 4
  simp only [List.getElem?_cons_zero, List.getElem?_cons_succ] at x0 x1 x2 x3 x4
  clear q1 hv he hN hb
  go_enter Tryd.func3, Tryd.ntmps3
  go_wp2_with fail
  refine HK.out.mono ?_
  rintro e w2 ⟨rfl, hk2⟩
  have HFW := Lib.hid (few_any HNN.out (HV.out.keep hk2))
  have r2 := HQ.out.below hk2
  clear x0 x1 x2 x3 x4
  have x0 := r2.cell 0
  have x1 := r2.cell 1
  have x2 := r2.cell 2
  have x3 := r2.cell 3
  have x4 := r2.cell 4
  simp only [List.getElem?_cons_zero, List.getElem?_cons_succ] at x0 x1 x2 x3 x4
  clear r2
  go_wp2_with fail
  refine HFW.out.mono ?_
  rintro e w3 ⟨⟨b, rfl, hb⟩, hk3⟩
  have hk13 := hk2.trans' hk3
  cases b with
  | false =>
    clear hb
    go_wp2
    go_ret
    exact ⟨rfl, hk1.trans' hk13⟩
  | true =>
    have HW := Lib.hid (hb rfl)
    clear hb
    by_cases h1 : 600 < xs.length
    · have a1 : decide ((600 : Int) < (xs.length : Int)) = true := decide_eq_true (by omega)
      clear h1
      go_wp2
      go_ret
      exact ⟨rfl, hk1.trans' hk13⟩
    · have a1 : decide ((600 : Int) < (xs.length : Int)) = false := decide_eq_false (by omega)
      have HXL : Hid (xs.length ≤ 65536) := Lib.hid (by omega)
      clear h1
      have HV4 := Lib.hid (HV.out.shrink HW.out)
      have HE3 := Lib.hid (encode_out ((HV4.out.keep hk13).le (M := 800000) (by decide)) (HEN.out.keep (hk13.mono (Nat.le_refl _))).1.1)
      have r3 := HQ.out.below hk13
      clear x0 x1 x2 x3 x4
      have x0 := r3.cell 0
      have x1 := r3.cell 1
      have x2 := r3.cell 2
      have x3 := r3.cell 3
      have x4 := r3.cell 4
      simp only [List.getElem?_cons_zero, List.getElem?_cons_succ] at x0 x1 x2 x3 x4
      clear r3
      go_wp2_with fail
      refine HE3.out.mono ?_
      rintro e w4 ⟨V1, rfl, hs1, hk4⟩
      have hk14 := hk13.trans' hk4
      obtain ⟨C, hC⟩ : ∃ C, chkC t = C := ⟨_, rfl⟩
      rw [hC]
      clear x0 x1 x2 x3 x4
      by_cases h0 : C = 0
      · subst h0
        obtain ⟨hdc, hol⟩ := outL_dec hC
        obtain ⟨A1, p1, rfl, hr1⟩ := id hs1
        have HDO := Lib.hid (decode_yes hs1 ((HEN.out.keep (hk14.mono (Nat.le_refl _))).mono hk14.size) hol hdc)
        clear hC hdc hr1 hs1
        generalize hol1 : (outL t).length = m1 at *
        clear hol1 a1
        go_wp2_with fail
        refine HDO.out.mono ?_
        rintro e w5 ⟨k9, n9, A9, m9, c9, B9, l9, e9, D9, j9, f9, rfl, hv5, hk5⟩
        obtain ⟨w6, hW6⟩ : ∃ w6, w5.alloc (.cells #[.int .i64 k9, .bool n9, .slice A9 m9 c9, .slice B9 l9 e9, .slice D9 j9 f9] 29) = w6 := ⟨_, rfl⟩
        have hk6 : Keeps w5 w6 := hW6 ▸ box2 w5 _
        have p6 : Own w6 w5.heap.size 29 [.int .i64 k9, .bool n9, .slice A9 m9 c9, .slice B9 l9 e9, .slice D9 j9 f9] := hW6 ▸ Own.new w5 _ _
        have hk16 := hk14.trans' (hk5.trans' hk6)
        have HRQ := Lib.hid (requal_any (N := 70000) (by decide) t t _ _ _ ((HV4.out.keep hk16).le (M := 70000) (by decide)) (hv5.keep hk6))
        rw [eqB_refl] at HRQ
        have r6 := HQ.out.below hk16
        have x0 := r6.cell 0
        have x1 := r6.cell 1
        have x2 := r6.cell 2
        have x3 := r6.cell 3
        have x4 := r6.cell 4
        simp only [List.getElem?_cons_zero, List.getElem?_cons_succ] at x0 x1 x2 x3 x4
        have y0 := p6.cell 0
        have y1 := p6.cell 1
        have y2 := p6.cell 2
        have y3 := p6.cell 3
        have y4 := p6.cell 4
        simp only [List.getElem?_cons_zero, List.getElem?_cons_succ] at y0 y1 y2 y3 y4
        clear r6 p6 hv5
        go_wp2_with fail
        refine HRQ.out.mono ?_
        rintro e w7 ⟨rfl, hk7⟩
        have hk17 := hk16.trans' hk7
        clear x0 x1 x2 x3 x4 y0 y1 y2 y3 y4 hW6
        have HBT := Lib.hid (HBY.out.keep hk17)
        have HET := Lib.hid ((HEN.out.keep (hk17.mono (Nat.le_refl _))).mono hk17.size)
        cases hdt : decT xs with
        | none =>
          have HDN := Lib.hid (decode_none HBT.out HET.out HXL.out hdt)
          clear hdt
          go_wp2_with fail
          refine HDN.out.mono ?_
          rintro e v1 ⟨rfl, hkd⟩
          go_wp2
          go_ret
          exact ⟨rfl, (hk1.trans' (hk17.trans' hkd)).trans' (box2 v1 _)⟩
        | some u =>
          have HDY := Lib.hid (decode_yes HBT.out HET.out HXL.out hdt)
          have HCE := Lib.hid (decT_iff.1 hdt)
          clear hdt
          go_wp2_with fail
          refine HDY.out.mono ?_
          rintro e v1 ⟨k4, n4, A4, m4, c4, B4, l4, e4, D4, j4, f4, rfl, hv4, hkd⟩
          obtain ⟨v2, hW5⟩ : ∃ v2, v1.alloc (.cells #[.int .i64 k4, .bool n4, .slice A4 m4 c4, .slice B4 l4 e4, .slice D4 j4 f4] 29) = v2 := ⟨_, rfl⟩
          have hkb : Keeps v1 v2 := hW5 ▸ box2 v1 _
          have p5 : Own v2 v1.heap.size 29 [.int .i64 k4, .bool n4, .slice A4 m4 c4, .slice B4 l4 e4, .slice D4 j4 f4] := hW5 ▸ Own.new v1 _ _
          have hkd2 := hk17.trans' (hkd.trans' hkb)
          have hen := encode_ok ((hv4.keep hkb).le (M := 800000) (by decide)) (HEN.out.keep (hkd2.mono (Nat.le_refl _))).1.1 HCE.out.1
          rw [HCE.out.2] at hen
          have HE5 := Lib.hid hen
          clear hen hv4
          have y0 := p5.cell 0
          have y1 := p5.cell 1
          have y2 := p5.cell 2
          have y3 := p5.cell 3
          have y4 := p5.cell 4
          simp only [List.getElem?_cons_zero, List.getElem?_cons_succ] at y0 y1 y2 y3 y4
          clear p5
          go_wp2_with fail
          refine HE5.out.mono ?_
          rintro e v3 ⟨A6, c6, rfl, hb6, hk6⟩
          have hkd3 := hkd2.trans' hk6
          have HBB := Lib.hid (bEqual_any (c := cb) (d := c6) (SlK.row (HBY.out.keep hkd3)) (SlK.row hb6) rfl rfl)
          rw [decide_eq_true (rfl : xs = xs)] at HBB
          clear hb6 y0 y1 y2 y3 y4
          go_wp2_with fail
          refine HBB.out.mono ?_
          rintro e v4 ⟨rfl, rfl⟩
          go_wp2
          go_ret
          exact ⟨by first | done | rfl | simp, hk1.trans' hkd3⟩
      · have h3 : decide (C = 0) = false := decide_eq_false h0
        have h4 : (C == 0) = false := by simpa using h0
        clear hC hs1
        have HBT := Lib.hid (HBY.out.keep hk14)
        have HET := Lib.hid ((HEN.out.keep (hk14.mono (Nat.le_refl _))).mono hk14.size)
        cases hdt : decT xs with
        | none =>
          have HDN := Lib.hid (decode_none HBT.out HET.out HXL.out hdt)
          clear hdt
          go_wp2_with fail
          refine HDN.out.mono ?_
          rintro e v1 ⟨rfl, hkd⟩
          go_wp2
          go_ret
          exact ⟨rfl, (hk1.trans' (hk14.trans' hkd)).trans' (box2 v1 _)⟩
        | some u =>
          have HDY := Lib.hid (decode_yes HBT.out HET.out HXL.out hdt)
          have HCE := Lib.hid (decT_iff.1 hdt)
          clear hdt
          go_wp2_with fail
          refine HDY.out.mono ?_
          rintro e v1 ⟨k4, n4, A4, m4, c4, B4, l4, e4, D4, j4, f4, rfl, hv4, hkd⟩
          obtain ⟨v2, hW5⟩ : ∃ v2, v1.alloc (.cells #[.int .i64 k4, .bool n4, .slice A4 m4 c4, .slice B4 l4 e4, .slice D4 j4 f4] 29) = v2 := ⟨_, rfl⟩
          have hkb : Keeps v1 v2 := hW5 ▸ box2 v1 _
          have p5 : Own v2 v1.heap.size 29 [.int .i64 k4, .bool n4, .slice A4 m4 c4, .slice B4 l4 e4, .slice D4 j4 f4] := hW5 ▸ Own.new v1 _ _
          have hkd2 := hk14.trans' (hkd.trans' hkb)
          have hen := encode_ok ((hv4.keep hkb).le (M := 800000) (by decide)) (HEN.out.keep (hkd2.mono (Nat.le_refl _))).1.1 HCE.out.1
          rw [HCE.out.2] at hen
          have HE5 := Lib.hid hen
          clear hen hv4
          have y0 := p5.cell 0
          have y1 := p5.cell 1
          have y2 := p5.cell 2
          have y3 := p5.cell 3
          have y4 := p5.cell 4
          simp only [List.getElem?_cons_zero, List.getElem?_cons_succ] at y0 y1 y2 y3 y4
          clear p5
          go_wp2_with fail
          refine HE5.out.mono ?_
          rintro e v3 ⟨A6, c6, rfl, hb6, hk6⟩
          have hkd3 := hkd2.trans' hk6
          have HBB := Lib.hid (bEqual_any (c := cb) (d := c6) (SlK.row (HBY.out.keep hkd3)) (SlK.row hb6) rfl rfl)
          rw [decide_eq_true (rfl : xs = xs)] at HBB
          clear hb6 y0 y1 y2 y3 y4
          go_wp2_with fail
          refine HBB.out.mono ?_
          rintro e v4 ⟨rfl, rfl⟩
          go_wp2
          go_ret
          exact ⟨by first | done | rfl | simp, hk1.trans' hkd3⟩
end Go.Proofs.YtomjnjpehokjbaaDoor
