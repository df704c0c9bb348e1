/- CodecRats: the walk. -/
import Derived.Test.YtomjnjpehokjbaaGreatDoorMgRPower
import Derived.Test.YtomjnjpehokjbaaGreatDoorRToR
import Derived.Test.YtomjnjpehokjbaaGreatDoorGOps2
import Derived.Test.YtomjnjpehokjbaaGreatDoorMgREq
import Derived.Test.YtomjnjpehokjbaaGreatDoorMgRefP
import Derived.Test.YtomjnjpehokjbaaGreatDoorKnoW
import Derived.Test.YtomjnjpehokjbaaGreatDoorMgRegion
namespace Go.Proofs.YtomjnjpehokjbaaGreatDoor
open Go.RowKit Go.Shelf
theorem ratT_ok (q : Rat) : toRC (ratT q) = 0 ∧ toRQ (ratT q) = q := by
  refine ⟨toRC_yes ?_, rcnt_rep q⟩
  have h1 : vldD 8 (ratT q) = true := by
    have e1 := validB_rep q.num
    have e2 := validB_rep (q.den : Int)
    simp only [ratT, vldD, lstT, noInt, intT, List.all_cons, List.all_nil, e1, e2]
    rfl
  have h2 : okR (ratT q) = true := by
    have e := rvalidB_rep q
    show ((2 : Int) == 2 && ((0 : Int) == 0) && ((0 : Int) == 0) && rvalidB (decide (q.num < 0)) (dig q.num.natAbs) (decide ((q.den : Int) < 0)) (dig (q.den : Int).natAbs)) = true
    rw [e]
    rfl
  rw [h1, h2]
  rfl
set_option maxRecDepth 100000 in
set_option maxHeartbeats 1000000 in
theorem gsameRat_any {w : World} {V1 V2 : Value} {x : Rat} (g1 : RatRep w V1 x) (g2 : RatRep w V2 x) (hl : szR x + szR x ≤ 99999) : Calls Tryz.prog 20 #[V1, V2] w fun e w' => e = .returned (.bool true) ∧ Keeps w w' := by
  obtain ⟨b, A, n, c, d, B, m, e, rfl⟩ := g1.open_
  obtain ⟨b', A', n', c', d', B', m', e', rfl⟩ := g2.open_
  obtain ⟨W1, hW1⟩ : ∃ W1, (w.alloc (.cells #[.bool b, .slice A n c, .bool d, .slice B m e] 44)).alloc (.cells #[.bool b', .slice A' n' c', .bool d', .slice B' m' e'] 44) = W1 := ⟨_, rfl⟩
  have hk1 : Keeps w W1 := hW1 ▸ keep2 w _ _
  have p1 : Own W1 w.heap.size 44 [.bool b, .slice A n c, .bool d, .slice B m e] := hW1 ▸ (Own.new w _ _).alloc _
  have q1 : Own W1 (w.heap.size + 1) 44 [.bool b', .slice A' n' c', .bool d', .slice B' m' e'] := hW1 ▸ own2 w _ _ _
  have HS := Lib.hid (gsame_s (g1.below hk1) (g2.below hk1) hl (decide_eq_true rfl))
  have x0 := p1.cell 0
  have x1 := p1.cell 1
  have x2 := p1.cell 2
  have x3 := p1.cell 3
  simp only [List.getElem?_cons_zero, List.getElem?_cons_succ] at x0 x1 x2 x3
  have y0 := q1.cell 0
  have y1 := q1.cell 1
  have y2 := q1.cell 2
  have y3 := q1.cell 3
  simp only [List.getElem?_cons_zero, List.getElem?_cons_succ] at y0 y1 y2 y3
  clear g1 g2
  go_enter Tryz.func20, Tryz.ntmps20
  go_wp2_with fail
  refine HS.out.mono ?_
  rintro e w2 ⟨rfl, hk2⟩
  go_wp2
  go_ret
  exact ⟨rfl, hk1.trans' hk2⟩
theorem toRC_01 (t : Tr) : toRC t = 0 ∨ toRC t = 1 := by unfold toRC; split <;> simp
theorem toRQ_sz {t : Tr} (h : wtT t ≤ 400) : szR (toRQ t) ≤ 400 := by
  obtain ⟨k, n, g, x, l⟩ := t
  rw [wtT_mk] at h
  unfold toRQ Tr.ls
  split
  · rename_i a b e
    simp only at e
    subst e
    obtain ⟨k1, n1, g1, x1, l1⟩ := a
    obtain ⟨k2, n2, g2, x2, l2⟩ := b
    simp only [List.map_cons, List.map_nil, List.sum_cons, List.sum_nil, wtT_mk] at h
    refine Nat.le_trans szR_rcnt ?_
    simp only [Tr.gs]
    omega
  · simp [szR, lenI, dig_zero]
    exact Nat.le_trans (dig_length_le (k := 1) (by decide)) (by decide)
def ra9aΦ (Vw Vx Vb Va Vr : Value) (q : Rat) : Nat → Value → World → Prop
  | 0, v, _ => v = Vw
  | 1, v, _ => v = Vx
  | 2, v, w => ∃ cs : List Value, v = .agg cs.toArray ∧ ValC anyB 70000 w (ratT q) cs
  | 3, v, _ => v = .bool true
  | 4, v, _ => v = .bool true
  | 5, v, _ => v = .int .i64 0
  | 6, v, _ => v = .bool true
  | 7, v, _ => v = .bool true
  | 8, v, _ => v = .bool true
  | 9, v, _ => v = Vb
  | 10, v, _ => v = Vx
  | 11, v, w => RatRep w v q
  | 12, v, _ => v = .bool true
  | 13, v, _ => v = .bool true
  | 14, v, _ => v = .bool true
  | 15, v, _ => v = .int .i64 0
  | 16, v, _ => v = .int .i64 0
  | 17, v, _ => v = .bool true
  | 18, v, _ => v = .bool true
  | 19, v, _ => v = .bool true
  | 20, v, _ => v = .int .i64 0
  | 21, v, _ => v = .bool false
  | 22, v, _ => v = .bool false
  | 23, v, _ => v = Va
  | 24, v, _ => v = Vr
  | 25, v, _ => v = .bool true
  | 26, v, _ => v = .bool true
  | 27, v, _ => v = .bool true
  | _, _, _ => True
def ra9bΦ (Vw Vx Vb : Value) (q : Rat) : Nat → Value → World → Prop
  | 0, v, _ => v = Vw
  | 1, v, _ => v = Vx
  | 2, v, w => ∃ cs : List Value, v = .agg cs.toArray ∧ ValC anyB 70000 w (ratT q) cs
  | 3, v, _ => v = .bool true
  | 4, v, _ => v = .bool true
  | 5, v, _ => v = .int .i64 0
  | 6, v, _ => v = .bool true
  | 7, v, _ => v = .bool true
  | 8, v, _ => v = .bool true
  | 9, v, _ => v = Vb
  | 10, v, _ => v = Vx
  | 11, v, w => RatRep w v q
  | 12, v, _ => v = .bool true
  | 13, v, _ => v = .bool true
  | 14, v, _ => v = .bool true
  | 15, v, _ => v = .int .i64 1
  | 16, v, _ => v = .int .i64 1
  | 17, v, _ => v = .bool true
  | 18, v, _ => v = .bool true
  | 19, v, _ => v = .bool true
  | 20, v, _ => v = .int .i64 1
  | 21, v, _ => v = .bool true
  | 22, v, _ => v = .bool true
  | 23, v, _ => v = undef
  | 24, v, _ => v = undef
  | 25, v, _ => v = undef
  | 26, v, _ => v = .bool true
  | 27, v, _ => v = .bool true
  | _, _, _ => True
set_option maxRecDepth 100000 in
set_option maxHeartbeats 8000000 in
theorem codecRats_any {w : World} {V : Value} {na nb : Bool} {xs ys : List Nat} (hr : RatArg w V na xs nb ys) (hxl : xs.length ≤ 35184372088832) (hyl : ys.length ≤ 35184372088832) {t : Tr} {cs : List Value} {N : Nat} (hv : ValC anyB N w t cs) (hN : N ≤ maxLen) (he : EnvB w.heap.size w) :
    Calls Tryz.prog 5 #[V, .agg cs.toArray] w fun e w' => e = .returned (.bool true) ∧ Keeps w w' := by
  obtain ⟨k, n0, A0, n1, c1, B0, n2, c2, D, n3, c3, rfl⟩ := hv.form
  obtain ⟨_, _, _, _, eV, ⟨V1, e1, hu1⟩, ⟨V2, e2, hu2⟩⟩ := id hr
  obtain ⟨A, c, rfl, hc1, hc2, hc3, -⟩ := hu1
  obtain ⟨B, e, rfl, hd1, hd2, hd3, -⟩ := hu2
  simp only [Value.agg.injEq, Array.mk.injEq, List.cons.injEq, and_true] at e1 e2
  obtain ⟨rfl, rfl⟩ := e1
  obtain ⟨rfl, rfl⟩ := e2
  subst eV
  obtain ⟨n, hn⟩ : ∃ n, xs.length = n := ⟨_, rfl⟩
  obtain ⟨m, hm⟩ : ∃ m, ys.length = m := ⟨_, rfl⟩
  rw [hn] at hxl hr ⊢
  rw [hm] at hyl hr ⊢
  obtain ⟨W1, hW1⟩ : ∃ W1, (w.alloc (.cells #[.bool na, .slice A n c, .bool nb, .slice B m e] 44)).alloc (.cells #[.int .i64 k, .bool n0, .slice A0 n1 c1, .slice B0 n2 c2, .slice D n3 c3] 30) = W1 := ⟨_, rfl⟩
  have hk1 : Keeps w W1 := hW1 ▸ keep2 w _ _
  have p1 : Own W1 w.heap.size 44 [.bool na, .slice A n c, .bool nb, .slice B m e] := hW1 ▸ (Own.new w _ _).alloc _
  have q1 : Own W1 (w.heap.size + 1) 30 [.int .i64 k, .bool n0, .slice A0 n1 c1, .slice B0 n2 c2, .slice D n3 c3] := hW1 ▸ own2 w _ _ _
  have hnI : (n : Int) ≤ 35184372088832 := by omega
  have hmI : (m : Int) ≤ 35184372088832 := by omega
  have HV := Lib.hid (hv.keep hk1)
  have HR := Lib.hid (hr.below hk1)
  have HNM : Hid (xs.length = n ∧ ys.length = m) := Lib.hid ⟨hn, hm⟩
  have HEN := Lib.hid ((EnvB.keep he hk1).mono hk1.size)
  have HK := Lib.hid (known_any HEN.out)
  have HNN := Lib.hid hN
  have HQ := Lib.hid q1
  have HP := Lib.hid p1
  have x0 := q1.cell 0
  have x1 := q1.cell 1
  have x2 := q1.cell 2
  have x3 := q1.cell 3
  have x4 := q1.cell 4
  simp only [List.getElem?_cons_zero, List.getElem?_cons_succ] at x0 x1 x2 x3 x4
  have y0 := p1.cell 0
  have y1 := p1.cell 1
  have y2 := p1.cell 2
  have y3 := p1.cell 3
  simp only [List.getElem?_cons_zero, List.getElem?_cons_succ] at y0 y1 y2 y3
  clear q1 p1 hv he hN hr hn hm hc1 hc2 hc3 hd1 hd2 hd3
  go_enter Tryz.func5, Tryz.ntmps5
  go_wp2_with fail
  refine HK.out.mono ?_
  rintro e' w2 ⟨rfl, hk2⟩
  have p2 := HP.out.below hk2
  have q2 := HQ.out.below hk2
  clear y0 y1 y2 y3
  clear x0 x1 x2 x3 x4
  have x0 := q2.cell 0
  have x1 := q2.cell 1
  have x2 := q2.cell 2
  have x3 := q2.cell 3
  have x4 := q2.cell 4
  simp only [List.getElem?_cons_zero, List.getElem?_cons_succ] at x0 x1 x2 x3 x4
  have y0 := p2.cell 0
  have y1 := p2.cell 1
  have y2 := p2.cell 2
  have y3 := p2.cell 3
  simp only [List.getElem?_cons_zero, List.getElem?_cons_succ] at y0 y1 y2 y3
  by_cases h20 : 20 < n
  · have t1 : decide ((20 : Int) < (n : Int)) = true := decide_eq_true (by omega)
    clear h20
    go_wp2
    go_ret
    exact ⟨rfl, hk1.trans' hk2⟩
  · have t1 : decide ((20 : Int) < (n : Int)) = false := decide_eq_false (by omega)
    have HN20 : Hid (n ≤ 20) := Lib.hid (by omega)
    clear h20
    by_cases h20 : 20 < m
    · have t2 : decide ((20 : Int) < (m : Int)) = true := decide_eq_true (by omega)
      clear h20
      go_wp2
      go_ret
      exact ⟨rfl, hk1.trans' hk2⟩
    · have t2 : decide ((20 : Int) < (m : Int)) = false := decide_eq_false (by omega)
      have HM20 : Hid (m ≤ 20) := Lib.hid (by omega)
      clear h20
      have HFW := Lib.hid (few_any HNN.out (HV.out.keep hk2))
      go_wp2_with fail
      refine HFW.out.mono ?_
      rintro e' w3 ⟨⟨b, rfl, hb⟩, hk3⟩
      have hk13 := hk2.trans' hk3
      cases b with
      | false =>
        clear hb
        go_wp2
        go_ret
        exact ⟨rfl, hk1.trans' hk13⟩
      | true =>
        have HW := Lib.hid (hb rfl)
        clear hb
        have HV4 := Lib.hid ((HV.out.shrink HW.out).le (M := 70000) (by decide))
        obtain ⟨q, hq⟩ : ∃ q, rcnt na xs nb ys = q := ⟨_, rfl⟩
        have hsq : szR q ≤ 20 := by
          rw [← hq]
          refine Nat.le_trans szR_rcnt ?_
          rw [HNM.out.1, HNM.out.2]
          have := HN20.out
          have := HM20.out
          omega
        have HSQ : Hid (szR q ≤ 60000) := Lib.hid (by omega)
        have HS2 : Hid (szR q + szR q ≤ 99999) := Lib.hid (by omega)
        have hrn : RatNum w3 (.agg #[.bool na, .slice A n c, .bool nb, .slice B m e]) q := ⟨na, xs, nb, ys, HR.out.below hk13, hq, by rw [HNM.out.1]; have := HN20.out; omega, by rw [HNM.out.2]; have := HM20.out; omega⟩
        have HRN := Lib.hid hrn
        have HOF := Lib.hid (ofRat_any hrn HSQ.out)
        have p3 := HP.out.below hk13
        clear hq hsq hrn y0 y1 y2 y3
        clear x0 x1 x2 x3 x4
        have y0 := p3.cell 0
        have y1 := p3.cell 1
        have y2 := p3.cell 2
        have y3 := p3.cell 3
        simp only [List.getElem?_cons_zero, List.getElem?_cons_succ] at y0 y1 y2 y3
        go_wp2_with fail
        refine HOF.out.mono ?_
        rintro e' w4 ⟨cs4, rfl, hv4, hk4⟩
        obtain ⟨k5, z5, A5, m5, c5, B5, l5, e5, D5, j5, f5, rfl⟩ := hv4.form
        obtain ⟨W5, hW5⟩ : ∃ W5, w4.alloc (.cells #[.int .i64 k5, .bool z5, .slice A5 m5 c5, .slice B5 l5 e5, .slice D5 j5 f5] 30) = W5 := ⟨_, rfl⟩
        have hkb : Keeps w4 W5 := hW5 ▸ box2 w4 _
        have b5 : Own W5 w4.heap.size 30 [.int .i64 k5, .bool z5, .slice A5 m5 c5, .slice B5 l5 e5, .slice D5 j5 f5] := hW5 ▸ Own.new w4 _ _
        have hk35 := hk4.trans' hkb
        have hv5 := hv4.keep hkb
        have HTR := Lib.hid (toRat_any hv5)
        have HV5 := Lib.hid hv5
        have HB5 := Lib.hid b5
        have HOKQ := Lib.hid (ratT_ok q)
        clear hv4 hv5 y0 y1 y2 y3
        have z0 := b5.cell 0
        have z1 := b5.cell 1
        have z2 := b5.cell 2
        have z3 := b5.cell 3
        have z4 := b5.cell 4
        simp only [List.getElem?_cons_zero, List.getElem?_cons_succ] at z0 z1 z2 z3 z4
        go_wp2_with fail
        refine HTR.out.mono ?_
        rintro e' w6 ⟨b6, A6, n6, c6, d6, B6, m6, e6, rfl, hr6, hk6⟩
        have hr6' := hr6 HOKQ.out.1
        rw [HOKQ.out.2] at hr6'
        rw [HOKQ.out.1]
        obtain ⟨W7, hW7⟩ : ∃ W7, w6.alloc (.cells #[.bool b6, .slice A6 n6 c6, .bool d6, .slice B6 m6 e6] 44) = W7 := ⟨_, rfl⟩
        have hk7 : Keeps w6 W7 := hW7 ▸ box2 w6 _
        have b7 : Own W7 w6.heap.size 44 [.bool b6, .slice A6 n6 c6, .bool d6, .slice B6 m6 e6] := hW7 ▸ Own.new w6 _ _
        have hk57 := hk6.trans' hk7
        have hk17 := hk13.trans' (hk35.trans' hk57)
        have HR7 := Lib.hid (hr6'.below hk7)
        have HB7 := Lib.hid b7
        have HTV := Lib.hid (toRat_any (HV4.out.keep hk17))
        have r7 := HQ.out.below hk17
        clear hr6 hr6' b7 z0 z1 z2 z3 z4
        have x0 := r7.cell 0
        have x1 := r7.cell 1
        have x2 := r7.cell 2
        have x3 := r7.cell 3
        have x4 := r7.cell 4
        simp only [List.getElem?_cons_zero, List.getElem?_cons_succ] at x0 x1 x2 x3 x4
        clear r7
        go_wp2_with fail
        refine HTV.out.mono ?_
        rintro e' w8 ⟨b7, A7, n7, c7, d7, B7, m7, e7, rfl, hra, hk8⟩
        have HRA1 := Lib.hid hra
        obtain ⟨W8, hW8⟩ : ∃ W8, w8.alloc (.cells #[.bool b7, .slice A7 n7 c7, .bool d7, .slice B7 m7 e7] 44) = W8 := ⟨_, rfl⟩
        have hk8b : Keeps w8 W8 := hW8 ▸ box2 w8 _
        have b8' : Own W8 w8.heap.size 44 [.bool b7, .slice A7 n7 c7, .bool d7, .slice B7 m7 e7] := hW8 ▸ Own.new w8 _ _
        have hk78 := hk8.trans' hk8b
        have hk18 := hk17.trans' hk78
        have HB8 := Lib.hid b8'
        have HRV := Lib.hid (rtoRat_any (HV4.out.keep hk18))
        have r8 := HQ.out.below hk18
        clear hra b8'
        clear x0 x1 x2 x3 x4
        have x0 := r8.cell 0
        have x1 := r8.cell 1
        have x2 := r8.cell 2
        have x3 := r8.cell 3
        have x4 := r8.cell 4
        simp only [List.getElem?_cons_zero, List.getElem?_cons_succ] at x0 x1 x2 x3 x4
        clear r8
        obtain ⟨cc, hcc⟩ : ∃ cc, toRC t = cc := ⟨_, rfl⟩
        have HCC := Lib.hid hcc
        have hc01 := toRC_01 t
        rw [hcc] at HRA1 hc01 ⊢
        clear hcc
        go_wp2_with fail
        refine HRV.out.mono ?_
        rintro e' w9 ⟨b8, A8, n8, c8, d8, B8, m8, e8, rfl, hrr, hk9⟩
        rw [HCC.out] at hrr ⊢
        obtain ⟨W9, hW9⟩ : ∃ W9, w9.alloc (.cells #[.bool b8, .slice A8 n8 c8, .bool d8, .slice B8 m8 e8] 44) = W9 := ⟨_, rfl⟩
        have hk9b : Keeps w9 W9 := hW9 ▸ box2 w9 _
        have hk89 := hk9.trans' hk9b
        have hk19 := hk18.trans' hk89
        have HBR : Hid (Own W9 w9.heap.size 44 [.bool b8, .slice A8 n8 c8, .bool d8, .slice B8 m8 e8]) := Lib.hid (hW9 ▸ Own.new w9 _ _)
        have HBA := Lib.hid (HB8.out.below hk89)
        have HBB := Lib.hid (HB7.out.below (hk78.trans' hk89))
        have HBW := Lib.hid (HB5.out.below ((hk57.trans' hk78).trans' hk89))
        have HBX := Lib.hid (HP.out.below hk19)
        have HXN := Lib.hid (HRN.out.below ((hk35.trans' hk57).trans' (hk78.trans' hk89)))
        have HVW := Lib.hid (HV5.out.keep ((hk57.trans' hk78).trans' hk89))
        have HRB := Lib.hid (HR7.out.below (hk78.trans' hk89))
        have HRA2 : Hid (cc = 0 → RatRep W9 (.agg #[.bool b7, .slice A7 n7 c7, .bool d7, .slice B7 m7 e7]) (toRQ t)) := Lib.hid (fun h => (HRA1.out h).below (hk8b.trans' hk89))
        have HRR2 : Hid (cc = 0 → RatRep W9 (.agg #[.bool b8, .slice A8 n8 c8, .bool d8, .slice B8 m8 e8]) (toRQ t)) := Lib.hid (fun h => (hrr h).below hk9b)
        clear hrr
        clear x0 x1 x2 x3 x4
        rcases hc01 with rfl | rfl
        · have HRA := Lib.hid (HRA2.out rfl)
          have HRR := Lib.hid (HRR2.out rfl)
          have HS3 : Hid (szR (toRQ t) + szR (toRQ t) ≤ 99999) := Lib.hid (by have := toRQ_sz HW.out; omega)
          go_upto_region 9 with fail
          refine wp_region_steps (m := 28) rfl (by kernel_rfl) (ra9aΦ (.agg #[.int .i64 k5, .bool z5, .slice A5 m5 c5, .slice B5 l5 e5, .slice D5 j5 f5]) (.agg #[.bool na, .slice A n c, .bool nb, .slice B m e]) (.agg #[.bool b6, .slice A6 n6 c6, .bool d6, .slice B6 m6 e6]) (.agg #[.bool b7, .slice A7 n7 c7, .bool d7, .slice B7 m7 e7]) (.agg #[.bool b8, .slice A8 n8 c8, .bool d8, .slice B8 m8 e8]) q) [] ?_ ?_ ?_
          · intro i v w w' hi h hk
            match i, hi with
            | 0, _ | 1, _ | 3, _ | 4, _ | 5, _ | 6, _ | 7, _ | 8, _ | 9, _ | 10, _ | 12, _ | 13, _ | 14, _ | 15, _ | 16, _ | 17, _ | 18, _ | 19, _ | 20, _ | 21, _ | 22, _ | 23, _ | 24, _ | 25, _ | 26, _ | 27, _ => exact h
            | 2, _ => exact h.elim fun cs h => ⟨cs, h.1, h.2.keep hk⟩
            | 11, _ => exact RatRep.below h hk
            | i + 28, hi => exact absurd hi (by omega)
          · intro i hi vs wph3 hk3 hd
            have hkq := Keeps.trans' (w1 := W9.drew) (Below.drew (Below.refl _ W9)) hk3
            have qw := HBW.out.below hkq
            have qx := HBX.out.below hkq
            have qb := HBB.out.below hkq
            have qa := HBA.out.below hkq
            have qr := HBR.out.below hkq
            have x0 := qw.cell 0
            have x1 := qw.cell 1
            have x2 := qw.cell 2
            have x3 := qw.cell 3
            have x4 := qw.cell 4
            have y0 := qx.cell 0
            have y1 := qx.cell 1
            have y2 := qx.cell 2
            have y3 := qx.cell 3
            have z0 := qb.cell 0
            have z1 := qb.cell 1
            have z2 := qb.cell 2
            have z3 := qb.cell 3
            have a0 := qa.cell 0
            have a1 := qa.cell 1
            have a2 := qa.cell 2
            have a3 := qa.cell 3
            have r0 := qr.cell 0
            have r1 := qr.cell 1
            have r2 := qr.cell 2
            have r3 := qr.cell 3
            simp only [List.getElem?_cons_zero, List.getElem?_cons_succ] at x0 x1 x2 x3 x4 y0 y1 y2 y3 z0 z1 z2 z3 a0 a1 a2 a3 r0 r1 r2 r3
            match i, hi with
            | 0, _ =>
              refine step_yes (o := ⟨some 48, Op.load 30 (Operand.tmp 5), 30, "law.go:153", #[], none⟩) [] (by kernel_rfl) (by kernel_rfl) fun K hK => ?_
              simp only [frD] at hK ⊢
              refine ⟨by rfl, ?_⟩
              go_simp
              exact hK _ _ ⟨Below.refl _ _, rfl, by simp⟩
            | 1, _ =>
              refine step_yes (o := ⟨some 49, Op.load 44 (Operand.tmp 2), 44, "law.go:153", #[], none⟩) [] (by kernel_rfl) (by kernel_rfl) fun K hK => ?_
              simp only [frD] at hK ⊢
              refine ⟨by rfl, ?_⟩
              go_simp
              exact hK _ _ ⟨Below.refl _ _, rfl, by simp⟩
            | 2, _ =>
              have e1 : vs 1 = (.agg #[.bool na, .slice A n c, .bool nb, .slice B m e]) := hd 1 (List.contains_iff_mem.1 (by kernel_rfl))
              refine step_yes (o := ⟨some 50, Op.call { callee := Callee.value (Operand.func 19), args := #[Operand.tmp 49], argTypes := #[44] }, 30, "law.go:153", #[{ on := 1, ground := Ground.data }], none⟩) [(1, some 49)] (by kernel_rfl) (by kernel_rfl) fun K hK => ?_
              simp only [frD, e1] at hK ⊢
              refine ⟨by rfl, ?_⟩
              go_simp
              refine (rofRat_any (HXN.out.below hkq) HSQ.out).mono ?_
              rintro e w5 ⟨cs, rfl, hv, hk4⟩
              exact hK _ _ ⟨hk4, ⟨cs, rfl, hv⟩, by simp⟩
            | 3, _ =>
              have e0 : vs 0 = (.agg #[.int .i64 k5, .bool z5, .slice A5 m5 c5, .slice B5 l5 e5, .slice D5 j5 f5]) := hd 0 (List.contains_iff_mem.1 (by kernel_rfl))
              have h2 : ∃ cs : List Value, (vs 2) = .agg cs.toArray ∧ ValC anyB 70000 wph3 (ratT q) cs := hd 2 (List.contains_iff_mem.1 (by kernel_rfl))
              obtain ⟨cs9, e2, hv9⟩ := h2
              refine step_yes (o := ⟨some 51, Op.call { callee := Callee.value (Operand.func 9), args := #[Operand.tmp 48, Operand.tmp 50], argTypes := #[30, 30] }, 4, "law.go:153", #[{ on := 0, ground := Ground.data }, { on := 2, ground := Ground.data }, { on := 2, ground := Ground.chain }], none⟩) [(0, some 48), (2, some 50)] (by kernel_rfl) (by kernel_rfl) fun K hK => ?_
              simp only [frD, e0, e2] at hK ⊢
              refine ⟨by rfl, ?_⟩
              go_simp
              refine (requal_same (N := 70000) (by decide) (HVW.out.keep hkq) hv9).mono ?_
              rintro e wph4 ⟨rfl, hk4⟩
              exact hK _ _ ⟨hk4, rfl, by simp⟩
            | 4, _ =>
              have e3 : vs 3 = .bool true := hd 3 (List.contains_iff_mem.1 (by kernel_rfl))
              refine step_yes (o := ⟨some 52, Op.move (Operand.tmp 51), 4, "law.go:153", #[{ on := 3, ground := Ground.data }, { on := 3, ground := Ground.chain }], none⟩) [(3, some 51)] (by kernel_rfl) (by kernel_rfl) fun K hK => ?_
              simp only [frD, e3] at hK ⊢
              refine ⟨by rfl, ?_⟩
              go_simp
              exact hK _ _ ⟨Below.refl _ _, rfl, by simp⟩
            | 5, _ =>
              have e4 : vs 4 = .bool true := hd 4 (List.contains_iff_mem.1 (by kernel_rfl))
              refine step_yes (o := ⟨some 53, Op.move (Operand.tmp 7), 31, "law.go:153", #[{ on := 4, ground := Ground.guard }], some (4, true)⟩) [(4, some 52)] (by kernel_rfl) (by kernel_rfl) fun K hK => ?_
              simp only [frD, e4] at hK ⊢
              refine ⟨by rfl, ?_⟩
              go_simp
              exact hK _ _ ⟨Below.refl _ _, rfl, by simp⟩
            | 6, _ =>
              have e4 : vs 4 = .bool true := hd 4 (List.contains_iff_mem.1 (by kernel_rfl))
              have e5 : vs 5 = .int .i64 0 := hd 5 (List.contains_iff_mem.1 (by kernel_rfl))
              refine step_yes (o := ⟨some 54, Op.binOp BinOp.eql 31 (Operand.tmp 53) (Operand.const (Value.int IntKind.i64 0)) 31, 4, "law.go:153", #[{ on := 5, ground := Ground.data }, { on := 4, ground := Ground.guard }], some (4, true)⟩) [(4, some 52), (5, some 53)] (by kernel_rfl) (by kernel_rfl) fun K hK => ?_
              simp only [frD, e4, e5] at hK ⊢
              refine ⟨by rfl, ?_⟩
              go_simp
              exact hK _ _ ⟨Below.refl _ _, rfl, by simp⟩
            | 7, _ =>
              have e4 : vs 4 = .bool true := hd 4 (List.contains_iff_mem.1 (by kernel_rfl))
              have e6 : vs 6 = .bool true := hd 6 (List.contains_iff_mem.1 (by kernel_rfl))
              refine step_yes (o := ⟨some 55, Op.pick (Operand.tmp 52) (Operand.tmp 54) (Operand.const (Value.bool false)), 4, "law.go:153", #[{ on := 4, ground := Ground.data }, { on := 6, ground := Ground.data }], none⟩) [(4, some 52), (6, some 54)] (by kernel_rfl) (by kernel_rfl) fun K hK => ?_
              simp only [frD, e4, e6] at hK ⊢
              refine ⟨by rfl, ?_⟩
              go_simp
              exact hK _ _ ⟨Below.refl _ _, rfl, by simp⟩
            | 8, _ =>
              have e4 : vs 4 = .bool true := hd 4 (List.contains_iff_mem.1 (by kernel_rfl))
              have e7 : vs 7 = .bool true := hd 7 (List.contains_iff_mem.1 (by kernel_rfl))
              refine step_yes (o := ⟨some 56, Op.move (Operand.tmp 55), 4, "law.go:153", #[{ on := 7, ground := Ground.data }, { on := 4, ground := Ground.chain }], none⟩) [(4, some 52), (7, some 55)] (by kernel_rfl) (by kernel_rfl) fun K hK => ?_
              simp only [frD, e4, e7] at hK ⊢
              refine ⟨by rfl, ?_⟩
              go_simp
              exact hK _ _ ⟨Below.refl _ _, rfl, by simp⟩
            | 9, _ =>
              have e8 : vs 8 = .bool true := hd 8 (List.contains_iff_mem.1 (by kernel_rfl))
              refine step_yes (o := ⟨some 57, Op.load 44 (Operand.tmp 6), 44, "law.go:153", #[{ on := 8, ground := Ground.guard }], some (8, true)⟩) [(8, some 56)] (by kernel_rfl) (by kernel_rfl) fun K hK => ?_
              simp only [frD, e8] at hK ⊢
              refine ⟨by rfl, ?_⟩
              go_simp
              exact hK _ _ ⟨Below.refl _ _, rfl, by simp⟩
            | 10, _ =>
              have e8 : vs 8 = .bool true := hd 8 (List.contains_iff_mem.1 (by kernel_rfl))
              refine step_yes (o := ⟨some 58, Op.load 44 (Operand.tmp 2), 44, "law.go:153", #[{ on := 8, ground := Ground.guard }], some (8, true)⟩) [(8, some 56)] (by kernel_rfl) (by kernel_rfl) fun K hK => ?_
              simp only [frD, e8] at hK ⊢
              refine ⟨by rfl, ?_⟩
              go_simp
              exact hK _ _ ⟨Below.refl _ _, rfl, by simp⟩
            | 11, _ =>
              have e8 : vs 8 = .bool true := hd 8 (List.contains_iff_mem.1 (by kernel_rfl))
              have e10 : vs 10 = (.agg #[.bool na, .slice A n c, .bool nb, .slice B m e]) := hd 10 (List.contains_iff_mem.1 (by kernel_rfl))
              refine step_yes (o := ⟨some 59, Op.call { callee := Callee.value (Operand.func 21), args := #[Operand.tmp 58], argTypes := #[44] }, 44, "law.go:153", #[{ on := 10, ground := Ground.data }, { on := 8, ground := Ground.chain }, { on := 8, ground := Ground.guard }], some (8, true)⟩) [(8, some 56), (10, some 58)] (by kernel_rfl) (by kernel_rfl) fun K hK => ?_
              simp only [frD, e8, e10] at hK ⊢
              refine ⟨by rfl, ?_⟩
              go_simp
              refine (gvalue_num (HXN.out.below hkq)).mono ?_
              rintro e w5 ⟨U, rfl, hr, hk4⟩
              exact hK _ _ ⟨hk4, hr, by simp⟩
            | 12, _ =>
              have e8 : vs 8 = .bool true := hd 8 (List.contains_iff_mem.1 (by kernel_rfl))
              have e9 : vs 9 = (.agg #[.bool b6, .slice A6 n6 c6, .bool d6, .slice B6 m6 e6]) := hd 9 (List.contains_iff_mem.1 (by kernel_rfl))
              have h11 : RatRep wph3 (vs 11) q := hd 11 (List.contains_iff_mem.1 (by kernel_rfl))
              refine step_yes (o := ⟨some 60, Op.call { callee := Callee.value (Operand.func 20), args := #[Operand.tmp 57, Operand.tmp 59], argTypes := #[44, 44] }, 4, "law.go:153", #[{ on := 9, ground := Ground.data }, { on := 11, ground := Ground.data }, { on := 11, ground := Ground.chain }, { on := 8, ground := Ground.guard }], some (8, true)⟩) [(8, some 56), (9, some 57), (11, some 59)] (by kernel_rfl) (by kernel_rfl) fun K hK => ?_
              simp only [frD, e8, e9] at hK ⊢
              refine ⟨by rfl, ?_⟩
              go_simp
              refine (gsameRat_any (HRB.out.below hkq) h11 HS2.out).mono ?_
              rintro e wph4 ⟨rfl, hk4⟩
              exact hK _ _ ⟨hk4, rfl, by simp⟩
            | 13, _ =>
              have e8 : vs 8 = .bool true := hd 8 (List.contains_iff_mem.1 (by kernel_rfl))
              have e12 : vs 12 = .bool true := hd 12 (List.contains_iff_mem.1 (by kernel_rfl))
              refine step_yes (o := ⟨some 61, Op.pick (Operand.tmp 56) (Operand.tmp 60) (Operand.const (Value.bool false)), 4, "law.go:153", #[{ on := 8, ground := Ground.data }, { on := 12, ground := Ground.data }], none⟩) [(8, some 56), (12, some 60)] (by kernel_rfl) (by kernel_rfl) fun K hK => ?_
              simp only [frD, e8, e12] at hK ⊢
              refine ⟨by rfl, ?_⟩
              go_simp
              exact hK _ _ ⟨Below.refl _ _, rfl, by simp⟩
            | 14, _ =>
              have e12 : vs 12 = .bool true := hd 12 (List.contains_iff_mem.1 (by kernel_rfl))
              have e13 : vs 13 = .bool true := hd 13 (List.contains_iff_mem.1 (by kernel_rfl))
              refine step_yes (o := ⟨some 62, Op.move (Operand.tmp 61), 4, "law.go:153", #[{ on := 13, ground := Ground.data }, { on := 12, ground := Ground.chain }], none⟩) [(12, some 60), (13, some 61)] (by kernel_rfl) (by kernel_rfl) fun K hK => ?_
              simp only [frD, e12, e13] at hK ⊢
              refine ⟨by rfl, ?_⟩
              go_simp
              exact hK _ _ ⟨Below.refl _ _, rfl, by simp⟩
            | 15, _ =>
              have e14 : vs 14 = .bool true := hd 14 (List.contains_iff_mem.1 (by kernel_rfl))
              refine step_yes (o := ⟨some 63, Op.move (Operand.tmp 9), 31, "law.go:153", #[{ on := 14, ground := Ground.guard }], some (14, true)⟩) [(14, some 62)] (by kernel_rfl) (by kernel_rfl) fun K hK => ?_
              simp only [frD, e14] at hK ⊢
              refine ⟨by rfl, ?_⟩
              go_simp
              exact hK _ _ ⟨Below.refl _ _, rfl, by simp⟩
            | 16, _ =>
              have e14 : vs 14 = .bool true := hd 14 (List.contains_iff_mem.1 (by kernel_rfl))
              refine step_yes (o := ⟨some 64, Op.move (Operand.tmp 11), 31, "law.go:153", #[{ on := 14, ground := Ground.guard }], some (14, true)⟩) [(14, some 62)] (by kernel_rfl) (by kernel_rfl) fun K hK => ?_
              simp only [frD, e14] at hK ⊢
              refine ⟨by rfl, ?_⟩
              go_simp
              exact hK _ _ ⟨Below.refl _ _, rfl, by simp⟩
            | 17, _ =>
              have e14 : vs 14 = .bool true := hd 14 (List.contains_iff_mem.1 (by kernel_rfl))
              have e15 : vs 15 = .int .i64 0 := hd 15 (List.contains_iff_mem.1 (by kernel_rfl))
              have e16 : vs 16 = .int .i64 0 := hd 16 (List.contains_iff_mem.1 (by kernel_rfl))
              refine step_yes (o := ⟨some 65, Op.binOp BinOp.eql 31 (Operand.tmp 63) (Operand.tmp 64) 31, 4, "law.go:153", #[{ on := 15, ground := Ground.data }, { on := 16, ground := Ground.data }, { on := 14, ground := Ground.guard }], some (14, true)⟩) [(14, some 62), (15, some 63), (16, some 64)] (by kernel_rfl) (by kernel_rfl) fun K hK => ?_
              simp only [frD, e14, e15, e16] at hK ⊢
              refine ⟨by rfl, ?_⟩
              go_simp
              exact hK _ _ ⟨Below.refl _ _, rfl, by simp⟩
            | 18, _ =>
              have e14 : vs 14 = .bool true := hd 14 (List.contains_iff_mem.1 (by kernel_rfl))
              have e17 : vs 17 = .bool true := hd 17 (List.contains_iff_mem.1 (by kernel_rfl))
              refine step_yes (o := ⟨some 66, Op.pick (Operand.tmp 62) (Operand.tmp 65) (Operand.const (Value.bool false)), 4, "law.go:153", #[{ on := 14, ground := Ground.data }, { on := 17, ground := Ground.data }], none⟩) [(14, some 62), (17, some 65)] (by kernel_rfl) (by kernel_rfl) fun K hK => ?_
              simp only [frD, e14, e17] at hK ⊢
              refine ⟨by rfl, ?_⟩
              go_simp
              exact hK _ _ ⟨Below.refl _ _, rfl, by simp⟩
            | 19, _ =>
              have e14 : vs 14 = .bool true := hd 14 (List.contains_iff_mem.1 (by kernel_rfl))
              have e18 : vs 18 = .bool true := hd 18 (List.contains_iff_mem.1 (by kernel_rfl))
              refine step_yes (o := ⟨some 67, Op.move (Operand.tmp 66), 4, "law.go:153", #[{ on := 18, ground := Ground.data }, { on := 14, ground := Ground.chain }], none⟩) [(14, some 62), (18, some 66)] (by kernel_rfl) (by kernel_rfl) fun K hK => ?_
              simp only [frD, e14, e18] at hK ⊢
              refine ⟨by rfl, ?_⟩
              go_simp
              exact hK _ _ ⟨Below.refl _ _, rfl, by simp⟩
            | 20, _ =>
              have e19 : vs 19 = .bool true := hd 19 (List.contains_iff_mem.1 (by kernel_rfl))
              refine step_yes (o := ⟨some 68, Op.move (Operand.tmp 9), 31, "law.go:153", #[{ on := 19, ground := Ground.guard }], some (19, true)⟩) [(19, some 67)] (by kernel_rfl) (by kernel_rfl) fun K hK => ?_
              simp only [frD, e19] at hK ⊢
              refine ⟨by rfl, ?_⟩
              go_simp
              exact hK _ _ ⟨Below.refl _ _, rfl, by simp⟩
            | 21, _ =>
              have e19 : vs 19 = .bool true := hd 19 (List.contains_iff_mem.1 (by kernel_rfl))
              have e20 : vs 20 = .int .i64 0 := hd 20 (List.contains_iff_mem.1 (by kernel_rfl))
              refine step_yes (o := ⟨some 69, Op.binOp BinOp.neq 31 (Operand.tmp 68) (Operand.const (Value.int IntKind.i64 0)) 31, 4, "law.go:153", #[{ on := 20, ground := Ground.data }, { on := 19, ground := Ground.guard }], some (19, true)⟩) [(19, some 67), (20, some 68)] (by kernel_rfl) (by kernel_rfl) fun K hK => ?_
              simp only [frD, e19, e20] at hK ⊢
              refine ⟨by rfl, ?_⟩
              go_simp
              exact hK _ _ ⟨Below.refl _ _, rfl, by simp⟩
            | 22, _ =>
              have e19 : vs 19 = .bool true := hd 19 (List.contains_iff_mem.1 (by kernel_rfl))
              have e21 : vs 21 = .bool false := hd 21 (List.contains_iff_mem.1 (by kernel_rfl))
              refine step_yes (o := ⟨some 70, Op.move (Operand.tmp 69), 4, "law.go:153", #[{ on := 21, ground := Ground.data }, { on := 19, ground := Ground.chain }, { on := 19, ground := Ground.guard }], some (19, true)⟩) [(19, some 67), (21, some 69)] (by kernel_rfl) (by kernel_rfl) fun K hK => ?_
              simp only [frD, e19, e21] at hK ⊢
              refine ⟨by rfl, ?_⟩
              go_simp
              exact hK _ _ ⟨Below.refl _ _, rfl, by simp⟩
            | 23, _ =>
              have e22 : vs 22 = .bool false := hd 22 (List.contains_iff_mem.1 (by kernel_rfl))
              refine step_yes (o := ⟨some 71, Op.load 44 (Operand.tmp 8), 44, "law.go:153", #[{ on := 22, ground := Ground.guard }], some (22, false)⟩) [(22, some 70)] (by kernel_rfl) (by kernel_rfl) fun K hK => ?_
              simp only [frD, e22] at hK ⊢
              refine ⟨by rfl, ?_⟩
              go_simp
              exact hK _ _ ⟨Below.refl _ _, rfl, by simp⟩
            | 24, _ =>
              have e22 : vs 22 = .bool false := hd 22 (List.contains_iff_mem.1 (by kernel_rfl))
              refine step_yes (o := ⟨some 72, Op.load 44 (Operand.tmp 10), 44, "law.go:153", #[{ on := 22, ground := Ground.guard }], some (22, false)⟩) [(22, some 70)] (by kernel_rfl) (by kernel_rfl) fun K hK => ?_
              simp only [frD, e22] at hK ⊢
              refine ⟨by rfl, ?_⟩
              go_simp
              exact hK _ _ ⟨Below.refl _ _, rfl, by simp⟩
            | 25, _ =>
              have e22 : vs 22 = .bool false := hd 22 (List.contains_iff_mem.1 (by kernel_rfl))
              have e23 : vs 23 = (.agg #[.bool b7, .slice A7 n7 c7, .bool d7, .slice B7 m7 e7]) := hd 23 (List.contains_iff_mem.1 (by kernel_rfl))
              have e24 : vs 24 = (.agg #[.bool b8, .slice A8 n8 c8, .bool d8, .slice B8 m8 e8]) := hd 24 (List.contains_iff_mem.1 (by kernel_rfl))
              refine step_yes (o := ⟨some 73, Op.call { callee := Callee.value (Operand.func 20), args := #[Operand.tmp 71, Operand.tmp 72], argTypes := #[44, 44] }, 4, "law.go:153", #[{ on := 23, ground := Ground.data }, { on := 24, ground := Ground.data }, { on := 22, ground := Ground.chain }, { on := 22, ground := Ground.guard }], some (22, false)⟩) [(22, some 70), (23, some 71), (24, some 72)] (by kernel_rfl) (by kernel_rfl) fun K hK => ?_
              simp only [frD, e22, e23, e24] at hK ⊢
              refine ⟨by rfl, ?_⟩
              go_simp
              refine (gsameRat_any (HRA.out.below hkq) (HRR.out.below hkq) HS3.out).mono ?_
              rintro e wph4 ⟨rfl, hk4⟩
              exact hK _ _ ⟨hk4, rfl, by simp⟩
            | 26, _ =>
              have e19 : vs 19 = .bool true := hd 19 (List.contains_iff_mem.1 (by kernel_rfl))
              have e22 : vs 22 = .bool false := hd 22 (List.contains_iff_mem.1 (by kernel_rfl))
              have e25 : vs 25 = .bool true := hd 25 (List.contains_iff_mem.1 (by kernel_rfl))
              refine step_yes (o := ⟨some 74, Op.pick (Operand.tmp 70) (Operand.const (Value.bool true)) (Operand.tmp 73), 4, "law.go:153", #[{ on := 22, ground := Ground.data }, { on := 25, ground := Ground.data }, { on := 19, ground := Ground.guard }], some (19, true)⟩) [(19, some 67), (22, some 70), (25, some 73)] (by kernel_rfl) (by kernel_rfl) fun K hK => ?_
              simp only [frD, e19, e22, e25] at hK ⊢
              refine ⟨by rfl, ?_⟩
              go_simp
              exact hK _ _ ⟨Below.refl _ _, rfl, by simp⟩
            | 27, _ =>
              have e19 : vs 19 = .bool true := hd 19 (List.contains_iff_mem.1 (by kernel_rfl))
              have e26 : vs 26 = .bool true := hd 26 (List.contains_iff_mem.1 (by kernel_rfl))
              refine step_yes (o := ⟨some 75, Op.pick (Operand.tmp 67) (Operand.tmp 74) (Operand.const (Value.bool false)), 4, "law.go:153", #[{ on := 19, ground := Ground.data }, { on := 26, ground := Ground.data }], none⟩) [(19, some 67), (26, some 74)] (by kernel_rfl) (by kernel_rfl) fun K hK => ?_
              simp only [frD, e19, e26] at hK ⊢
              refine ⟨by rfl, ?_⟩
              go_simp
              exact hK _ _ ⟨Below.refl _ _, rfl, by simp⟩
            | i + 28, hi => exact absurd hi (by omega)
          · intro vs wph3 hk3 hΦ _
            simp only [List.drop_succ_cons, List.drop_zero]
            rw [fr_frD, show (List.range 28).map _ = [(0, some 48), (1, some 49), (2, some 50), (3, some 51), (4, some 52), (5, some 53), (6, some 54), (7, some 55), (8, some 56), (9, some 57), (10, some 58), (11, some 59), (12, some 60), (13, some 61), (14, some 62), (15, some 63), (16, some 64), (17, some 65), (18, some 66), (19, some 67), (20, some 68), (21, some 69), (22, some 70), (23, some 71), (24, some 72), (25, some 73), (26, some 74), (27, some 75)] by kernel_rfl]
            have ph0 := hΦ 0 (by omega)
            have ph1 := hΦ 1 (by omega)
            have ph2 := hΦ 2 (by omega)
            have ph3 := hΦ 3 (by omega)
            have ph4 := hΦ 4 (by omega)
            have ph5 := hΦ 5 (by omega)
            have ph6 := hΦ 6 (by omega)
            have ph7 := hΦ 7 (by omega)
            have ph8 := hΦ 8 (by omega)
            have ph9 := hΦ 9 (by omega)
            have ph10 := hΦ 10 (by omega)
            have ph11 := hΦ 11 (by omega)
            have ph12 := hΦ 12 (by omega)
            have ph13 := hΦ 13 (by omega)
            have ph14 := hΦ 14 (by omega)
            have ph15 := hΦ 15 (by omega)
            have ph16 := hΦ 16 (by omega)
            have ph17 := hΦ 17 (by omega)
            have ph18 := hΦ 18 (by omega)
            have ph19 := hΦ 19 (by omega)
            have ph20 := hΦ 20 (by omega)
            have ph21 := hΦ 21 (by omega)
            have ph22 := hΦ 22 (by omega)
            have ph23 := hΦ 23 (by omega)
            have ph24 := hΦ 24 (by omega)
            have ph25 := hΦ 25 (by omega)
            have ph26 := hΦ 26 (by omega)
            have ph27 := hΦ 27 (by omega)
            simp only [ra9aΦ] at ph0 ph1 ph2 ph3 ph4 ph5 ph6 ph7 ph8 ph9 ph10 ph11 ph12 ph13 ph14 ph15 ph16 ph17 ph18 ph19 ph20 ph21 ph22 ph23 ph24 ph25 ph26 ph27
            clear hΦ
            simp only [frD, ph0, ph1, ph3, ph4, ph5, ph6, ph7, ph8, ph9, ph10, ph12, ph13, ph14, ph15, ph16, ph17, ph18, ph19, ph20, ph21, ph22, ph23, ph24, ph25, ph26, ph27]
            simp only [Act.put, List.setIfInBounds_toArray, List.set_cons_zero, List.set_cons_succ]
            clear ph0
            clear ph1
            generalize vs 2 = U2 at ph2 ⊢
            clear ph3
            clear ph4
            clear ph5
            clear ph6
            clear ph7
            clear ph8
            clear ph9
            clear ph10
            generalize vs 11 = U11 at ph11 ⊢
            clear ph12
            clear ph13
            clear ph14
            clear ph15
            clear ph16
            clear ph17
            clear ph18
            clear ph19
            clear ph20
            clear ph21
            clear ph22
            clear ph23
            clear ph24
            clear ph25
            clear ph26
            clear ph27
            go_wp2
            go_ret
            exact ⟨by first | done | rfl | simp, (hk1.trans' hk19).trans' (Keeps.trans' (w1 := W9.drew) (Below.drew (Below.refl _ W9)) hk3)⟩
        · go_upto_region 9 with fail
          refine wp_region_steps (m := 28) rfl (by kernel_rfl) (ra9bΦ (.agg #[.int .i64 k5, .bool z5, .slice A5 m5 c5, .slice B5 l5 e5, .slice D5 j5 f5]) (.agg #[.bool na, .slice A n c, .bool nb, .slice B m e]) (.agg #[.bool b6, .slice A6 n6 c6, .bool d6, .slice B6 m6 e6]) q) [] ?_ ?_ ?_
          · intro i v w w' hi h hk
            match i, hi with
            | 0, _ | 1, _ | 3, _ | 4, _ | 5, _ | 6, _ | 7, _ | 8, _ | 9, _ | 10, _ | 12, _ | 13, _ | 14, _ | 15, _ | 16, _ | 17, _ | 18, _ | 19, _ | 20, _ | 21, _ | 22, _ | 23, _ | 24, _ | 25, _ | 26, _ | 27, _ => exact h
            | 2, _ => exact h.elim fun cs h => ⟨cs, h.1, h.2.keep hk⟩
            | 11, _ => exact RatRep.below h hk
            | i + 28, hi => exact absurd hi (by omega)
          · intro i hi vs wph3 hk3 hd
            have hkq := Keeps.trans' (w1 := W9.drew) (Below.drew (Below.refl _ W9)) hk3
            have qw := HBW.out.below hkq
            have qx := HBX.out.below hkq
            have qb := HBB.out.below hkq
            have qa := HBA.out.below hkq
            have qr := HBR.out.below hkq
            have x0 := qw.cell 0
            have x1 := qw.cell 1
            have x2 := qw.cell 2
            have x3 := qw.cell 3
            have x4 := qw.cell 4
            have y0 := qx.cell 0
            have y1 := qx.cell 1
            have y2 := qx.cell 2
            have y3 := qx.cell 3
            have z0 := qb.cell 0
            have z1 := qb.cell 1
            have z2 := qb.cell 2
            have z3 := qb.cell 3
            have a0 := qa.cell 0
            have a1 := qa.cell 1
            have a2 := qa.cell 2
            have a3 := qa.cell 3
            have r0 := qr.cell 0
            have r1 := qr.cell 1
            have r2 := qr.cell 2
            have r3 := qr.cell 3
            simp only [List.getElem?_cons_zero, List.getElem?_cons_succ] at x0 x1 x2 x3 x4 y0 y1 y2 y3 z0 z1 z2 z3 a0 a1 a2 a3 r0 r1 r2 r3
            match i, hi with
            | 0, _ =>
              refine step_yes (o := ⟨some 48, Op.load 30 (Operand.tmp 5), 30, "law.go:153", #[], none⟩) [] (by kernel_rfl) (by kernel_rfl) fun K hK => ?_
              simp only [frD] at hK ⊢
              refine ⟨by rfl, ?_⟩
              go_simp
              exact hK _ _ ⟨Below.refl _ _, rfl, by simp⟩
            | 1, _ =>
              refine step_yes (o := ⟨some 49, Op.load 44 (Operand.tmp 2), 44, "law.go:153", #[], none⟩) [] (by kernel_rfl) (by kernel_rfl) fun K hK => ?_
              simp only [frD] at hK ⊢
              refine ⟨by rfl, ?_⟩
              go_simp
              exact hK _ _ ⟨Below.refl _ _, rfl, by simp⟩
            | 2, _ =>
              have e1 : vs 1 = (.agg #[.bool na, .slice A n c, .bool nb, .slice B m e]) := hd 1 (List.contains_iff_mem.1 (by kernel_rfl))
              refine step_yes (o := ⟨some 50, Op.call { callee := Callee.value (Operand.func 19), args := #[Operand.tmp 49], argTypes := #[44] }, 30, "law.go:153", #[{ on := 1, ground := Ground.data }], none⟩) [(1, some 49)] (by kernel_rfl) (by kernel_rfl) fun K hK => ?_
              simp only [frD, e1] at hK ⊢
              refine ⟨by rfl, ?_⟩
              go_simp
              refine (rofRat_any (HXN.out.below hkq) HSQ.out).mono ?_
              rintro e w5 ⟨cs, rfl, hv, hk4⟩
              exact hK _ _ ⟨hk4, ⟨cs, rfl, hv⟩, by simp⟩
            | 3, _ =>
              have e0 : vs 0 = (.agg #[.int .i64 k5, .bool z5, .slice A5 m5 c5, .slice B5 l5 e5, .slice D5 j5 f5]) := hd 0 (List.contains_iff_mem.1 (by kernel_rfl))
              have h2 : ∃ cs : List Value, (vs 2) = .agg cs.toArray ∧ ValC anyB 70000 wph3 (ratT q) cs := hd 2 (List.contains_iff_mem.1 (by kernel_rfl))
              obtain ⟨cs9, e2, hv9⟩ := h2
              refine step_yes (o := ⟨some 51, Op.call { callee := Callee.value (Operand.func 9), args := #[Operand.tmp 48, Operand.tmp 50], argTypes := #[30, 30] }, 4, "law.go:153", #[{ on := 0, ground := Ground.data }, { on := 2, ground := Ground.data }, { on := 2, ground := Ground.chain }], none⟩) [(0, some 48), (2, some 50)] (by kernel_rfl) (by kernel_rfl) fun K hK => ?_
              simp only [frD, e0, e2] at hK ⊢
              refine ⟨by rfl, ?_⟩
              go_simp
              refine (requal_same (N := 70000) (by decide) (HVW.out.keep hkq) hv9).mono ?_
              rintro e wph4 ⟨rfl, hk4⟩
              exact hK _ _ ⟨hk4, rfl, by simp⟩
            | 4, _ =>
              have e3 : vs 3 = .bool true := hd 3 (List.contains_iff_mem.1 (by kernel_rfl))
              refine step_yes (o := ⟨some 52, Op.move (Operand.tmp 51), 4, "law.go:153", #[{ on := 3, ground := Ground.data }, { on := 3, ground := Ground.chain }], none⟩) [(3, some 51)] (by kernel_rfl) (by kernel_rfl) fun K hK => ?_
              simp only [frD, e3] at hK ⊢
              refine ⟨by rfl, ?_⟩
              go_simp
              exact hK _ _ ⟨Below.refl _ _, rfl, by simp⟩
            | 5, _ =>
              have e4 : vs 4 = .bool true := hd 4 (List.contains_iff_mem.1 (by kernel_rfl))
              refine step_yes (o := ⟨some 53, Op.move (Operand.tmp 7), 31, "law.go:153", #[{ on := 4, ground := Ground.guard }], some (4, true)⟩) [(4, some 52)] (by kernel_rfl) (by kernel_rfl) fun K hK => ?_
              simp only [frD, e4] at hK ⊢
              refine ⟨by rfl, ?_⟩
              go_simp
              exact hK _ _ ⟨Below.refl _ _, rfl, by simp⟩
            | 6, _ =>
              have e4 : vs 4 = .bool true := hd 4 (List.contains_iff_mem.1 (by kernel_rfl))
              have e5 : vs 5 = .int .i64 0 := hd 5 (List.contains_iff_mem.1 (by kernel_rfl))
              refine step_yes (o := ⟨some 54, Op.binOp BinOp.eql 31 (Operand.tmp 53) (Operand.const (Value.int IntKind.i64 0)) 31, 4, "law.go:153", #[{ on := 5, ground := Ground.data }, { on := 4, ground := Ground.guard }], some (4, true)⟩) [(4, some 52), (5, some 53)] (by kernel_rfl) (by kernel_rfl) fun K hK => ?_
              simp only [frD, e4, e5] at hK ⊢
              refine ⟨by rfl, ?_⟩
              go_simp
              exact hK _ _ ⟨Below.refl _ _, rfl, by simp⟩
            | 7, _ =>
              have e4 : vs 4 = .bool true := hd 4 (List.contains_iff_mem.1 (by kernel_rfl))
              have e6 : vs 6 = .bool true := hd 6 (List.contains_iff_mem.1 (by kernel_rfl))
              refine step_yes (o := ⟨some 55, Op.pick (Operand.tmp 52) (Operand.tmp 54) (Operand.const (Value.bool false)), 4, "law.go:153", #[{ on := 4, ground := Ground.data }, { on := 6, ground := Ground.data }], none⟩) [(4, some 52), (6, some 54)] (by kernel_rfl) (by kernel_rfl) fun K hK => ?_
              simp only [frD, e4, e6] at hK ⊢
              refine ⟨by rfl, ?_⟩
              go_simp
              exact hK _ _ ⟨Below.refl _ _, rfl, by simp⟩
            | 8, _ =>
              have e4 : vs 4 = .bool true := hd 4 (List.contains_iff_mem.1 (by kernel_rfl))
              have e7 : vs 7 = .bool true := hd 7 (List.contains_iff_mem.1 (by kernel_rfl))
              refine step_yes (o := ⟨some 56, Op.move (Operand.tmp 55), 4, "law.go:153", #[{ on := 7, ground := Ground.data }, { on := 4, ground := Ground.chain }], none⟩) [(4, some 52), (7, some 55)] (by kernel_rfl) (by kernel_rfl) fun K hK => ?_
              simp only [frD, e4, e7] at hK ⊢
              refine ⟨by rfl, ?_⟩
              go_simp
              exact hK _ _ ⟨Below.refl _ _, rfl, by simp⟩
            | 9, _ =>
              have e8 : vs 8 = .bool true := hd 8 (List.contains_iff_mem.1 (by kernel_rfl))
              refine step_yes (o := ⟨some 57, Op.load 44 (Operand.tmp 6), 44, "law.go:153", #[{ on := 8, ground := Ground.guard }], some (8, true)⟩) [(8, some 56)] (by kernel_rfl) (by kernel_rfl) fun K hK => ?_
              simp only [frD, e8] at hK ⊢
              refine ⟨by rfl, ?_⟩
              go_simp
              exact hK _ _ ⟨Below.refl _ _, rfl, by simp⟩
            | 10, _ =>
              have e8 : vs 8 = .bool true := hd 8 (List.contains_iff_mem.1 (by kernel_rfl))
              refine step_yes (o := ⟨some 58, Op.load 44 (Operand.tmp 2), 44, "law.go:153", #[{ on := 8, ground := Ground.guard }], some (8, true)⟩) [(8, some 56)] (by kernel_rfl) (by kernel_rfl) fun K hK => ?_
              simp only [frD, e8] at hK ⊢
              refine ⟨by rfl, ?_⟩
              go_simp
              exact hK _ _ ⟨Below.refl _ _, rfl, by simp⟩
            | 11, _ =>
              have e8 : vs 8 = .bool true := hd 8 (List.contains_iff_mem.1 (by kernel_rfl))
              have e10 : vs 10 = (.agg #[.bool na, .slice A n c, .bool nb, .slice B m e]) := hd 10 (List.contains_iff_mem.1 (by kernel_rfl))
              refine step_yes (o := ⟨some 59, Op.call { callee := Callee.value (Operand.func 21), args := #[Operand.tmp 58], argTypes := #[44] }, 44, "law.go:153", #[{ on := 10, ground := Ground.data }, { on := 8, ground := Ground.chain }, { on := 8, ground := Ground.guard }], some (8, true)⟩) [(8, some 56), (10, some 58)] (by kernel_rfl) (by kernel_rfl) fun K hK => ?_
              simp only [frD, e8, e10] at hK ⊢
              refine ⟨by rfl, ?_⟩
              go_simp
              refine (gvalue_num (HXN.out.below hkq)).mono ?_
              rintro e w5 ⟨U, rfl, hr, hk4⟩
              exact hK _ _ ⟨hk4, hr, by simp⟩
            | 12, _ =>
              have e8 : vs 8 = .bool true := hd 8 (List.contains_iff_mem.1 (by kernel_rfl))
              have e9 : vs 9 = (.agg #[.bool b6, .slice A6 n6 c6, .bool d6, .slice B6 m6 e6]) := hd 9 (List.contains_iff_mem.1 (by kernel_rfl))
              have h11 : RatRep wph3 (vs 11) q := hd 11 (List.contains_iff_mem.1 (by kernel_rfl))
              refine step_yes (o := ⟨some 60, Op.call { callee := Callee.value (Operand.func 20), args := #[Operand.tmp 57, Operand.tmp 59], argTypes := #[44, 44] }, 4, "law.go:153", #[{ on := 9, ground := Ground.data }, { on := 11, ground := Ground.data }, { on := 11, ground := Ground.chain }, { on := 8, ground := Ground.guard }], some (8, true)⟩) [(8, some 56), (9, some 57), (11, some 59)] (by kernel_rfl) (by kernel_rfl) fun K hK => ?_
              simp only [frD, e8, e9] at hK ⊢
              refine ⟨by rfl, ?_⟩
              go_simp
              refine (gsameRat_any (HRB.out.below hkq) h11 HS2.out).mono ?_
              rintro e wph4 ⟨rfl, hk4⟩
              exact hK _ _ ⟨hk4, rfl, by simp⟩
            | 13, _ =>
              have e8 : vs 8 = .bool true := hd 8 (List.contains_iff_mem.1 (by kernel_rfl))
              have e12 : vs 12 = .bool true := hd 12 (List.contains_iff_mem.1 (by kernel_rfl))
              refine step_yes (o := ⟨some 61, Op.pick (Operand.tmp 56) (Operand.tmp 60) (Operand.const (Value.bool false)), 4, "law.go:153", #[{ on := 8, ground := Ground.data }, { on := 12, ground := Ground.data }], none⟩) [(8, some 56), (12, some 60)] (by kernel_rfl) (by kernel_rfl) fun K hK => ?_
              simp only [frD, e8, e12] at hK ⊢
              refine ⟨by rfl, ?_⟩
              go_simp
              exact hK _ _ ⟨Below.refl _ _, rfl, by simp⟩
            | 14, _ =>
              have e12 : vs 12 = .bool true := hd 12 (List.contains_iff_mem.1 (by kernel_rfl))
              have e13 : vs 13 = .bool true := hd 13 (List.contains_iff_mem.1 (by kernel_rfl))
              refine step_yes (o := ⟨some 62, Op.move (Operand.tmp 61), 4, "law.go:153", #[{ on := 13, ground := Ground.data }, { on := 12, ground := Ground.chain }], none⟩) [(12, some 60), (13, some 61)] (by kernel_rfl) (by kernel_rfl) fun K hK => ?_
              simp only [frD, e12, e13] at hK ⊢
              refine ⟨by rfl, ?_⟩
              go_simp
              exact hK _ _ ⟨Below.refl _ _, rfl, by simp⟩
            | 15, _ =>
              have e14 : vs 14 = .bool true := hd 14 (List.contains_iff_mem.1 (by kernel_rfl))
              refine step_yes (o := ⟨some 63, Op.move (Operand.tmp 9), 31, "law.go:153", #[{ on := 14, ground := Ground.guard }], some (14, true)⟩) [(14, some 62)] (by kernel_rfl) (by kernel_rfl) fun K hK => ?_
              simp only [frD, e14] at hK ⊢
              refine ⟨by rfl, ?_⟩
              go_simp
              exact hK _ _ ⟨Below.refl _ _, rfl, by simp⟩
            | 16, _ =>
              have e14 : vs 14 = .bool true := hd 14 (List.contains_iff_mem.1 (by kernel_rfl))
              refine step_yes (o := ⟨some 64, Op.move (Operand.tmp 11), 31, "law.go:153", #[{ on := 14, ground := Ground.guard }], some (14, true)⟩) [(14, some 62)] (by kernel_rfl) (by kernel_rfl) fun K hK => ?_
              simp only [frD, e14] at hK ⊢
              refine ⟨by rfl, ?_⟩
              go_simp
              exact hK _ _ ⟨Below.refl _ _, rfl, by simp⟩
            | 17, _ =>
              have e14 : vs 14 = .bool true := hd 14 (List.contains_iff_mem.1 (by kernel_rfl))
              have e15 : vs 15 = .int .i64 1 := hd 15 (List.contains_iff_mem.1 (by kernel_rfl))
              have e16 : vs 16 = .int .i64 1 := hd 16 (List.contains_iff_mem.1 (by kernel_rfl))
              refine step_yes (o := ⟨some 65, Op.binOp BinOp.eql 31 (Operand.tmp 63) (Operand.tmp 64) 31, 4, "law.go:153", #[{ on := 15, ground := Ground.data }, { on := 16, ground := Ground.data }, { on := 14, ground := Ground.guard }], some (14, true)⟩) [(14, some 62), (15, some 63), (16, some 64)] (by kernel_rfl) (by kernel_rfl) fun K hK => ?_
              simp only [frD, e14, e15, e16] at hK ⊢
              refine ⟨by rfl, ?_⟩
              go_simp
              exact hK _ _ ⟨Below.refl _ _, rfl, by simp⟩
            | 18, _ =>
              have e14 : vs 14 = .bool true := hd 14 (List.contains_iff_mem.1 (by kernel_rfl))
              have e17 : vs 17 = .bool true := hd 17 (List.contains_iff_mem.1 (by kernel_rfl))
              refine step_yes (o := ⟨some 66, Op.pick (Operand.tmp 62) (Operand.tmp 65) (Operand.const (Value.bool false)), 4, "law.go:153", #[{ on := 14, ground := Ground.data }, { on := 17, ground := Ground.data }], none⟩) [(14, some 62), (17, some 65)] (by kernel_rfl) (by kernel_rfl) fun K hK => ?_
              simp only [frD, e14, e17] at hK ⊢
              refine ⟨by rfl, ?_⟩
              go_simp
              exact hK _ _ ⟨Below.refl _ _, rfl, by simp⟩
            | 19, _ =>
              have e14 : vs 14 = .bool true := hd 14 (List.contains_iff_mem.1 (by kernel_rfl))
              have e18 : vs 18 = .bool true := hd 18 (List.contains_iff_mem.1 (by kernel_rfl))
              refine step_yes (o := ⟨some 67, Op.move (Operand.tmp 66), 4, "law.go:153", #[{ on := 18, ground := Ground.data }, { on := 14, ground := Ground.chain }], none⟩) [(14, some 62), (18, some 66)] (by kernel_rfl) (by kernel_rfl) fun K hK => ?_
              simp only [frD, e14, e18] at hK ⊢
              refine ⟨by rfl, ?_⟩
              go_simp
              exact hK _ _ ⟨Below.refl _ _, rfl, by simp⟩
            | 20, _ =>
              have e19 : vs 19 = .bool true := hd 19 (List.contains_iff_mem.1 (by kernel_rfl))
              refine step_yes (o := ⟨some 68, Op.move (Operand.tmp 9), 31, "law.go:153", #[{ on := 19, ground := Ground.guard }], some (19, true)⟩) [(19, some 67)] (by kernel_rfl) (by kernel_rfl) fun K hK => ?_
              simp only [frD, e19] at hK ⊢
              refine ⟨by rfl, ?_⟩
              go_simp
              exact hK _ _ ⟨Below.refl _ _, rfl, by simp⟩
            | 21, _ =>
              have e19 : vs 19 = .bool true := hd 19 (List.contains_iff_mem.1 (by kernel_rfl))
              have e20 : vs 20 = .int .i64 1 := hd 20 (List.contains_iff_mem.1 (by kernel_rfl))
              refine step_yes (o := ⟨some 69, Op.binOp BinOp.neq 31 (Operand.tmp 68) (Operand.const (Value.int IntKind.i64 0)) 31, 4, "law.go:153", #[{ on := 20, ground := Ground.data }, { on := 19, ground := Ground.guard }], some (19, true)⟩) [(19, some 67), (20, some 68)] (by kernel_rfl) (by kernel_rfl) fun K hK => ?_
              simp only [frD, e19, e20] at hK ⊢
              refine ⟨by rfl, ?_⟩
              go_simp
              exact hK _ _ ⟨Below.refl _ _, rfl, by simp⟩
            | 22, _ =>
              have e19 : vs 19 = .bool true := hd 19 (List.contains_iff_mem.1 (by kernel_rfl))
              have e21 : vs 21 = .bool true := hd 21 (List.contains_iff_mem.1 (by kernel_rfl))
              refine step_yes (o := ⟨some 70, Op.move (Operand.tmp 69), 4, "law.go:153", #[{ on := 21, ground := Ground.data }, { on := 19, ground := Ground.chain }, { on := 19, ground := Ground.guard }], some (19, true)⟩) [(19, some 67), (21, some 69)] (by kernel_rfl) (by kernel_rfl) fun K hK => ?_
              simp only [frD, e19, e21] at hK ⊢
              refine ⟨by rfl, ?_⟩
              go_simp
              exact hK _ _ ⟨Below.refl _ _, rfl, by simp⟩
            | 23, _ =>
              have e22 : vs 22 = .bool true := hd 22 (List.contains_iff_mem.1 (by kernel_rfl))
              refine step_no (o := ⟨some 71, Op.load 44 (Operand.tmp 8), 44, "law.go:153", #[{ on := 22, ground := Ground.guard }], some (22, false)⟩) [(22, some 70)] (by kernel_rfl) (by kernel_rfl) (by simp only [frD, e22]; rfl) rfl (by simp)
            | 24, _ =>
              have e22 : vs 22 = .bool true := hd 22 (List.contains_iff_mem.1 (by kernel_rfl))
              refine step_no (o := ⟨some 72, Op.load 44 (Operand.tmp 10), 44, "law.go:153", #[{ on := 22, ground := Ground.guard }], some (22, false)⟩) [(22, some 70)] (by kernel_rfl) (by kernel_rfl) (by simp only [frD, e22]; rfl) rfl (by simp)
            | 25, _ =>
              have e22 : vs 22 = .bool true := hd 22 (List.contains_iff_mem.1 (by kernel_rfl))
              have e23 : vs 23 = undef := hd 23 (List.contains_iff_mem.1 (by kernel_rfl))
              have e24 : vs 24 = undef := hd 24 (List.contains_iff_mem.1 (by kernel_rfl))
              refine step_no (o := ⟨some 73, Op.call { callee := Callee.value (Operand.func 20), args := #[Operand.tmp 71, Operand.tmp 72], argTypes := #[44, 44] }, 4, "law.go:153", #[{ on := 23, ground := Ground.data }, { on := 24, ground := Ground.data }, { on := 22, ground := Ground.chain }, { on := 22, ground := Ground.guard }], some (22, false)⟩) [(22, some 70), (23, some 71), (24, some 72)] (by kernel_rfl) (by kernel_rfl) (by simp only [frD, e22, e23, e24]; rfl) rfl (by simp)
            | 26, _ =>
              have e19 : vs 19 = .bool true := hd 19 (List.contains_iff_mem.1 (by kernel_rfl))
              have e22 : vs 22 = .bool true := hd 22 (List.contains_iff_mem.1 (by kernel_rfl))
              have e25 : vs 25 = undef := hd 25 (List.contains_iff_mem.1 (by kernel_rfl))
              refine step_yes (o := ⟨some 74, Op.pick (Operand.tmp 70) (Operand.const (Value.bool true)) (Operand.tmp 73), 4, "law.go:153", #[{ on := 22, ground := Ground.data }, { on := 25, ground := Ground.data }, { on := 19, ground := Ground.guard }], some (19, true)⟩) [(19, some 67), (22, some 70), (25, some 73)] (by kernel_rfl) (by kernel_rfl) fun K hK => ?_
              simp only [frD, e19, e22, e25] at hK ⊢
              refine ⟨by rfl, ?_⟩
              go_simp
              exact hK _ _ ⟨Below.refl _ _, rfl, by simp⟩
            | 27, _ =>
              have e19 : vs 19 = .bool true := hd 19 (List.contains_iff_mem.1 (by kernel_rfl))
              have e26 : vs 26 = .bool true := hd 26 (List.contains_iff_mem.1 (by kernel_rfl))
              refine step_yes (o := ⟨some 75, Op.pick (Operand.tmp 67) (Operand.tmp 74) (Operand.const (Value.bool false)), 4, "law.go:153", #[{ on := 19, ground := Ground.data }, { on := 26, ground := Ground.data }], none⟩) [(19, some 67), (26, some 74)] (by kernel_rfl) (by kernel_rfl) fun K hK => ?_
              simp only [frD, e19, e26] at hK ⊢
              refine ⟨by rfl, ?_⟩
              go_simp
              exact hK _ _ ⟨Below.refl _ _, rfl, by simp⟩
            | i + 28, hi => exact absurd hi (by omega)
          · intro vs wph3 hk3 hΦ _
            simp only [List.drop_succ_cons, List.drop_zero]
            rw [fr_frD, show (List.range 28).map _ = [(0, some 48), (1, some 49), (2, some 50), (3, some 51), (4, some 52), (5, some 53), (6, some 54), (7, some 55), (8, some 56), (9, some 57), (10, some 58), (11, some 59), (12, some 60), (13, some 61), (14, some 62), (15, some 63), (16, some 64), (17, some 65), (18, some 66), (19, some 67), (20, some 68), (21, some 69), (22, some 70), (23, some 71), (24, some 72), (25, some 73), (26, some 74), (27, some 75)] by kernel_rfl]
            have ph0 := hΦ 0 (by omega)
            have ph1 := hΦ 1 (by omega)
            have ph2 := hΦ 2 (by omega)
            have ph3 := hΦ 3 (by omega)
            have ph4 := hΦ 4 (by omega)
            have ph5 := hΦ 5 (by omega)
            have ph6 := hΦ 6 (by omega)
            have ph7 := hΦ 7 (by omega)
            have ph8 := hΦ 8 (by omega)
            have ph9 := hΦ 9 (by omega)
            have ph10 := hΦ 10 (by omega)
            have ph11 := hΦ 11 (by omega)
            have ph12 := hΦ 12 (by omega)
            have ph13 := hΦ 13 (by omega)
            have ph14 := hΦ 14 (by omega)
            have ph15 := hΦ 15 (by omega)
            have ph16 := hΦ 16 (by omega)
            have ph17 := hΦ 17 (by omega)
            have ph18 := hΦ 18 (by omega)
            have ph19 := hΦ 19 (by omega)
            have ph20 := hΦ 20 (by omega)
            have ph21 := hΦ 21 (by omega)
            have ph22 := hΦ 22 (by omega)
            have ph23 := hΦ 23 (by omega)
            have ph24 := hΦ 24 (by omega)
            have ph25 := hΦ 25 (by omega)
            have ph26 := hΦ 26 (by omega)
            have ph27 := hΦ 27 (by omega)
            simp only [ra9bΦ] at ph0 ph1 ph2 ph3 ph4 ph5 ph6 ph7 ph8 ph9 ph10 ph11 ph12 ph13 ph14 ph15 ph16 ph17 ph18 ph19 ph20 ph21 ph22 ph23 ph24 ph25 ph26 ph27
            clear hΦ
            simp only [frD, ph0, ph1, ph3, ph4, ph5, ph6, ph7, ph8, ph9, ph10, ph12, ph13, ph14, ph15, ph16, ph17, ph18, ph19, ph20, ph21, ph22, ph23, ph24, ph25, ph26, ph27]
            simp only [Act.put, List.setIfInBounds_toArray, List.set_cons_zero, List.set_cons_succ]
            clear ph0
            clear ph1
            generalize vs 2 = U2 at ph2 ⊢
            clear ph3
            clear ph4
            clear ph5
            clear ph6
            clear ph7
            clear ph8
            clear ph9
            clear ph10
            generalize vs 11 = U11 at ph11 ⊢
            clear ph12
            clear ph13
            clear ph14
            clear ph15
            clear ph16
            clear ph17
            clear ph18
            clear ph19
            clear ph20
            clear ph21
            clear ph22
            clear ph23
            clear ph24
            clear ph25
            clear ph26
            clear ph27
            go_wp2
            go_ret
            exact ⟨by first | done | rfl | simp, (hk1.trans' hk19).trans' (Keeps.trans' (w1 := W9.drew) (Below.drew (Below.refl _ W9)) hk3)⟩
end Go.Proofs.YtomjnjpehokjbaaGreatDoor
