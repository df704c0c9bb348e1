/- CodecInts: the walk. -/
import Derived.Test.YtomjnjpehokjbaaGreatDoorMgROfI
import Derived.Test.YtomjnjpehokjbaaGreatDoorMgREq
import Derived.Test.YtomjnjpehokjbaaGreatDoorMgRefP
import Derived.Test.YtomjnjpehokjbaaGreatDoorKnoW
import Derived.Test.YtomjnjpehokjbaaGreatDoorMgRegion
namespace Go.Proofs.YtomjnjpehokjbaaGreatDoor
open Go.RowKit Go.Shelf
theorem equalI_same {w : World} {A B : Option Addr} {xs : List Int} {n c d : Nat} (hA : IRow w A xs) (hB : IRow w B xs) (hn : n = xs.length) (hl : xs.length ≤ maxLen) :
    Calls Tryz.prog 15 #[.slice A n c, .slice B n d] w fun e w' => e = .returned (.bool true) ∧ Keeps w w' := by
  have h := equalI_any (c := c) (d := d) hA hB hn hn hl hl
  rwa [decide_eq_true rfl] at h
theorem toIL_len (t : Tr) : (toIL t).length ≤ wtT t := by
  obtain ⟨k, n, g, x, l⟩ := t
  have h := sum_len (l := l)
  rw [wtT_mk]
  unfold toIL
  split
  · simp only [Tr.ls, List.length_map]
    omega
  · simp
def in9Φ (Vw Vl Vt Va Vb : Value) (q : Int) (T : Tr) : Nat → Value → World → Prop
  | 0, v, _ => v = Vw
  | 1, v, _ => v = Vl
  | 2, v, w => ∃ cs : List Value, v = .agg cs.toArray ∧ ValC anyB 70000 w T cs
  | 3, v, _ => v = .bool true
  | 4, v, _ => v = .bool true
  | 5, v, _ => v = .int .i64 0
  | 6, v, _ => v = .bool true
  | 7, v, _ => v = .bool true
  | 8, v, _ => v = .bool true
  | 9, v, _ => v = Vt
  | 10, v, _ => v = Vl
  | 11, v, _ => v = .bool true
  | 12, v, _ => v = .bool true
  | 13, v, _ => v = .bool true
  | 14, v, _ => v = .int .i64 q
  | 15, v, _ => v = .int .i64 q
  | 16, v, _ => v = .bool true
  | 17, v, _ => v = .bool true
  | 18, v, _ => v = .bool true
  | 19, v, _ => v = Va
  | 20, v, _ => v = Vb
  | 21, v, _ => v = .bool true
  | 22, v, _ => v = .bool true
  | _, _, _ => True
set_option maxRecDepth 100000 in
set_option maxHeartbeats 4000000 in
theorem codecInts_any {w : World} {A : Option Addr} {c : Nat} {l : List Int} (hr : IRow w A l) (hl : l.length ≤ maxLen) (hz : ∀ x ∈ l, -9223372036854775808 ≤ x ∧ x ≤ 9223372036854775807) {t : Tr} {cs : List Value} {N : Nat} (hv : ValC anyB N w t cs) (hN : N ≤ maxLen) (he : EnvB w.heap.size w) :
    Calls Tryz.prog 4 #[.slice A l.length c, .agg cs.toArray] w fun e w' => e = .returned (.bool true) ∧ Keeps w w' := by
  obtain ⟨k, n, A1, n1, c1, B, n2, c2, D, n3, c3, rfl⟩ := hv.form
  obtain ⟨W1, hW1⟩ : ∃ W1, w.alloc (.cells #[.int .i64 k, .bool n, .slice A1 n1 c1, .slice B n2 c2, .slice D n3 c3] 30) = W1 := ⟨_, rfl⟩
  have hk1 : Keeps w W1 := hW1 ▸ box2 w _
  have q1 : Own W1 w.heap.size 30 [.int .i64 k, .bool n, .slice A1 n1 c1, .slice B n2 c2, .slice D n3 c3] := hW1 ▸ Own.new w _ _
  have hlI : (l.length : Int) ≤ 9223372036854775807 := by unfold maxLen at hl; omega
  have HV := Lib.hid (hv.keep hk1)
  have HR := Lib.hid (hr.below hk1)
  have HZ := Lib.hid hz
  have HLM := Lib.hid hl
  have HEN := Lib.hid ((EnvB.keep he hk1).mono hk1.size)
  have HK := Lib.hid (known_any HEN.out)
  have HNN := Lib.hid hN
  have HQ := Lib.hid q1
  have x0 := q1.cell 0
  have x1 := q1.cell 1
  have x2 := q1.cell 2
  have x3 := q1.cell 3
  have x4 := q1.cell 4
  simp only [List.getElem?_cons_zero, List.getElem?_cons_succ] at x0 x1 x2 x3 x4
  clear q1 hv he hN hr hz hl
  go_enter Tryz.func4, Tryz.ntmps4
  go_wp2_with fail
  refine HK.out.mono ?_
  rintro e w2 ⟨rfl, hk2⟩
  by_cases h60 : 60 < l.length
  · have t1 : decide ((60 : Int) < (l.length : Int)) = true := decide_eq_true (by omega)
    clear h60
    go_wp2
    go_ret
    exact ⟨rfl, hk1.trans' hk2⟩
  · have t1 : decide ((60 : Int) < (l.length : Int)) = false := decide_eq_false (by omega)
    have HL60 : Hid (l.length ≤ 60) := Lib.hid (by omega)
    have HFW := Lib.hid (few_any HNN.out (HV.out.keep hk2))
    have r2 := HQ.out.below hk2
    clear h60
    clear x0 x1 x2 x3 x4
    have x0 := r2.cell 0
    have x1 := r2.cell 1
    have x2 := r2.cell 2
    have x3 := r2.cell 3
    have x4 := r2.cell 4
    simp only [List.getElem?_cons_zero, List.getElem?_cons_succ] at x0 x1 x2 x3 x4
    clear r2
    go_wp2_with fail
    refine HFW.out.mono ?_
    rintro e w3 ⟨⟨b, rfl, hb⟩, hk3⟩
    have hk13 := hk2.trans' hk3
    cases b with
    | false =>
      clear hb
      go_wp2
      go_ret
      exact ⟨rfl, hk1.trans' hk13⟩
    | true =>
      have HW := Lib.hid (hb rfl)
      clear hb
      have HV4 := Lib.hid ((HV.out.shrink HW.out).le (M := 800000) (by decide))
      have HOF := Lib.hid (ofInts_any (c := c) (HR.out.below hk13) HZ.out HL60.out)
      have r3 := HQ.out.below hk13
      clear x0 x1 x2 x3 x4
      have x0 := r3.cell 0
      have x1 := r3.cell 1
      have x2 := r3.cell 2
      have x3 := r3.cell 3
      have x4 := r3.cell 4
      simp only [List.getElem?_cons_zero, List.getElem?_cons_succ] at x0 x1 x2 x3 x4
      clear r3
      go_wp2_with fail
      refine HOF.out.mono ?_
      rintro e w4 ⟨cs4, rfl, hv4, hk4⟩
      obtain ⟨k5, z5, A5, m5, c5, B5, l5, e5, D5, j5, f5, rfl⟩ := hv4.form
      obtain ⟨W5, hW5⟩ : ∃ W5, w4.alloc (.cells #[.int .i64 k5, .bool z5, .slice A5 m5 c5, .slice B5 l5 e5, .slice D5 j5 f5] 30) = W5 := ⟨_, rfl⟩
      have hkb : Keeps w4 W5 := hW5 ▸ box2 w4 _
      have b5 : Own W5 w4.heap.size 30 [.int .i64 k5, .bool z5, .slice A5 m5 c5, .slice B5 l5 e5, .slice D5 j5 f5] := hW5 ▸ Own.new w4 _ _
      have hk15 := hk13.trans' (hk4.trans' hkb)
      have hv5 := hv4.keep hkb
      have HTI := Lib.hid (toInts_any (hv5.le (M := 800000) (by decide)))
      have hti : toIL (lstT (l.map intT)) = l := toIL_ints HZ.out
      have htc : toIC (lstT (l.map intT)) = 0 := toIC_ints HZ.out
      have HTIL := Lib.hid hti
      have HTIC := Lib.hid htc
      clear hti htc hv4
      have y0 := b5.cell 0
      have y1 := b5.cell 1
      have y2 := b5.cell 2
      have y3 := b5.cell 3
      have y4 := b5.cell 4
      simp only [List.getElem?_cons_zero, List.getElem?_cons_succ] at y0 y1 y2 y3 y4
      go_wp2_with fail
      refine HTI.out.mono ?_
      rintro e w6 ⟨At, ct, rfl, hit, hk6⟩
      rw [HTIL.out] at hit ⊢
      rw [HTIC.out]
      have hk16 := hk15.trans' hk6
      have HT6 := Lib.hid hit
      have HTV := Lib.hid (toInts_any (HV4.out.keep hk16))
      have r6 := HQ.out.below hk16
      clear hit y0 y1 y2 y3 y4
      clear x0 x1 x2 x3 x4
      have x0 := r6.cell 0
      have x1 := r6.cell 1
      have x2 := r6.cell 2
      have x3 := r6.cell 3
      have x4 := r6.cell 4
      simp only [List.getElem?_cons_zero, List.getElem?_cons_succ] at x0 x1 x2 x3 x4
      clear r6
      go_wp2_with fail
      refine HTV.out.mono ?_
      rintro e w7 ⟨Aa, ca, rfl, hia, hk7⟩
      have hk17 := hk16.trans' hk7
      have HA7 := Lib.hid hia
      have HRV := Lib.hid (rtoInts_any (HV4.out.keep hk17) (Nat.le_trans (depT_wt t) (by have := HW.out; omega)))
      have r7 := HQ.out.below hk17
      clear hia
      clear x0 x1 x2 x3 x4
      have x0 := r7.cell 0
      have x1 := r7.cell 1
      have x2 := r7.cell 2
      have x3 := r7.cell 3
      have x4 := r7.cell 4
      simp only [List.getElem?_cons_zero, List.getElem?_cons_succ] at x0 x1 x2 x3 x4
      clear r7
      obtain ⟨na, hna⟩ : ∃ na, (toIL t).length = na := ⟨_, rfl⟩
      have HNA := Lib.hid hna.symm
      have HLA : Hid ((toIL t).length ≤ maxLen) := Lib.hid (Nat.le_trans (toIL_len t) (Nat.le_trans HW.out (by decide)))
      obtain ⟨q, hq⟩ : ∃ q, toIC t = q := ⟨_, rfl⟩
      have HTQ := Lib.hid hq
      rw [hna, hq]
      clear hna hq
      go_wp2_with fail
      refine HRV.out.mono ?_
      rintro e w8 ⟨Ab, cb, rfl, hib, hk8⟩
      rw [← HNA.out, HTQ.out]
      have HB5 := Lib.hid (b5.below ((hk6.trans' hk7).trans' hk8))
      have HV5 := Lib.hid (hv5.keep ((hk6.trans' hk7).trans' hk8))
      have HT8 := Lib.hid (HT6.out.below (hk7.trans' hk8))
      have HA8 := Lib.hid (HA7.out.below hk8)
      have HB8 := Lib.hid hib
      have hk18 := hk17.trans' hk8
      have HR8 := Lib.hid (HR.out.below hk18)
      clear hib b5 hv5
      clear x0 x1 x2 x3 x4
      go_upto_region 9 with fail
      refine wp_region_steps (m := 23) rfl (by kernel_rfl) (in9Φ (.agg #[.int .i64 k5, .bool z5, .slice A5 m5 c5, .slice B5 l5 e5, .slice D5 j5 f5]) (.slice A l.length c) (.slice At l.length ct) (.slice Aa na ca) (.slice Ab na cb) q (lstT (l.map intT))) [] ?_ ?_ ?_
      · intro i v w w' hi h hk
        match i, hi with
        | 0, _ | 1, _ | 3, _ | 4, _ | 5, _ | 6, _ | 7, _ | 8, _ | 9, _ | 10, _ | 11, _ | 12, _ | 13, _ | 14, _ | 15, _ | 16, _ | 17, _ | 18, _ | 19, _ | 20, _ | 21, _ | 22, _ => exact h
        | 2, _ => exact h.elim fun cs h => ⟨cs, h.1, h.2.keep hk⟩
        | i + 23, hi => exact absurd hi (by omega)
      · intro i hi vs wph3 hk3 hd
        have hkq := Keeps.trans' (w1 := w8.drew) (Below.drew (Below.refl _ w8)) hk3
        have bb := HB5.out.below hkq
        have y0 := bb.cell 0
        have y1 := bb.cell 1
        have y2 := bb.cell 2
        have y3 := bb.cell 3
        have y4 := bb.cell 4
        simp only [List.getElem?_cons_zero, List.getElem?_cons_succ] at y0 y1 y2 y3 y4
        match i, hi with
        | 0, _ =>
          refine step_yes (o := ⟨some 39, Op.load 30 (Operand.tmp 5), 30, "law.go:138", #[], none⟩) [] (by kernel_rfl) (by kernel_rfl) fun K hK => ?_
          simp only [frD] at hK ⊢
          refine ⟨by rfl, ?_⟩
          go_simp
          exact hK _ _ ⟨Below.refl _ _, rfl, by simp⟩
        | 1, _ =>
          refine step_yes (o := ⟨some 40, Op.move (Operand.tmp 0), 36, "law.go:138", #[], none⟩) [] (by kernel_rfl) (by kernel_rfl) fun K hK => ?_
          simp only [frD] at hK ⊢
          refine ⟨by rfl, ?_⟩
          go_simp
          exact hK _ _ ⟨Below.refl _ _, rfl, by simp⟩
        | 2, _ =>
          have e1 : vs 1 = (.slice A l.length c) := hd 1 (List.contains_iff_mem.1 (by kernel_rfl))
          refine step_yes (o := ⟨some 41, Op.call { callee := Callee.value (Operand.func 14), args := #[Operand.tmp 40], argTypes := #[36] }, 30, "law.go:138", #[{ on := 1, ground := Ground.data }], none⟩) [(1, some 40)] (by kernel_rfl) (by kernel_rfl) fun K hK => ?_
          simp only [frD, e1] at hK ⊢
          refine ⟨by rfl, ?_⟩
          go_simp
          refine (rofInts_any (c := c) (HR8.out.below hkq) HZ.out HL60.out).mono ?_
          rintro e w5 ⟨cs, rfl, hv, hk4⟩
          exact hK _ _ ⟨hk4, ⟨cs, rfl, hv⟩, by simp⟩
        | 3, _ =>
          have e0 : vs 0 = (.agg #[.int .i64 k5, .bool z5, .slice A5 m5 c5, .slice B5 l5 e5, .slice D5 j5 f5]) := hd 0 (List.contains_iff_mem.1 (by kernel_rfl))
          have h2 : ∃ cs : List Value, (vs 2) = .agg cs.toArray ∧ ValC anyB 70000 wph3 (lstT (l.map intT)) cs := hd 2 (List.contains_iff_mem.1 (by kernel_rfl))
          obtain ⟨cs9, e2, hv9⟩ := h2
          refine step_yes (o := ⟨some 42, Op.call { callee := Callee.value (Operand.func 9), args := #[Operand.tmp 39, Operand.tmp 41], argTypes := #[30, 30] }, 4, "law.go:138", #[{ on := 0, ground := Ground.data }, { on := 2, ground := Ground.data }, { on := 2, ground := Ground.chain }], none⟩) [(0, some 39), (2, some 41)] (by kernel_rfl) (by kernel_rfl) fun K hK => ?_
          simp only [frD, e0, e2] at hK ⊢
          refine ⟨by rfl, ?_⟩
          go_simp
          refine (requal_same (N := 70000) (by decide) (HV5.out.keep hkq) hv9).mono ?_
          rintro e wph4 ⟨rfl, hk4⟩
          exact hK _ _ ⟨hk4, rfl, by simp⟩
        | 4, _ =>
          have e3 : vs 3 = .bool true := hd 3 (List.contains_iff_mem.1 (by kernel_rfl))
          refine step_yes (o := ⟨some 43, Op.move (Operand.tmp 42), 4, "law.go:138", #[{ on := 3, ground := Ground.data }, { on := 3, ground := Ground.chain }], none⟩) [(3, some 42)] (by kernel_rfl) (by kernel_rfl) fun K hK => ?_
          simp only [frD, e3] at hK ⊢
          refine ⟨by rfl, ?_⟩
          go_simp
          exact hK _ _ ⟨Below.refl _ _, rfl, by simp⟩
        | 5, _ =>
          have e4 : vs 4 = .bool true := hd 4 (List.contains_iff_mem.1 (by kernel_rfl))
          refine step_yes (o := ⟨some 44, Op.move (Operand.tmp 7), 31, "law.go:138", #[{ on := 4, ground := Ground.guard }], some (4, true)⟩) [(4, some 43)] (by kernel_rfl) (by kernel_rfl) fun K hK => ?_
          simp only [frD, e4] at hK ⊢
          refine ⟨by rfl, ?_⟩
          go_simp
          exact hK _ _ ⟨Below.refl _ _, rfl, by simp⟩
        | 6, _ =>
          have e4 : vs 4 = .bool true := hd 4 (List.contains_iff_mem.1 (by kernel_rfl))
          have e5 : vs 5 = .int .i64 0 := hd 5 (List.contains_iff_mem.1 (by kernel_rfl))
          refine step_yes (o := ⟨some 45, Op.binOp BinOp.eql 31 (Operand.tmp 44) (Operand.const (Value.int IntKind.i64 0)) 31, 4, "law.go:138", #[{ on := 5, ground := Ground.data }, { on := 4, ground := Ground.guard }], some (4, true)⟩) [(4, some 43), (5, some 44)] (by kernel_rfl) (by kernel_rfl) fun K hK => ?_
          simp only [frD, e4, e5] at hK ⊢
          refine ⟨by rfl, ?_⟩
          go_simp
          exact hK _ _ ⟨Below.refl _ _, rfl, by simp⟩
        | 7, _ =>
          have e4 : vs 4 = .bool true := hd 4 (List.contains_iff_mem.1 (by kernel_rfl))
          have e6 : vs 6 = .bool true := hd 6 (List.contains_iff_mem.1 (by kernel_rfl))
          refine step_yes (o := ⟨some 46, Op.pick (Operand.tmp 43) (Operand.tmp 45) (Operand.const (Value.bool false)), 4, "law.go:138", #[{ on := 4, ground := Ground.data }, { on := 6, ground := Ground.data }], none⟩) [(4, some 43), (6, some 45)] (by kernel_rfl) (by kernel_rfl) fun K hK => ?_
          simp only [frD, e4, e6] at hK ⊢
          refine ⟨by rfl, ?_⟩
          go_simp
          exact hK _ _ ⟨Below.refl _ _, rfl, by simp⟩
        | 8, _ =>
          have e4 : vs 4 = .bool true := hd 4 (List.contains_iff_mem.1 (by kernel_rfl))
          have e7 : vs 7 = .bool true := hd 7 (List.contains_iff_mem.1 (by kernel_rfl))
          refine step_yes (o := ⟨some 47, Op.move (Operand.tmp 46), 4, "law.go:138", #[{ on := 7, ground := Ground.data }, { on := 4, ground := Ground.chain }], none⟩) [(4, some 43), (7, some 46)] (by kernel_rfl) (by kernel_rfl) fun K hK => ?_
          simp only [frD, e4, e7] at hK ⊢
          refine ⟨by rfl, ?_⟩
          go_simp
          exact hK _ _ ⟨Below.refl _ _, rfl, by simp⟩
        | 9, _ =>
          have e8 : vs 8 = .bool true := hd 8 (List.contains_iff_mem.1 (by kernel_rfl))
          refine step_yes (o := ⟨some 48, Op.move (Operand.tmp 6), 36, "law.go:138", #[{ on := 8, ground := Ground.guard }], some (8, true)⟩) [(8, some 47)] (by kernel_rfl) (by kernel_rfl) fun K hK => ?_
          simp only [frD, e8] at hK ⊢
          refine ⟨by rfl, ?_⟩
          go_simp
          exact hK _ _ ⟨Below.refl _ _, rfl, by simp⟩
        | 10, _ =>
          have e8 : vs 8 = .bool true := hd 8 (List.contains_iff_mem.1 (by kernel_rfl))
          refine step_yes (o := ⟨some 49, Op.move (Operand.tmp 0), 36, "law.go:138", #[{ on := 8, ground := Ground.guard }], some (8, true)⟩) [(8, some 47)] (by kernel_rfl) (by kernel_rfl) fun K hK => ?_
          simp only [frD, e8] at hK ⊢
          refine ⟨by rfl, ?_⟩
          go_simp
          exact hK _ _ ⟨Below.refl _ _, rfl, by simp⟩
        | 11, _ =>
          have e8 : vs 8 = .bool true := hd 8 (List.contains_iff_mem.1 (by kernel_rfl))
          have e9 : vs 9 = (.slice At l.length ct) := hd 9 (List.contains_iff_mem.1 (by kernel_rfl))
          have e10 : vs 10 = (.slice A l.length c) := hd 10 (List.contains_iff_mem.1 (by kernel_rfl))
          refine step_yes (o := ⟨some 50, Op.call { callee := Callee.value (Operand.func 15), args := #[Operand.tmp 48, Operand.tmp 49], argTypes := #[36, 36] }, 4, "law.go:138", #[{ on := 9, ground := Ground.data }, { on := 10, ground := Ground.data }, { on := 8, ground := Ground.chain }, { on := 8, ground := Ground.guard }], some (8, true)⟩) [(8, some 47), (9, some 48), (10, some 49)] (by kernel_rfl) (by kernel_rfl) fun K hK => ?_
          simp only [frD, e8, e9, e10] at hK ⊢
          refine ⟨by rfl, ?_⟩
          go_simp
          refine (equalI_same (HT8.out.below hkq) (HR8.out.below hkq) rfl HLM.out).mono ?_
          rintro e wph4 ⟨rfl, hk4⟩
          exact hK _ _ ⟨hk4, rfl, by simp⟩
        | 12, _ =>
          have e8 : vs 8 = .bool true := hd 8 (List.contains_iff_mem.1 (by kernel_rfl))
          have e11 : vs 11 = .bool true := hd 11 (List.contains_iff_mem.1 (by kernel_rfl))
          refine step_yes (o := ⟨some 51, Op.pick (Operand.tmp 47) (Operand.tmp 50) (Operand.const (Value.bool false)), 4, "law.go:138", #[{ on := 8, ground := Ground.data }, { on := 11, ground := Ground.data }], none⟩) [(8, some 47), (11, some 50)] (by kernel_rfl) (by kernel_rfl) fun K hK => ?_
          simp only [frD, e8, e11] at hK ⊢
          refine ⟨by rfl, ?_⟩
          go_simp
          exact hK _ _ ⟨Below.refl _ _, rfl, by simp⟩
        | 13, _ =>
          have e11 : vs 11 = .bool true := hd 11 (List.contains_iff_mem.1 (by kernel_rfl))
          have e12 : vs 12 = .bool true := hd 12 (List.contains_iff_mem.1 (by kernel_rfl))
          refine step_yes (o := ⟨some 52, Op.move (Operand.tmp 51), 4, "law.go:138", #[{ on := 12, ground := Ground.data }, { on := 11, ground := Ground.chain }], none⟩) [(11, some 50), (12, some 51)] (by kernel_rfl) (by kernel_rfl) fun K hK => ?_
          simp only [frD, e11, e12] at hK ⊢
          refine ⟨by rfl, ?_⟩
          go_simp
          exact hK _ _ ⟨Below.refl _ _, rfl, by simp⟩
        | 14, _ =>
          have e13 : vs 13 = .bool true := hd 13 (List.contains_iff_mem.1 (by kernel_rfl))
          refine step_yes (o := ⟨some 53, Op.move (Operand.tmp 9), 31, "law.go:138", #[{ on := 13, ground := Ground.guard }], some (13, true)⟩) [(13, some 52)] (by kernel_rfl) (by kernel_rfl) fun K hK => ?_
          simp only [frD, e13] at hK ⊢
          refine ⟨by rfl, ?_⟩
          go_simp
          exact hK _ _ ⟨Below.refl _ _, rfl, by simp⟩
        | 15, _ =>
          have e13 : vs 13 = .bool true := hd 13 (List.contains_iff_mem.1 (by kernel_rfl))
          refine step_yes (o := ⟨some 54, Op.move (Operand.tmp 11), 31, "law.go:138", #[{ on := 13, ground := Ground.guard }], some (13, true)⟩) [(13, some 52)] (by kernel_rfl) (by kernel_rfl) fun K hK => ?_
          simp only [frD, e13] at hK ⊢
          refine ⟨by rfl, ?_⟩
          go_simp
          exact hK _ _ ⟨Below.refl _ _, rfl, by simp⟩
        | 16, _ =>
          have e13 : vs 13 = .bool true := hd 13 (List.contains_iff_mem.1 (by kernel_rfl))
          have e14 : vs 14 = .int .i64 q := hd 14 (List.contains_iff_mem.1 (by kernel_rfl))
          have e15 : vs 15 = .int .i64 q := hd 15 (List.contains_iff_mem.1 (by kernel_rfl))
          refine step_yes (o := ⟨some 55, Op.binOp BinOp.eql 31 (Operand.tmp 53) (Operand.tmp 54) 31, 4, "law.go:138", #[{ on := 14, ground := Ground.data }, { on := 15, ground := Ground.data }, { on := 13, ground := Ground.guard }], some (13, true)⟩) [(13, some 52), (14, some 53), (15, some 54)] (by kernel_rfl) (by kernel_rfl) fun K hK => ?_
          simp only [frD, e13, e14, e15] at hK ⊢
          refine ⟨by rfl, ?_⟩
          go_simp
          exact hK _ _ ⟨Below.refl _ _, rfl, by simp⟩
        | 17, _ =>
          have e13 : vs 13 = .bool true := hd 13 (List.contains_iff_mem.1 (by kernel_rfl))
          have e16 : vs 16 = .bool true := hd 16 (List.contains_iff_mem.1 (by kernel_rfl))
          refine step_yes (o := ⟨some 56, Op.pick (Operand.tmp 52) (Operand.tmp 55) (Operand.const (Value.bool false)), 4, "law.go:138", #[{ on := 13, ground := Ground.data }, { on := 16, ground := Ground.data }], none⟩) [(13, some 52), (16, some 55)] (by kernel_rfl) (by kernel_rfl) fun K hK => ?_
          simp only [frD, e13, e16] at hK ⊢
          refine ⟨by rfl, ?_⟩
          go_simp
          exact hK _ _ ⟨Below.refl _ _, rfl, by simp⟩
        | 18, _ =>
          have e13 : vs 13 = .bool true := hd 13 (List.contains_iff_mem.1 (by kernel_rfl))
          have e17 : vs 17 = .bool true := hd 17 (List.contains_iff_mem.1 (by kernel_rfl))
          refine step_yes (o := ⟨some 57, Op.move (Operand.tmp 56), 4, "law.go:138", #[{ on := 17, ground := Ground.data }, { on := 13, ground := Ground.chain }], none⟩) [(13, some 52), (17, some 56)] (by kernel_rfl) (by kernel_rfl) fun K hK => ?_
          simp only [frD, e13, e17] at hK ⊢
          refine ⟨by rfl, ?_⟩
          go_simp
          exact hK _ _ ⟨Below.refl _ _, rfl, by simp⟩
        | 19, _ =>
          have e18 : vs 18 = .bool true := hd 18 (List.contains_iff_mem.1 (by kernel_rfl))
          refine step_yes (o := ⟨some 58, Op.move (Operand.tmp 8), 36, "law.go:138", #[{ on := 18, ground := Ground.guard }], some (18, true)⟩) [(18, some 57)] (by kernel_rfl) (by kernel_rfl) fun K hK => ?_
          simp only [frD, e18] at hK ⊢
          refine ⟨by rfl, ?_⟩
          go_simp
          exact hK _ _ ⟨Below.refl _ _, rfl, by simp⟩
        | 20, _ =>
          have e18 : vs 18 = .bool true := hd 18 (List.contains_iff_mem.1 (by kernel_rfl))
          refine step_yes (o := ⟨some 59, Op.move (Operand.tmp 10), 36, "law.go:138", #[{ on := 18, ground := Ground.guard }], some (18, true)⟩) [(18, some 57)] (by kernel_rfl) (by kernel_rfl) fun K hK => ?_
          simp only [frD, e18] at hK ⊢
          refine ⟨by rfl, ?_⟩
          go_simp
          exact hK _ _ ⟨Below.refl _ _, rfl, by simp⟩
        | 21, _ =>
          have e18 : vs 18 = .bool true := hd 18 (List.contains_iff_mem.1 (by kernel_rfl))
          have e19 : vs 19 = (.slice Aa na ca) := hd 19 (List.contains_iff_mem.1 (by kernel_rfl))
          have e20 : vs 20 = (.slice Ab na cb) := hd 20 (List.contains_iff_mem.1 (by kernel_rfl))
          refine step_yes (o := ⟨some 60, Op.call { callee := Callee.value (Operand.func 15), args := #[Operand.tmp 58, Operand.tmp 59], argTypes := #[36, 36] }, 4, "law.go:138", #[{ on := 19, ground := Ground.data }, { on := 20, ground := Ground.data }, { on := 18, ground := Ground.chain }, { on := 18, ground := Ground.guard }], some (18, true)⟩) [(18, some 57), (19, some 58), (20, some 59)] (by kernel_rfl) (by kernel_rfl) fun K hK => ?_
          simp only [frD, e18, e19, e20] at hK ⊢
          refine ⟨by rfl, ?_⟩
          go_simp
          refine (equalI_same (HA8.out.below hkq) (HB8.out.below hkq) HNA.out HLA.out).mono ?_
          rintro e wph4 ⟨rfl, hk4⟩
          exact hK _ _ ⟨hk4, rfl, by simp⟩
        | 22, _ =>
          have e18 : vs 18 = .bool true := hd 18 (List.contains_iff_mem.1 (by kernel_rfl))
          have e21 : vs 21 = .bool true := hd 21 (List.contains_iff_mem.1 (by kernel_rfl))
          refine step_yes (o := ⟨some 61, Op.pick (Operand.tmp 57) (Operand.tmp 60) (Operand.const (Value.bool false)), 4, "law.go:138", #[{ on := 18, ground := Ground.data }, { on := 21, ground := Ground.data }], none⟩) [(18, some 57), (21, some 60)] (by kernel_rfl) (by kernel_rfl) fun K hK => ?_
          simp only [frD, e18, e21] at hK ⊢
          refine ⟨by rfl, ?_⟩
          go_simp
          exact hK _ _ ⟨Below.refl _ _, rfl, by simp⟩
        | i + 23, hi => exact absurd hi (by omega)
      · intro vs wph3 hk3 hΦ _
        simp only [List.drop_succ_cons, List.drop_zero]
        rw [fr_frD, show (List.range 23).map _ = [(0, some 39), (1, some 40), (2, some 41), (3, some 42), (4, some 43), (5, some 44), (6, some 45), (7, some 46), (8, some 47), (9, some 48), (10, some 49), (11, some 50), (12, some 51), (13, some 52), (14, some 53), (15, some 54), (16, some 55), (17, some 56), (18, some 57), (19, some 58), (20, some 59), (21, some 60), (22, some 61)] by kernel_rfl]
        have ph0 := hΦ 0 (by omega)
        have ph1 := hΦ 1 (by omega)
        have ph2 := hΦ 2 (by omega)
        have ph3 := hΦ 3 (by omega)
        have ph4 := hΦ 4 (by omega)
        have ph5 := hΦ 5 (by omega)
        have ph6 := hΦ 6 (by omega)
        have ph7 := hΦ 7 (by omega)
        have ph8 := hΦ 8 (by omega)
        have ph9 := hΦ 9 (by omega)
        have ph10 := hΦ 10 (by omega)
        have ph11 := hΦ 11 (by omega)
        have ph12 := hΦ 12 (by omega)
        have ph13 := hΦ 13 (by omega)
        have ph14 := hΦ 14 (by omega)
        have ph15 := hΦ 15 (by omega)
        have ph16 := hΦ 16 (by omega)
        have ph17 := hΦ 17 (by omega)
        have ph18 := hΦ 18 (by omega)
        have ph19 := hΦ 19 (by omega)
        have ph20 := hΦ 20 (by omega)
        have ph21 := hΦ 21 (by omega)
        have ph22 := hΦ 22 (by omega)
        simp only [in9Φ] at ph0 ph1 ph2 ph3 ph4 ph5 ph6 ph7 ph8 ph9 ph10 ph11 ph12 ph13 ph14 ph15 ph16 ph17 ph18 ph19 ph20 ph21 ph22
        clear hΦ
        simp only [frD, ph0, ph1, ph3, ph4, ph5, ph6, ph7, ph8, ph9, ph10, ph11, ph12, ph13, ph14, ph15, ph16, ph17, ph18, ph19, ph20, ph21, ph22]
        simp only [Act.put, List.setIfInBounds_toArray, List.set_cons_zero, List.set_cons_succ]
        clear ph0
        clear ph1
        generalize vs 2 = U2 at ph2 ⊢
        clear ph3
        clear ph4
        clear ph5
        clear ph6
        clear ph7
        clear ph8
        clear ph9
        clear ph10
        clear ph11
        clear ph12
        clear ph13
        clear ph14
        clear ph15
        clear ph16
        clear ph17
        clear ph18
        clear ph19
        clear ph20
        clear ph21
        clear ph22
        go_wp2
        go_ret
        exact ⟨by first | done | rfl | simp, (hk1.trans' hk18).trans' (Keeps.trans' (w1 := w8.drew) (Below.drew (Below.refl _ w8)) hk3)⟩
end Go.Proofs.YtomjnjpehokjbaaGreatDoor
