/- fiducialref12.ToRat: the walk. -/
import Derived.Test.YtomjnjpehokjbaaGreatDoorToR
import Derived.Test.YtomjnjpehokjbaaGreatDoorMgRefP
import Derived.Test.YtomjnjpehokjbaaGreatDoorMgRPower
namespace Go.Proofs.YtomjnjpehokjbaaGreatDoor
open Go.RowKit Go.Shelf
def rt3Φ (Ad P0 P1 P2 P3 : Addr) (Vl Va Vb Vr : Value) (kk : Nat) : Nat → Value → World → Prop
  | 0, v, _ => v = .pointer (some Ad)
  | 1, v, _ => v = Vl
  | 2, v, _ => v = .pointer (some P0)
  | 3, v, _ => v = .pointer (some P1)
  | 4, v, _ => v = Va
  | 5, v, _ => v = .pointer (some Ad)
  | 6, v, _ => v = Vl
  | 7, v, _ => v = .pointer (some P2)
  | 8, v, _ => v = .pointer (some P3)
  | 9, v, _ => v = Vb
  | 10, v, _ => v = Vr
  | 11, v, w => ∃ b, v = .pointer (some ⟨b, 0, none⟩) ∧ kk ≤ b ∧ Own w b 44 [.bool false, .slice none 0 0, .bool false, .slice none 0 0]
  | _, _, _ => True
/-- a list of two integers is not deep -/
theorem frm_two {t : Tr} (h : frmT t = true) (hk : (t.kind == 2) = true) : vldD 8 t = true ∨ ∀ a b, t.ls = [a, b] → ((a.kind == 0) && (b.kind == 0)) = false := by
  rw [vld_frm, h, Bool.true_and]
  by_cases hd : depT t ≤ 8
  · exact .inl (decide_eq_true hd)
  · refine .inr fun a b hl => ?_
    obtain ⟨k, n, g, x, l⟩ := t
    obtain ⟨k1, n1, g1, x1, l1⟩ := a
    obtain ⟨k2, n2, g2, x2, l2⟩ := b
    simp only [Tr.ls] at hl
    subst hl
    simp only [Tr.kind]
    cases h1 : (k1 == 0) with
    | false => rfl
    | true =>
      cases h2 : (k2 == 0) with
      | false => rfl
      | true =>
        exfalso
        apply hd
        have e1 : k1 = 0 := by simpa using h1
        have e2 : k2 = 0 := by simpa using h2
        subst e1 e2
        rw [depT_mk]
        split
        · simp [depT_mk]
        · omega
set_option maxRecDepth 100000 in
set_option maxHeartbeats 8000000 in
theorem rtoRat_any {t : Tr} {cs : List Value} {w : World} (hv : ValC anyB 70000 w t cs) : Calls Tryz.prog 18 #[.agg cs.toArray] w (ToRPost t w) := by
  have h0 : frmT t = false → (vldD 8 t && okR t) = false := fun h => by rw [vld_frm, h]; rfl
  have h1 : frmT t = true → (t.kind == 2) = true → vldD 8 t = true ∨ ∀ a b, t.ls = [a, b] → ((a.kind == 0) && (b.kind == 0)) = false := frm_two
  have HV0 := Lib.hid (fun W (hk : Keeps w W) => rformed_any (N := 70000) (by omega) t cs W (hv.keep hk))
  obtain ⟨k, n, g, x, l⟩ := t
  obtain ⟨A, n1, c1, B, n2, c2, L, c, rfl, ⟨hbg, hbx, hbl⟩, ⟨rfl, -⟩, ⟨rfl, -⟩, -, hE⟩ := hv.open_
  obtain ⟨W1, hW1⟩ : ∃ W1, (w.alloc (.cells #[.int .i64 k, .bool n, .slice A g.length c1, .slice B x.length c2, .slice L l.length c] 30)).alloc (.cells #[.bool false, .slice none 0 0, .bool false, .slice none 0 0] 44) = W1 := ⟨_, rfl⟩
  have hk1 : Keeps w W1 := hW1 ▸ keep2 w _ _
  have q1 : Own W1 w.heap.size 30 [.int .i64 k, .bool n, .slice A g.length c1, .slice B x.length c2, .slice L l.length c] := hW1 ▸ (Own.new w _ _).alloc _
  have p1 : Own W1 (w.heap.size + 1) 44 [.bool false, .slice none 0 0, .bool false, .slice none 0 0] := hW1 ▸ own2 w _ _ _
  have HV := Lib.hid (HV0.out W1 hk1)
  clear HV0
  have hlI : (l.length : Int) ≤ 70000 := by omega
  have hsz1 := p1.lt
  cases hq : frmT (.mk k n g x l) with
  | false =>
    have HN := Lib.hid (toRC_no (h0 hq))
    rw [hq] at HV
    clear hq
    have x0 := q1.cell 0
    have x1 := q1.cell 1
    have x2 := q1.cell 2
    have x3 := q1.cell 3
    have x4 := q1.cell 4
    simp only [List.getElem?_cons_zero, List.getElem?_cons_succ] at x0 x1 x2 x3 x4
    have z0 := p1.cell 0
    have z1 := p1.cell 1
    have z2 := p1.cell 2
    have z3 := p1.cell 3
    have f0 := p1.frozen 0
    have f1 := p1.frozen 1
    have f2 := p1.frozen 2
    have f3 := p1.frozen 3
    simp only [List.getElem?_cons_zero, List.getElem?_cons_succ] at z0 z1 z2 z3
    go_enter Tryz.func18, Tryz.ntmps18
    go_wp2_with fail
    refine HV.out.mono ?_
    rintro e w2 ⟨rfl, hk2⟩
    have hkw := hk1.trans' hk2
    have p2 := p1.below hk2
    clear z0 z1 z2 z3 f0 f1 f2 f3
    have z0 := p2.cell 0
    have z1 := p2.cell 1
    have z2 := p2.cell 2
    have z3 := p2.cell 3
    have f0 := p2.frozen 0
    have f1 := p2.frozen 1
    have f2 := p2.frozen 2
    have f3 := p2.frozen 3
    simp only [List.getElem?_cons_zero, List.getElem?_cons_succ] at z0 z1 z2 z3
    go_wp2
    have r5 := (p2).put4 (a := .bool false) (x := .slice none 0 0) (y := .bool false) (z := .slice none 0 0)
    have r0 := r5.cell 0
    have r1 := r5.cell 1
    have r2 := r5.cell 2
    have r3 := r5.cell 3
    simp only [List.getElem?_cons_zero, List.getElem?_cons_succ] at r0 r1 r2 r3
    refine bodyPost_ret (v := .tuple #[.agg #[.bool false, .slice none 0 0, .bool false, .slice none 0 0], .int .i64 1]) (by simp [results, Tryz.results18, go_sem, r0, r1, r2, r3]) rfl ?_
    exact toR_err HN.out (keeps4 hkw (by omega) _ _ _ _)
  | true =>
    rw [hq] at HV
    have HQ := Lib.hid hq
    clear hq
    cases hk : (k == 2) with
    | false =>
      have HN := Lib.hid (toRC_no (t := .mk k n g x l) (by rw [okR_kind hk, Bool.and_false]))
      have hk' : (k != 2) = true := by rw [bne, hk]; rfl
      clear hk
      have x0 := q1.cell 0
      have x1 := q1.cell 1
      have x2 := q1.cell 2
      have x3 := q1.cell 3
      have x4 := q1.cell 4
      simp only [List.getElem?_cons_zero, List.getElem?_cons_succ] at x0 x1 x2 x3 x4
      have z0 := p1.cell 0
      have z1 := p1.cell 1
      have z2 := p1.cell 2
      have z3 := p1.cell 3
      have f0 := p1.frozen 0
      have f1 := p1.frozen 1
      have f2 := p1.frozen 2
      have f3 := p1.frozen 3
      simp only [List.getElem?_cons_zero, List.getElem?_cons_succ] at z0 z1 z2 z3
      go_enter Tryz.func18, Tryz.ntmps18
      go_wp2_with fail
      refine HV.out.mono ?_
      rintro e w2 ⟨rfl, hk2⟩
      have hkw := hk1.trans' hk2
      have p2 := p1.below hk2
      have q2 := q1.below hk2
      clear z0 z1 z2 z3 f0 f1 f2 f3
      have z0 := p2.cell 0
      have z1 := p2.cell 1
      have z2 := p2.cell 2
      have z3 := p2.cell 3
      have f0 := p2.frozen 0
      have f1 := p2.frozen 1
      have f2 := p2.frozen 2
      have f3 := p2.frozen 3
      simp only [List.getElem?_cons_zero, List.getElem?_cons_succ] at z0 z1 z2 z3
      clear x0 x1 x2 x3 x4
      have x0 := q2.cell 0
      have x1 := q2.cell 1
      have x2 := q2.cell 2
      have x3 := q2.cell 3
      have x4 := q2.cell 4
      simp only [List.getElem?_cons_zero, List.getElem?_cons_succ] at x0 x1 x2 x3 x4
      go_wp2
      have r5 := (p2).put4 (a := .bool false) (x := .slice none 0 0) (y := .bool false) (z := .slice none 0 0)
      have r0 := r5.cell 0
      have r1 := r5.cell 1
      have r2 := r5.cell 2
      have r3 := r5.cell 3
      simp only [List.getElem?_cons_zero, List.getElem?_cons_succ] at r0 r1 r2 r3
      refine bodyPost_ret (v := .tuple #[.agg #[.bool false, .slice none 0 0, .bool false, .slice none 0 0], .int .i64 1]) (by simp [results, Tryz.results18, go_sem, r0, r1, r2, r3]) rfl ?_
      exact toR_err HN.out (keeps4 hkw (by omega) _ _ _ _)
    | true =>
      have hk' : (k != 2) = false := by rw [bne, hk]; rfl
      have HK2 := Lib.hid hk
      clear hk
      by_cases hl2 : l.length = 2
      · obtain ⟨ea, eb, rfl⟩ := list2 hl2
        clear hl2
        obtain ⟨bb, oo, k0, na, A0, m0, d0, B0, l0, e0, D0, j0, ff0, rfl, -, hbs, ⟨u0, u1, u2, -, -⟩, hva⟩ := hE.get5 (j := 0) rfl
        obtain ⟨bb', oo', k9, nb, A9, m9, d9, B9, l9, e9, D9, j9, ff9, eL, -, -, ⟨u5, u6, u7, -, -⟩, hvb⟩ := hE.get5 (j := 1) rfl
        cases eL
        rw [Nat.zero_mul, Nat.add_zero] at u0 u1 u2
        rw [Nat.one_mul] at u5 u6 u7
        obtain ⟨ka, na', ga, xa, la⟩ := ea
        obtain ⟨A7, n7, c7, B7, m7, d7, L7, e7, ee, ⟨hga, -, -⟩, ⟨rfl, hGa⟩, -, -, -⟩ := hva.open_
        simp only [List.cons.injEq, and_true, Value.int.injEq, Value.bool.injEq, Value.slice.injEq, true_and] at ee
        obtain ⟨rfl, rfl, ⟨rfl, rfl, rfl⟩, -⟩ := ee
        obtain ⟨kb, nb', gb, xb, lb⟩ := eb
        obtain ⟨A7, n7, c7, B7, m7, d7, L7, e7, ee, ⟨hgb, -, -⟩, ⟨rfl, hGb⟩, -, -, -⟩ := hvb.open_
        simp only [List.cons.injEq, and_true, Value.int.injEq, Value.bool.injEq, Value.slice.injEq, true_and] at ee
        obtain ⟨rfl, rfl, ⟨rfl, rfl, rfl⟩, -⟩ := ee
        have hok : okR (.mk k n g x [.mk k0 na ga xa la, .mk k9 nb gb xb lb]) = ((k == 2) && (k0 == 0) && (k9 == 0) && rvalidB na ga nb gb) := rfl
        rw [HK2.out, Bool.true_and] at hok
        have hqq : toRQ (.mk k n g x [.mk k0 na ga xa la, .mk k9 nb gb xb lb]) = rcnt na ga nb gb := rfl
        have HOK := Lib.hid hok
        have HQQ := Lib.hid hqq
        have HRA : Hid (RatArg w (.agg #[.bool na, .slice A0 ga.length d0, .bool nb, .slice A9 gb.length d9]) na ga nb gb) := Lib.hid ⟨_, _, _, _, rfl, ⟨_, rfl, hGa⟩, ⟨_, rfl, hGb⟩⟩
        have hll : ([Tr.mk k0 na ga xa la, .mk k9 nb gb xb lb] : List Tr).length = 2 := rfl
        have HVD : Hid (vldD 8 (.mk k n g x [.mk k0 na ga xa la, .mk k9 nb gb xb lb]) = true ∨ ((k0 == 0) && (k9 == 0)) = false) := Lib.hid ((h1 HQ.out HK2.out).imp id (fun h => h _ _ rfl))
        rw [hll] at q1 hlI hW1
        clear hok hqq hva hvb hGa hGb hll hE h0 h1
        obtain ⟨m0, hm0⟩ : ∃ m0, ga.length = m0 := ⟨_, rfl⟩
        obtain ⟨m9, hm9⟩ : ∃ m9, gb.length = m9 := ⟨_, rfl⟩
        have HL0 : Hid (ga.length ≤ 100000 ∧ gb.length ≤ 100000) := Lib.hid (by omega)
        rw [hm0, hm9] at HRA
        rw [hm0] at u2
        rw [hm9] at u7
        clear hm0 hm9 hga hgb hbl hbg hbx
        have v0 := (hk1.cell (p := ⟨bb, oo, none⟩) hbs).trans u0
        have v5 := (hk1.cell (p := ⟨bb, oo + 5, none⟩) hbs).trans u5
        have HU1 := Lib.hid ((hk1.cell (p := ⟨bb, oo + 1, none⟩) hbs).trans u1)
        have HU2 := Lib.hid ((hk1.cell (p := ⟨bb, oo + 2, none⟩) hbs).trans u2)
        have HU6 := Lib.hid ((hk1.cell (p := ⟨bb, oo + 6, none⟩) hbs).trans u6)
        have HU7 := Lib.hid ((hk1.cell (p := ⟨bb, oo + 7, none⟩) hbs).trans u7)
        have hbs1 : bb < W1.heap.size := Nat.lt_of_lt_of_le hbs hk1.size
        clear u0 u1 u2 u5 u6 u7
        by_cases hk0 : k0 = 0
        · have t0 : (k0 != 0) = false := by rw [hk0]; rfl
          by_cases hk9 : k9 = 0
          · have t9 : (k9 != 0) = false := by rw [hk9]; rfl
            have HK0 : Hid (k0 = 0 ∧ k9 = 0) := Lib.hid ⟨hk0, hk9⟩
            clear hk0 hk9
            have x0 := q1.cell 0
            have x1 := q1.cell 1
            have x2 := q1.cell 2
            have x3 := q1.cell 3
            have x4 := q1.cell 4
            simp only [List.getElem?_cons_zero, List.getElem?_cons_succ] at x0 x1 x2 x3 x4
            have z0 := p1.cell 0
            have z1 := p1.cell 1
            have z2 := p1.cell 2
            have z3 := p1.cell 3
            have f0 := p1.frozen 0
            have f1 := p1.frozen 1
            have f2 := p1.frozen 2
            have f3 := p1.frozen 3
            simp only [List.getElem?_cons_zero, List.getElem?_cons_succ] at z0 z1 z2 z3
            go_enter Tryz.func18, Tryz.ntmps18
            go_wp2_with fail
            refine HV.out.mono ?_
            rintro e w2 ⟨rfl, hk2⟩
            have hkw := hk1.trans' hk2
            have p2 := p1.below hk2
            have q2 := q1.below hk2
            have HQ2 := Lib.hid q2
            have hs12 := hk2.size
            have HB2 : Hid (bb < w2.heap.size) := Lib.hid (by omega)
            have v0' := (hk2.cell (p := ⟨bb, oo, none⟩) hbs1).trans v0
            have v5' := (hk2.cell (p := ⟨bb, oo + 5, none⟩) hbs1).trans v5
            have U1 := Lib.hid ((hk2.cell (p := ⟨bb, oo + 1, none⟩) hbs1).trans HU1.out)
            have U2 := Lib.hid ((hk2.cell (p := ⟨bb, oo + 2, none⟩) hbs1).trans HU2.out)
            have U6 := Lib.hid ((hk2.cell (p := ⟨bb, oo + 6, none⟩) hbs1).trans HU6.out)
            have U7 := Lib.hid ((hk2.cell (p := ⟨bb, oo + 7, none⟩) hbs1).trans HU7.out)
            clear z0 z1 z2 z3 f0 f1 f2 f3
            have z0 := p2.cell 0
            have z1 := p2.cell 1
            have z2 := p2.cell 2
            have z3 := p2.cell 3
            have f0 := p2.frozen 0
            have f1 := p2.frozen 1
            have f2 := p2.frozen 2
            have f3 := p2.frozen 3
            simp only [List.getElem?_cons_zero, List.getElem?_cons_succ] at z0 z1 z2 z3
            clear x0 x1 x2 x3 x4
            have x0 := q2.cell 0
            have x1 := q2.cell 1
            have x2 := q2.cell 2
            have x3 := q2.cell 3
            have x4 := q2.cell 4
            simp only [List.getElem?_cons_zero, List.getElem?_cons_succ] at x0 x1 x2 x3 x4
            clear v0 v5 hW1
            go_upto_region 3 with fail
            refine wp_region_steps (m := 12) rfl (by kernel_rfl) (rt3Φ ⟨w.heap.size, 4, none⟩ ⟨bb, oo, none⟩ ⟨bb, oo + 1, none⟩ ⟨bb, oo + 5, none⟩ ⟨bb, oo + 6, none⟩ (.slice (some ⟨bb, oo, none⟩) 2 c) (.agg #[.bool na, .slice A0 m0 d0]) (.agg #[.bool nb, .slice A9 m9 d9]) (.agg #[.bool na, .slice A0 m0 d0, .bool nb, .slice A9 m9 d9]) w2.heap.size) [11] ?_ ?_ ?_
            · intro i v w w' hi h hk
              match i, hi with
              | 0, _ | 1, _ | 2, _ | 3, _ | 4, _ | 5, _ | 6, _ | 7, _ | 8, _ | 9, _ | 10, _ => exact h
              | 11, _ => exact h.elim fun b ⟨h1, h2, h3⟩ => ⟨b, h1, h2, h3.below hk⟩
              | i + 12, hi => exact absurd hi (by omega)
            · intro i hi vs wph3 hk3 hd
              have hkq := Keeps.trans' (w1 := w2.drew) (Below.drew (Below.refl _ w2)) hk3
              have hqq := HQ2.out.below hkq
              have y4 := hqq.cell 4
              simp only [List.getElem?_cons_zero, List.getElem?_cons_succ] at y4
              have t1 := (hkq.cell (p := ⟨bb, oo + 1, none⟩) HB2.out).trans U1.out
              have t2 := (hkq.cell (p := ⟨bb, oo + 2, none⟩) HB2.out).trans U2.out
              have t6 := (hkq.cell (p := ⟨bb, oo + 6, none⟩) HB2.out).trans U6.out
              have t7 := (hkq.cell (p := ⟨bb, oo + 7, none⟩) HB2.out).trans U7.out
              match i, hi with
              | 0, _ =>
                refine step_yes (o := ⟨some 36, Op.fieldAddr 30 (Operand.tmp 1) 3, 0, "ref.go:267", #[], none⟩) [] (by kernel_rfl) (by kernel_rfl) fun K hK => ?_
                simp only [frD] at hK ⊢
                refine ⟨by rfl, ?_⟩
                go_simp
                exact hK _ _ ⟨Below.refl _ _, rfl, by simp⟩
              | 1, _ =>
                have e0 : vs 0 = .pointer (some (⟨w.heap.size, 4, none⟩ : Addr)) := hd 0 (List.contains_iff_mem.1 (by kernel_rfl))
                refine step_yes (o := ⟨some 37, Op.load 28 (Operand.tmp 36), 28, "ref.go:267", #[{ on := 0, ground := Ground.data }], none⟩) [(0, some 36)] (by kernel_rfl) (by kernel_rfl) fun K hK => ?_
                simp only [frD, e0] at hK ⊢
                refine ⟨by rfl, ?_⟩
                go_simp
                exact hK _ _ ⟨Below.refl _ _, rfl, by simp⟩
              | 2, _ =>
                have e1 : vs 1 = (.slice (some ⟨bb, oo, none⟩) 2 c) := hd 1 (List.contains_iff_mem.1 (by kernel_rfl))
                refine step_yes (o := ⟨some 38, Op.indexAddr 28 (Operand.tmp 37) (Operand.const (Value.int IntKind.i64 0)), 0, "ref.go:267", #[{ on := 1, ground := Ground.data }], none⟩) [(1, some 37)] (by kernel_rfl) (by kernel_rfl) fun K hK => ?_
                simp only [frD, e1] at hK ⊢
                refine ⟨by rfl, ?_⟩
                go_simp
                exact hK _ _ ⟨Below.refl _ _, rfl, by simp⟩
              | 3, _ =>
                have e2 : vs 2 = .pointer (some (⟨bb, oo, none⟩ : Addr)) := hd 2 (List.contains_iff_mem.1 (by kernel_rfl))
                refine step_yes (o := ⟨some 39, Op.fieldAddr 30 (Operand.tmp 38) 1, 0, "ref.go:267", #[{ on := 2, ground := Ground.data }], none⟩) [(2, some 38)] (by kernel_rfl) (by kernel_rfl) fun K hK => ?_
                simp only [frD, e2] at hK ⊢
                refine ⟨by rfl, ?_⟩
                go_simp
                exact hK _ _ ⟨Below.refl _ _, rfl, by simp⟩
              | 4, _ =>
                have e3 : vs 3 = .pointer (some (⟨bb, oo + 1, none⟩ : Addr)) := hd 3 (List.contains_iff_mem.1 (by kernel_rfl))
                refine step_yes (o := ⟨some 40, Op.load 27 (Operand.tmp 39), 27, "ref.go:267", #[{ on := 3, ground := Ground.data }], none⟩) [(3, some 39)] (by kernel_rfl) (by kernel_rfl) fun K hK => ?_
                simp only [frD, e3] at hK ⊢
                refine ⟨by rfl, ?_⟩
                go_simp
                exact hK _ _ ⟨Below.refl _ _, rfl, by simp⟩
              | 5, _ =>
                refine step_yes (o := ⟨some 41, Op.fieldAddr 30 (Operand.tmp 1) 3, 0, "ref.go:267", #[], none⟩) [] (by kernel_rfl) (by kernel_rfl) fun K hK => ?_
                simp only [frD] at hK ⊢
                refine ⟨by rfl, ?_⟩
                go_simp
                exact hK _ _ ⟨Below.refl _ _, rfl, by simp⟩
              | 6, _ =>
                have e5 : vs 5 = .pointer (some (⟨w.heap.size, 4, none⟩ : Addr)) := hd 5 (List.contains_iff_mem.1 (by kernel_rfl))
                refine step_yes (o := ⟨some 42, Op.load 28 (Operand.tmp 41), 28, "ref.go:267", #[{ on := 5, ground := Ground.data }], none⟩) [(5, some 41)] (by kernel_rfl) (by kernel_rfl) fun K hK => ?_
                simp only [frD, e5] at hK ⊢
                refine ⟨by rfl, ?_⟩
                go_simp
                exact hK _ _ ⟨Below.refl _ _, rfl, by simp⟩
              | 7, _ =>
                have e6 : vs 6 = (.slice (some ⟨bb, oo, none⟩) 2 c) := hd 6 (List.contains_iff_mem.1 (by kernel_rfl))
                refine step_yes (o := ⟨some 43, Op.indexAddr 28 (Operand.tmp 42) (Operand.const (Value.int IntKind.i64 1)), 0, "ref.go:267", #[{ on := 6, ground := Ground.data }], none⟩) [(6, some 42)] (by kernel_rfl) (by kernel_rfl) fun K hK => ?_
                simp only [frD, e6] at hK ⊢
                refine ⟨by rfl, ?_⟩
                go_simp
                exact hK _ _ ⟨Below.refl _ _, rfl, by simp⟩
              | 8, _ =>
                have e7 : vs 7 = .pointer (some (⟨bb, oo + 5, none⟩ : Addr)) := hd 7 (List.contains_iff_mem.1 (by kernel_rfl))
                refine step_yes (o := ⟨some 44, Op.fieldAddr 30 (Operand.tmp 43) 1, 0, "ref.go:267", #[{ on := 7, ground := Ground.data }], none⟩) [(7, some 43)] (by kernel_rfl) (by kernel_rfl) fun K hK => ?_
                simp only [frD, e7] at hK ⊢
                refine ⟨by rfl, ?_⟩
                go_simp
                exact hK _ _ ⟨Below.refl _ _, rfl, by simp⟩
              | 9, _ =>
                have e8 : vs 8 = .pointer (some (⟨bb, oo + 6, none⟩ : Addr)) := hd 8 (List.contains_iff_mem.1 (by kernel_rfl))
                refine step_yes (o := ⟨some 45, Op.load 27 (Operand.tmp 44), 27, "ref.go:267", #[{ on := 8, ground := Ground.data }], none⟩) [(8, some 44)] (by kernel_rfl) (by kernel_rfl) fun K hK => ?_
                simp only [frD, e8] at hK ⊢
                refine ⟨by rfl, ?_⟩
                go_simp
                exact hK _ _ ⟨Below.refl _ _, rfl, by simp⟩
              | 10, _ =>
                have e4 : vs 4 = (.agg #[.bool na, .slice A0 m0 d0]) := hd 4 (List.contains_iff_mem.1 (by kernel_rfl))
                have e9 : vs 9 = (.agg #[.bool nb, .slice A9 m9 d9]) := hd 9 (List.contains_iff_mem.1 (by kernel_rfl))
                refine step_yes (o := ⟨some 46, Op.build 44 #[(0, Operand.tmp 40), (1, Operand.tmp 45)], 44, "ref.go:267", #[{ on := 4, ground := Ground.data }, { on := 9, ground := Ground.data }], none⟩) [(4, some 40), (9, some 45)] (by kernel_rfl) (by kernel_rfl) fun K hK => ?_
                simp only [frD, e4, e9] at hK ⊢
                refine ⟨by rfl, ?_⟩
                go_simp
                exact hK _ _ ⟨Below.refl _ _, rfl, by simp⟩
              | 11, _ =>
                refine step_yes (o := ⟨some 4, Op.alloc 44, 0, "ref.go:267", #[], none⟩) [] (by kernel_rfl) (by kernel_rfl) fun K hK => ?_
                simp only [frD] at hK ⊢
                refine ⟨by rfl, ?_⟩
                go_simp
                exact hK _ _ ⟨(Below.refl _ _).alloc (Nat.le_refl _) _, ⟨_, rfl, hk3.size, Own.new wph3 _ _⟩, fun _ => ⟨rfl, by simp⟩⟩
              | i + 12, hi => exact absurd hi (by omega)
            · intro vs wph3 hk3 hΦ hne
              simp only [List.drop_succ_cons, List.drop_zero]
              rw [fr_frD, show (List.range 12).map _ = [(0, some 36), (1, some 37), (2, some 38), (3, some 39), (4, some 40), (5, some 41), (6, some 42), (7, some 43), (8, some 44), (9, some 45), (10, some 46), (11, some 4)] by kernel_rfl]
              have ph0 := hΦ 0 (by omega)
              have ph1 := hΦ 1 (by omega)
              have ph2 := hΦ 2 (by omega)
              have ph3 := hΦ 3 (by omega)
              have ph4 := hΦ 4 (by omega)
              have ph5 := hΦ 5 (by omega)
              have ph6 := hΦ 6 (by omega)
              have ph7 := hΦ 7 (by omega)
              have ph8 := hΦ 8 (by omega)
              have ph9 := hΦ 9 (by omega)
              have ph10 := hΦ 10 (by omega)
              have ph11 := hΦ 11 (by omega)
              simp only [rt3Φ] at ph0 ph1 ph2 ph3 ph4 ph5 ph6 ph7 ph8 ph9 ph10 ph11
              clear hΦ
              obtain ⟨d11, q11, hl11, hO11⟩ := ph11
              clear hne
              simp only [frD, ph0, ph1, ph2, ph3, ph4, ph5, ph6, ph7, ph8, ph9, ph10, q11]
              simp only [Act.put, List.setIfInBounds_toArray, List.set_cons_zero, List.set_cons_succ]
              clear ph0
              clear ph1
              clear ph2
              clear ph3
              clear ph4
              clear ph5
              clear ph6
              clear ph7
              clear ph8
              clear ph9
              clear ph10
              clear q11
              have hkq := Keeps.trans' (w1 := w2.drew) (Below.drew (Below.refl _ w2)) hk3
              have hkw3 := hkw.trans' hkq
              have p3 := p2.below hkq
              have g0 := hO11.frozen 0
              have g1 := hO11.frozen 1
              have g2 := hO11.frozen 2
              have g3 := hO11.frozen 3
              have i0 := hO11.cell 0
              have i1 := hO11.cell 1
              have i2 := hO11.cell 2
              have i3 := hO11.cell 3
              simp only [List.getElem?_cons_zero, List.getElem?_cons_succ] at i0 i1 i2 i3
              have hlt2 : w.heap.size + 1 < w2.heap.size := p2.lt
              clear v0' v5' z0 z1 z2 z3 f0 f1 f2 f3 hk3
              clear x0 x1 x2 x3 x4
              go_upto_region 4 with fail
              obtain ⟨W5, hW5⟩ : ∃ W5, (((wph3.setCell ⟨d11, 0, none⟩ (.bool na)).setCell ⟨d11, 1, none⟩ (.slice A0 m0 d0)).setCell ⟨d11, 2, none⟩ (.bool nb)).setCell ⟨d11, 3, none⟩ (.slice A9 m9 d9) = W5 := ⟨_, rfl⟩
              rw [hW5]
              have hk5 : Keeps w W5 := hW5 ▸ keeps4 hkw3 (by omega) _ _ _ _
              have b5 : Own W5 d11 44 [.bool na, .slice A0 m0 d0, .bool nb, .slice A9 m9 d9] := hW5 ▸ hO11.put4
              have p5 : Own W5 (w.heap.size + 1) 44 [.bool false, .slice none 0 0, .bool false, .slice none 0 0] := hW5 ▸ p3.far4 (by omega)
              have HVA := Lib.hid (gvalid_any (HRA.out.below hk5) HL0.out.1 HL0.out.2)
              clear hW5 g0 g1 g2 g3 i0 i1 i2 i3 hO11
              have i0 := b5.cell 0
              have i1 := b5.cell 1
              have i2 := b5.cell 2
              have i3 := b5.cell 3
              simp only [List.getElem?_cons_zero, List.getElem?_cons_succ] at i0 i1 i2 i3
              cases hrv : rvalidB na ga nb gb with
              | false =>
                have HN := Lib.hid (toRC_no (t := .mk k n g x [.mk k0 na ga xa la, .mk k9 nb gb xb lb]) (by rw [HOK.out, hrv, Bool.and_false, Bool.and_false]))
                rw [hrv] at HVA
                clear hrv
                go_wp2_with fail
                refine HVA.out.mono ?_
                rintro e w6 ⟨rfl, hk6⟩
                have hkw6 := hk5.trans' hk6
                have p6 := p5.below hk6
                have z0 := p6.cell 0
                have z1 := p6.cell 1
                have z2 := p6.cell 2
                have z3 := p6.cell 3
                have f0 := p6.frozen 0
                have f1 := p6.frozen 1
                have f2 := p6.frozen 2
                have f3 := p6.frozen 3
                simp only [List.getElem?_cons_zero, List.getElem?_cons_succ] at z0 z1 z2 z3
                go_wp2
                have r5 := (p6).put4 (a := .bool false) (x := .slice none 0 0) (y := .bool false) (z := .slice none 0 0)
                have r0 := r5.cell 0
                have r1 := r5.cell 1
                have r2 := r5.cell 2
                have r3 := r5.cell 3
                simp only [List.getElem?_cons_zero, List.getElem?_cons_succ] at r0 r1 r2 r3
                refine bodyPost_ret (v := .tuple #[.agg #[.bool false, .slice none 0 0, .bool false, .slice none 0 0], .int .i64 1]) (by simp [results, Tryz.results18, go_sem, r0, r1, r2, r3]) rfl ?_
                exact toR_err HN.out (keeps4 hkw6 (by omega) _ _ _ _)
              | true =>
                have HCC : Hid (toRC (.mk k n g x [.mk k0 na ga xa la, .mk k9 nb gb xb lb]) = 0) := Lib.hid (toRC_yes (by
                  have h3 := HK0.out
                  rcases HVD.out with h2 | h2
                  · rw [h2, HOK.out, hrv, h3.1, h3.2]
                    rfl
                  · rw [h3.1, h3.2] at h2
                    cases h2))
                have HRV := Lib.hid hrv
                rw [hrv] at HVA
                clear hrv
                go_wp2_with fail
                refine HVA.out.mono ?_
                rintro e w6 ⟨rfl, hk6⟩
                have hkw6 := hk5.trans' hk6
                have p6 := p5.below hk6
                have b6 := b5.below hk6
                clear i0 i1 i2 i3
                have i0 := b6.cell 0
                have i1 := b6.cell 1
                have i2 := b6.cell 2
                have i3 := b6.cell 3
                simp only [List.getElem?_cons_zero, List.getElem?_cons_succ] at i0 i1 i2 i3
                have z0 := p6.cell 0
                have z1 := p6.cell 1
                have z2 := p6.cell 2
                have z3 := p6.cell 3
                have f0 := p6.frozen 0
                have f1 := p6.frozen 1
                have f2 := p6.frozen 2
                have f3 := p6.frozen 3
                simp only [List.getElem?_cons_zero, List.getElem?_cons_succ] at z0 z1 z2 z3
                go_wp2
                have r5 := (p6).put4 (a := .bool na) (x := .slice A0 m0 d0) (y := .bool nb) (z := .slice A9 m9 d9)
                have r0 := r5.cell 0
                have r1 := r5.cell 1
                have r2 := r5.cell 2
                have r3 := r5.cell 3
                simp only [List.getElem?_cons_zero, List.getElem?_cons_succ] at r0 r1 r2 r3
                refine bodyPost_ret (v := .tuple #[.agg #[.bool na, .slice A0 m0 d0, .bool nb, .slice A9 m9 d9], .int .i64 0]) (by simp [results, Tryz.results18, go_sem, r0, r1, r2, r3]) rfl ?_
                refine ⟨_, _, _, _, _, _, _, _, by rw [HCC.out], fun _ => ?_, keeps4 hkw6 (by omega) _ _ _ _⟩
                rw [HQQ.out]
                exact ((HRA.out.below hkw6).rep HRV.out).map (set4_same32 p6 rfl rfl)
          · have t9 : (k9 != 0) = true := by simpa using hk9
            have hk9b : (k9 == 0) = false := by simpa using hk9
            have HN := Lib.hid (toRC_no (t := .mk k n g x [.mk k0 na ga xa la, .mk k9 nb gb xb lb]) (by rw [HOK.out, hk9b]; simp))
            clear hk0 hk9 hk9b
            have x0 := q1.cell 0
            have x1 := q1.cell 1
            have x2 := q1.cell 2
            have x3 := q1.cell 3
            have x4 := q1.cell 4
            simp only [List.getElem?_cons_zero, List.getElem?_cons_succ] at x0 x1 x2 x3 x4
            have z0 := p1.cell 0
            have z1 := p1.cell 1
            have z2 := p1.cell 2
            have z3 := p1.cell 3
            have f0 := p1.frozen 0
            have f1 := p1.frozen 1
            have f2 := p1.frozen 2
            have f3 := p1.frozen 3
            simp only [List.getElem?_cons_zero, List.getElem?_cons_succ] at z0 z1 z2 z3
            go_enter Tryz.func18, Tryz.ntmps18
            go_wp2_with fail
            refine HV.out.mono ?_
            rintro e w2 ⟨rfl, hk2⟩
            have hkw := hk1.trans' hk2
            have p2 := p1.below hk2
            have q2 := q1.below hk2
            have v0' := (hk2.cell (p := ⟨bb, oo, none⟩) hbs1).trans v0
            have v5' := (hk2.cell (p := ⟨bb, oo + 5, none⟩) hbs1).trans v5
            clear z0 z1 z2 z3 f0 f1 f2 f3
            have z0 := p2.cell 0
            have z1 := p2.cell 1
            have z2 := p2.cell 2
            have z3 := p2.cell 3
            have f0 := p2.frozen 0
            have f1 := p2.frozen 1
            have f2 := p2.frozen 2
            have f3 := p2.frozen 3
            simp only [List.getElem?_cons_zero, List.getElem?_cons_succ] at z0 z1 z2 z3
            clear x0 x1 x2 x3 x4
            have x0 := q2.cell 0
            have x1 := q2.cell 1
            have x2 := q2.cell 2
            have x3 := q2.cell 3
            have x4 := q2.cell 4
            simp only [List.getElem?_cons_zero, List.getElem?_cons_succ] at x0 x1 x2 x3 x4
            go_wp2
            have r5 := (p2).put4 (a := .bool false) (x := .slice none 0 0) (y := .bool false) (z := .slice none 0 0)
            have r0 := r5.cell 0
            have r1 := r5.cell 1
            have r2 := r5.cell 2
            have r3 := r5.cell 3
            simp only [List.getElem?_cons_zero, List.getElem?_cons_succ] at r0 r1 r2 r3
            refine bodyPost_ret (v := .tuple #[.agg #[.bool false, .slice none 0 0, .bool false, .slice none 0 0], .int .i64 1]) (by simp [results, Tryz.results18, go_sem, r0, r1, r2, r3]) rfl ?_
            exact toR_err HN.out (keeps4 hkw (by omega) _ _ _ _)
        · have t0 : (k0 != 0) = true := by simpa using hk0
          have hk0b : (k0 == 0) = false := by simpa using hk0
          have HN := Lib.hid (toRC_no (t := .mk k n g x [.mk k0 na ga xa la, .mk k9 nb gb xb lb]) (by rw [HOK.out, hk0b]; simp))
          clear hk0 hk0b
          have x0 := q1.cell 0
          have x1 := q1.cell 1
          have x2 := q1.cell 2
          have x3 := q1.cell 3
          have x4 := q1.cell 4
          simp only [List.getElem?_cons_zero, List.getElem?_cons_succ] at x0 x1 x2 x3 x4
          have z0 := p1.cell 0
          have z1 := p1.cell 1
          have z2 := p1.cell 2
          have z3 := p1.cell 3
          have f0 := p1.frozen 0
          have f1 := p1.frozen 1
          have f2 := p1.frozen 2
          have f3 := p1.frozen 3
          simp only [List.getElem?_cons_zero, List.getElem?_cons_succ] at z0 z1 z2 z3
          go_enter Tryz.func18, Tryz.ntmps18
          go_wp2_with fail
          refine HV.out.mono ?_
          rintro e w2 ⟨rfl, hk2⟩
          have hkw := hk1.trans' hk2
          have p2 := p1.below hk2
          have q2 := q1.below hk2
          have v0' := (hk2.cell (p := ⟨bb, oo, none⟩) hbs1).trans v0
          clear z0 z1 z2 z3 f0 f1 f2 f3
          have z0 := p2.cell 0
          have z1 := p2.cell 1
          have z2 := p2.cell 2
          have z3 := p2.cell 3
          have f0 := p2.frozen 0
          have f1 := p2.frozen 1
          have f2 := p2.frozen 2
          have f3 := p2.frozen 3
          simp only [List.getElem?_cons_zero, List.getElem?_cons_succ] at z0 z1 z2 z3
          clear x0 x1 x2 x3 x4
          have x0 := q2.cell 0
          have x1 := q2.cell 1
          have x2 := q2.cell 2
          have x3 := q2.cell 3
          have x4 := q2.cell 4
          simp only [List.getElem?_cons_zero, List.getElem?_cons_succ] at x0 x1 x2 x3 x4
          go_wp2
          have r5 := (p2).put4 (a := .bool false) (x := .slice none 0 0) (y := .bool false) (z := .slice none 0 0)
          have r0 := r5.cell 0
          have r1 := r5.cell 1
          have r2 := r5.cell 2
          have r3 := r5.cell 3
          simp only [List.getElem?_cons_zero, List.getElem?_cons_succ] at r0 r1 r2 r3
          refine bodyPost_ret (v := .tuple #[.agg #[.bool false, .slice none 0 0, .bool false, .slice none 0 0], .int .i64 1]) (by simp [results, Tryz.results18, go_sem, r0, r1, r2, r3]) rfl ?_
          exact toR_err HN.out (keeps4 hkw (by omega) _ _ _ _)
      · have HN := Lib.hid (toRC_no (t := .mk k n g x l) (by rw [okR_len hl2, Bool.and_false]))
        have t2 : ((l.length : Int) != 2) = true := by simp; omega
        clear hl2
        have x0 := q1.cell 0
        have x1 := q1.cell 1
        have x2 := q1.cell 2
        have x3 := q1.cell 3
        have x4 := q1.cell 4
        simp only [List.getElem?_cons_zero, List.getElem?_cons_succ] at x0 x1 x2 x3 x4
        have z0 := p1.cell 0
        have z1 := p1.cell 1
        have z2 := p1.cell 2
        have z3 := p1.cell 3
        have f0 := p1.frozen 0
        have f1 := p1.frozen 1
        have f2 := p1.frozen 2
        have f3 := p1.frozen 3
        simp only [List.getElem?_cons_zero, List.getElem?_cons_succ] at z0 z1 z2 z3
        go_enter Tryz.func18, Tryz.ntmps18
        go_wp2_with fail
        refine HV.out.mono ?_
        rintro e w2 ⟨rfl, hk2⟩
        have hkw := hk1.trans' hk2
        have p2 := p1.below hk2
        have q2 := q1.below hk2
        clear z0 z1 z2 z3 f0 f1 f2 f3
        have z0 := p2.cell 0
        have z1 := p2.cell 1
        have z2 := p2.cell 2
        have z3 := p2.cell 3
        have f0 := p2.frozen 0
        have f1 := p2.frozen 1
        have f2 := p2.frozen 2
        have f3 := p2.frozen 3
        simp only [List.getElem?_cons_zero, List.getElem?_cons_succ] at z0 z1 z2 z3
        clear x0 x1 x2 x3 x4
        have x0 := q2.cell 0
        have x1 := q2.cell 1
        have x2 := q2.cell 2
        have x3 := q2.cell 3
        have x4 := q2.cell 4
        simp only [List.getElem?_cons_zero, List.getElem?_cons_succ] at x0 x1 x2 x3 x4
        go_wp2
        have r5 := (p2).put4 (a := .bool false) (x := .slice none 0 0) (y := .bool false) (z := .slice none 0 0)
        have r0 := r5.cell 0
        have r1 := r5.cell 1
        have r2 := r5.cell 2
        have r3 := r5.cell 3
        simp only [List.getElem?_cons_zero, List.getElem?_cons_succ] at r0 r1 r2 r3
        refine bodyPost_ret (v := .tuple #[.agg #[.bool false, .slice none 0 0, .bool false, .slice none 0 0], .int .i64 1]) (by simp [results, Tryz.results18, go_sem, r0, r1, r2, r3]) rfl ?_
        exact toR_err HN.out (keeps4 hkw (by omega) _ _ _ _)
end Go.Proofs.YtomjnjpehokjbaaGreatDoor
