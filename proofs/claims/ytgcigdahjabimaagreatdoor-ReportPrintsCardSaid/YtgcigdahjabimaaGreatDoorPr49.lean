/- ReportPrints: the walk. -/
import Derived.Test.YtgcigdahjabimaaGreatDoorPr46
import Derived.Test.YtgcigdahjabimaaGreatDoorPr47
import Derived.Test.YtgcigdahjabimaaGreatDoorPr39
import Derived.Test.YtgcigdahjabimaaGreatDoorPr48
namespace Go.Proofs.YtgcigdahjabimaaGreatDoor
open Go.RowKit Go.Shelf
theorem fracT_k {q : Rat} {k : Nat} (h : szR q ≤ k) : (fracT q).length ≤ 18 * k + 5 := by
 unfold fracT
 have h1 := textL_le q.num
 have h2 := textL_le (q.den : Int)
 have h3 : lenI q.num ≤ k := szR_num h
 have h4 : lenI (q.den : Int) ≤ k := szR_den h
 rw [List.length_append]
 split
 ·rw [List.length_nil]; omega
 ·rw [List.length_cons]; omega
theorem rowsT_k {s : Sm} {m : Nat} (z3 : ∀ x ∈ s.rd, szR x.1 ≤ 7) (z4 : ∀ x ∈ s.sx, szR x.1 ≤ 7) : ∀ k, k ≤ m → m ≤ 1000 → (rowsT s k).length ≤ k * 300
 | 0, _, _ => by simp [rowsT]
 | k + 1, hk, hm => by
  have ih := rowsT_k z3 z4 k (by omega) hm
  have h1 := Lib.itoa_length_le (k : Int) (by omega) (by omega)
  have hf : ∀ (l : List QV), (∀ x ∈ l, szR x.1 ≤ 7) → (fracT (l.getD k (0, false)).1).length ≤ 131 := fun l hl => by
   refine fracT_k (k := 7) ?_
   rw [List.getD]
   cases e : l[k]? with
   | none => exact Nat.le_trans szR_null (by omega)
   | some x => exact hl x (List.mem_of_getElem? e)
  have h2 := hf _ z3
  have h3 := hf _ z4
  rw [rowsT_next, List.length_append]
  have h4 : (rowLn s k).length ≤ 300 := by
   unfold rowLn lineT
   rw [List.length_append, join4]
   simp only [List.length_cons, List.length_nil]
   omega
  omega
theorem few_len {r : SmR} (hb : fewB r = true) (hf : formB r.s = true) : (sumT r.s).length ≤ 5000 := by
 obtain ⟨hn, hw, -⟩ := form_nums hf
 have hb' := hb
 unfold fewB at hb
 simp only [Bool.and_eq_true, decide_eq_true_eq] at hb
 obtain ⟨⟨b1, b2⟩, b3⟩ := hb
 have e1 := raQ_sz r.ob
 have e2 := raQ_sz r.sg
 unfold raD at e1 e2
 have z1 : szR r.s.ob.1 ≤ 13 := by show szR (raQ r.ob).1 ≤ 13; omega
 have z2 : szR r.s.sg.1 ≤ 13 := by show szR (raQ r.sg).1 ≤ 13; omega
 have z3 : ∀ x ∈ r.s.rd, szR x.1 ≤ 7 := fun x hx => by
  obtain ⟨y, hy, rfl⟩ := List.mem_map.1 hx
  have := (shB_of b1).2 y hy
  have := raQ_sz y
  omega
 have z4 : ∀ x ∈ r.s.sx, szR x.1 ≤ 7 := fun x hx => by
  obtain ⟨y, hy, rfl⟩ := List.mem_map.1 hx
  have := (shB_of b2).2 y hy
  have := raQ_sz y
  omega
 have hl := (few_sz hb').2.1
 have t1 := headT_len hn 6 (by omega)
 have t2 := fracT_k z1
 have t3 := fracT_k z2
 have t4 := rowsT_k (m := 12) z3 z4 r.s.rd.length hl (by omega)
 have t5 := Lib.itoa_length_le _ hw.1 hw.2
 unfold sumT topT
 simp only [List.length_append, lineT2, List.length_cons, List.length_nil]
 omega
theorem few1k {s : Sm} (h : szR s.ob.1 ≤ 20 ∧ szR s.sg.1 ≤ 20 ∧ (∀ x ∈ s.rd, szR x.1 ≤ 20) ∧ ∀ x ∈ s.sx, szR x.1 ≤ 20) : SmSz s :=
 ⟨Nat.le_trans h.1 (by omega), Nat.le_trans h.2.1 (by omega), fun x hx => Nat.le_trans (h.2.2.1 x hx) (by omega), fun x hx => Nat.le_trans (h.2.2.2 x hx) (by omega)⟩
set_option maxRecDepth 100000 in
set_option maxHeartbeats 4000000 in
theorem rprints_any {w : World} {V : Value} {r : SmR} (h : SmRA w V r) (hcap : CapOk V) (hm : CutOk w) (ht : PowTab w ∧ EnvE w) :
 Calls Tryz.prog 5 #[V] w fun e w' => e = .returned (.bool true) ∧ Keeps w w' := by
 have HT := Lib.hid ht.1
 have HE := Lib.hid ht.2
 have HC := Lib.hid hm
 have HRA := Lib.hid h
 have HCAP := Lib.hid hcap
 have HFW := Lib.hid (fun (u : World) (hk : Keeps w u) => few_any (h.below hk))
 obtain ⟨o0, o1, o2, o3, p0, p1, p2, p3, AA, BB, cc, dd, rfl, -⟩ := h
 have S := (St.start w).alloc 49 (smL r.s o0 o1 o2 o3 p0 p1 p2 p3 AA BB cc dd)
 obtain ⟨W0, hW0, S⟩ := S.pack
 obtain ⟨VS, hVS⟩ : ∃ V, Value.agg (smL r.s o0 o1 o2 o3 p0 p1 p2 p3 AA BB cc dd).toArray = V := ⟨_, rfl⟩
 have HVS := Lib.hid hVS
 rw [hVS] at HRA HCAP HFW
 clear ht hm hcap hVS
 go_enter Tryz.func5, Tryz.ntmps5
 go_wp2_with fail
 refine (known_r (HT.out.keep S.k)).mono ?_
 rintro e W1 ⟨rfl, hk1⟩
 replace S := S.below hk1
 clear hk1 hW0
 go_upto_region 3 with fail
 go_wp2_with (refine wpList_load_mid rfl 49 _ rfl _ 0 rfl _ _ (own_range (S.o 0 rfl)) Tryz.underlying49 rfl (by kernel_rfl) ?_)
 have hvs := HVS.out
 rw [hvs]
 clear hvs
 refine (HFW.out _ S.k).mono ?_
 rintro e W2 ⟨rfl, hk2⟩
 replace S := S.below hk2
 clear hk2
 cases hfw : fewB r with
 | false =>
  go_wp2
  go_ret
  exact ⟨rfl, S.k⟩
 | true =>
  have HSA := Lib.hid (few_arg HRA.out hfw)
  have HSZ := Lib.hid (few_sz hfw)
  have HLN := Lib.hid (fun hf => few_len hfw hf)
  clear hfw HFW HRA
  generalize r.s = s at *
  have HPV : Hid (prnV s = if formB s then .tuple #[.string ⟨(sumT s).toArray⟩, .int .i64 0] else .tuple #[.string ⟨#[]⟩, .int .i64 1]) := Lib.hid rfl
  have HPR := Lib.hid (fun (u : World) (hk : Keeps w u) => print_any (HSA.out.below hk) (HT.out.keep hk) (few1k HSZ.out.1) (fun hf => by have := HLN.out hf; omega))
  cases hfb : formB s with
  | false =>
   have hpv : prnV s = .tuple #[.string ⟨#[]⟩, .int .i64 1] := by rw [HPV.out, hfb]; rfl
   rw [hpv] at HPR
   go_upto_region 5 with fail
   go_wp2_with (refine wpList_load_mid rfl 49 _ rfl _ 0 rfl _ _ (own_range (S.o 0 rfl)) Tryz.underlying49 rfl (by kernel_rfl) ?_)
   have hvs := HVS.out
   rw [hvs]
   clear hvs
   refine (HPR.out _ S.k).mono ?_
   rintro e W3 ⟨rfl, hk3⟩
   replace S := S.below hk3
   clear hk3
   go_upto_region 6 with fail
   go_wp2_with (refine wpList_load_mid rfl 49 _ rfl _ 0 rfl _ _ (own_range (S.o 0 rfl)) Tryz.underlying49 rfl (by kernel_rfl) ?_)
   have hvs := HVS.out
   rw [hvs]
   clear hvs
   refine (formed_any (HSA.out.below S.k) HCAP.out (few1k HSZ.out.1) HSZ.out.2.1 HSZ.out.2.2).mono ?_
   rintro e W4 ⟨rfl, hk4⟩
   replace S := S.below hk4
   rw [hfb]
   clear hk4
   go_upto_region 7 with fail
   go_wp2_with (refine wpList_load_mid rfl 49 _ rfl _ 0 rfl _ _ (own_range (S.o 0 rfl)) Tryz.underlying49 rfl (by kernel_rfl) ?_)
   have hvs := HVS.out
   rw [hvs]
   clear hvs
   refine (check_any (HSA.out.below S.k) (few1k HSZ.out.1).2.2.1).mono ?_
   rintro e W5 ⟨rfl, hk5⟩
   rw [hfb, show okS false = 1 from rfl]
   go_wp2
   go_ret
   exact ⟨by simp, S.k.trans' hk5⟩
  | true =>
   have hpv : prnV s = .tuple #[.string ⟨(sumT s).toArray⟩, .int .i64 0] := by rw [HPV.out, hfb]; rfl
   rw [hpv] at HPR
   have HPA := Lib.hid (fun (u : World) (hu : Keeps w u) => rparse_any (w := u) (l := sumT s) (HLN.out hfb) (HE.out.keep hu) (HC.out.keep hu) (HT.out.keep hu))
   have HOK : Hid (okP (sumT s) = true) := Lib.hid (by unfold okP; rw [prs_sum hfb, hfb]; simp)
   have HPS : Hid (prsS (sumT s) = s) := Lib.hid (prs_sum hfb)
   have HNM := Lib.hid (form_nums hfb)
   have HFB := Lib.hid hfb
   clear hpv
   go_upto_region 5 with fail
   go_wp2_with (refine wpList_load_mid rfl 49 _ rfl _ 0 rfl _ _ (own_range (S.o 0 rfl)) Tryz.underlying49 rfl (by kernel_rfl) ?_)
   have hvs := HVS.out
   rw [hvs]
   clear hvs
   refine (HPR.out _ S.k).mono ?_
   rintro e W3 ⟨rfl, hk3⟩
   replace S := S.below hk3
   clear hk3 HPR
   go_upto_region 6 with fail
   go_wp2_with (refine wpList_load_mid rfl 49 _ rfl _ 0 rfl _ _ (own_range (S.o 0 rfl)) Tryz.underlying49 rfl (by kernel_rfl) ?_)
   have hvs := HVS.out
   rw [hvs]
   clear hvs
   refine (formed_any (HSA.out.below S.k) HCAP.out (few1k HSZ.out.1) HSZ.out.2.1 HSZ.out.2.2).mono ?_
   rintro e W4 ⟨rfl, hk4⟩
   replace S := S.below hk4
   rw [hfb]
   clear hk4
   go_wp2_with fail
   refine (HPA.out _ S.k).mono ?_
   rintro e W5 ⟨hy, -, hk5⟩
   replace S := S.below hk5
   obtain ⟨U, rfl, ha, -⟩ := hy HOK.out
   rw [HPS.out] at ha
   have HU := Lib.hid ha
   obtain ⟨o0', o1', o2', o3', p0', p1', p2', p3', AU, BU, cu, du, rfl, h1, h2, -⟩ := ha
   obtain ⟨b3, A3, n3, c3, d3, B3, m3, e3, rfl, rfl, rfl, rfl⟩ := h1.open4
   obtain ⟨b4, A4, n4, c4, d4, B4, m4, e4, rfl, rfl, rfl, rfl⟩ := h2.open4
   have S := S.alloc 49 (smL s (.bool b3) (.slice A3 n3 c3) (.bool d3) (.slice B3 m3 e3) (.bool b4) (.slice A4 n4 c4) (.bool d4) (.slice B4 m4 e4) AU BU cu du)
   have hkA := box2 W5 (.cells (smL s (.bool b3) (.slice A3 n3 c3) (.bool d3) (.slice B3 m3 e3) (.bool b4) (.slice A4 n4 c4) (.bool d4) (.slice B4 m4 e4) AU BU cu du).toArray 49)
   clear hy hk5 h1 h2 HPA
   go_upto_region 9 with fail
   obtain ⟨W6, eW, S⟩ := S.pack
   rw [show W5.alloc (.cells (smL s (.bool b3) (.slice A3 n3 c3) (.bool d3) (.slice B3 m3 e3) (.bool b4) (.slice A4 n4 c4) (.bool d4) (.slice B4 m4 e4) AU BU cu du).toArray 49) = W6 from eW] at hkA
   rw [eW]
   clear eW
   replace HU := Lib.hid (HU.out.below hkA)
   obtain ⟨VU, hVU⟩ : ∃ V, Value.agg (smL s (.bool b3) (.slice A3 n3 c3) (.bool d3) (.slice B3 m3 e3) (.bool b4) (.slice A4 n4 c4) (.bool d4) (.slice B4 m4 e4) AU BU cu du).toArray = V := ⟨_, rfl⟩
   rw [hVU] at HU
   have HVU := Lib.hid hVU
   clear hVU hkA
   go_wp2_with (refine wpList_load_mid rfl 49 _ rfl _ 0 rfl _ _ (own_range (S.o 1 rfl)) Tryz.underlying49 rfl (by kernel_rfl) ?_)
   have hvs := HVS.out
   rw [hvs]
   clear hvs
   refine (check_any (HSA.out.below S.k) (few1k HSZ.out.1).2.2.1).mono ?_
   rintro e W7 ⟨rfl, hk7⟩
   rw [hfb, show okS true = 0 from rfl]
   replace S := S.below hk7
   replace HU := Lib.hid (HU.out.below hk7)
   clear hk7
   have HZ := Lib.hid (few1k HSZ.out.1)
   have HTX := Lib.hid (fun (u : World) (hu : Keeps w u) => ltext_any (HSA.out.below hu) (HT.out.keep hu) HNM.out.1 HNM.out.2.1 HNM.out.2.2.1 HNM.out.2.2.2 HZ.out.1 HZ.out.2.1 HZ.out.2.2.1 HZ.out.2.2.2)
   generalize sumT s = T at *
   go_wp2_with (refine wpList_load_midg (wanted_some 43 rfl rfl rfl rfl) 49 _ rfl _ 0 rfl _ _ (own_range (S.o 1 rfl)) Tryz.underlying49 rfl (by kernel_rfl) ?_)
   have hvs := HVS.out
   rw [hvs]
   clear hvs
   refine (HTX.out _ S.k).mono ?_
   rintro e W8 ⟨rfl, hk8⟩
   replace S := S.below hk8
   replace HU := Lib.hid (HU.out.below hk8)
   clear hk8 HTX
   go_wp2_with (first
    | refine wpList_load_midg (wanted_some 53 rfl rfl rfl rfl) 49 _ rfl _ 0 rfl _ _ (own_range (S.o 0 rfl)) Tryz.underlying49 rfl (by kernel_rfl) ?_
    | refine wpList_load_midg (wanted_some 53 rfl rfl rfl rfl) 49 _ rfl _ 0 rfl _ _ (own_range (S.o 1 rfl)) Tryz.underlying49 rfl (by kernel_rfl) ?_)
   have hvu := HVU.out
   have hvs := HVS.out
   rw [hvu, hvs]
   clear hvu hvs
   refine (lsame_any HU.out (HSA.out.below S.k) HFB.out HZ.out).mono ?_
   rintro e W9 ⟨rfl, hk9⟩
   go_wp2
   go_ret
   exact ⟨rfl, S.k.trans' hk9⟩
end Go.Proofs.YtgcigdahjabimaaGreatDoor
