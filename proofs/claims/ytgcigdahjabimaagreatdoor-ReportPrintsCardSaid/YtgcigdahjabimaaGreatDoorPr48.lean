/- few: the walk. -/
import Derived.Test.YtgcigdahjabimaaGreatDoorPr41
import Derived.Test.YtgcigdahjabimaaGreatDoorPr29
namespace Go.Proofs.YtgcigdahjabimaaGreatDoor
open Go.RowKit Go.Shelf
structure SmR where
 dim : Int
 st : Int
 pt : Int
 rw_ : Int
 fr : Int
 rk : Int
 ob : RA
 sg : RA
 rd : List RA
 sx : List RA
 wo : Int
def SmR.s (r : SmR) : Sm := ⟨r.dim, r.st, r.pt, r.rw_, r.fr, r.rk, raQ r.ob, raQ r.sg, r.rd.map raQ, r.sx.map raQ, r.wo⟩
def SmRA (w : World) (V : Value) (r : SmR) : Prop := ∃ o0 o1 o2 o3 p0 p1 p2 p3 A B c d, V = .agg (smL r.s o0 o1 o2 o3 p0 p1 p2 p3 A B c d).toArray ∧ RatA w (.agg #[o0, o1, o2, o3]) r.ob ∧ RatA w (.agg #[p0, p1, p2, p3]) r.sg ∧
 Row4 RatA w A r.rd ∧ Row4 RatA w B r.sx ∧ r.rd.length ≤ maxLen ∧ r.sx.length ≤ maxLen
theorem SmRA.below {w w' : World} {V : Value} {r : SmR} (h : SmRA w V r) (hk : Keeps w w') : SmRA w' V r := by
 obtain ⟨o0, o1, o2, o3, p0, p1, p2, p3, A, B, c, d, e, h1, h2, h3, h4, h5, h6⟩ := h
 exact ⟨o0, o1, o2, o3, p0, p1, p2, p3, A, B, c, d, e, lasts_ra _ _ _ _ hk h1, lasts_ra _ _ _ _ hk h2, h3.below lasts_ra hk, h4.below lasts_ra hk, h5, h6⟩
def fewB (r : SmR) : Bool := shB 12 6 r.rd && shB 12 6 r.sx && decide (((r.ob.2.1.length : Int) + (r.ob.2.2.2.length : Int)) + ((r.sg.2.1.length : Int) + (r.sg.2.2.2.length : Int)) ≤ 12)
theorem few_arg {w : World} {V : Value} {r : SmR} (h : SmRA w V r) (hb : fewB r = true) : SmArg w V r.s := by
 obtain ⟨o0, o1, o2, o3, p0, p1, p2, p3, A, B, c, d, e, h1, h2, h3, h4, h5, h6⟩ := h
 unfold fewB at hb
 simp only [Bool.and_eq_true, decide_eq_true_eq] at hb
 obtain ⟨⟨b1, b2⟩, b3⟩ := hb
 exact ⟨o0, o1, o2, o3, p0, p1, p2, p3, A, B, c, d, e, h1.v2 (by unfold raD; omega), h2.v2 (by unfold raD; omega), h3.v2 fun x hx => by have := (shB_of b1).2 x hx; omega, h4.v2 fun x hx => by have := (shB_of b2).2 x hx; omega, by simpa [SmR.s] using h5, by simpa [SmR.s] using h6⟩
theorem few_sz {r : SmR} (hb : fewB r = true) : (szR r.s.ob.1 ≤ 20 ∧ szR r.s.sg.1 ≤ 20 ∧ (∀ x ∈ r.s.rd, szR x.1 ≤ 20) ∧ ∀ x ∈ r.s.sx, szR x.1 ≤ 20) ∧ r.s.rd.length ≤ 12 ∧ r.s.sx.length ≤ 12 := by
 unfold fewB at hb
 simp only [Bool.and_eq_true, decide_eq_true_eq] at hb
 obtain ⟨⟨b1, b2⟩, b3⟩ := hb
 have e1 := raQ_sz r.ob
 have e2 := raQ_sz r.sg
 unfold raD at e1 e2
 refine ⟨⟨show szR (raQ r.ob).1 ≤ 20 by omega, show szR (raQ r.sg).1 ≤ 20 by omega, fun x hx => ?_, fun x hx => ?_⟩, by simpa [SmR.s] using (shB_of b1).1, by simpa [SmR.s] using (shB_of b2).1⟩
 ·obtain ⟨y, hy, rfl⟩ := List.mem_map.1 hx
  have := (shB_of b1).2 y hy
  have := raQ_sz y
  omega
 ·obtain ⟨y, hy, rfl⟩ := List.mem_map.1 hx
  have := (shB_of b2).2 y hy
  have := raQ_sz y
  omega
set_option maxRecDepth 100000 in
set_option maxHeartbeats 1000000 in
theorem few_any {w : World} {V : Value} {r : SmR} (h : SmRA w V r) : Calls Tryz.prog 20 #[V] w fun e w' => e = .returned (.bool (fewB r)) ∧ Keeps w w' := by
 obtain ⟨o0, o1, o2, o3, p0, p1, p2, p3, A, B, c, d, rfl, h1, h2, h3, h4, h5, h6⟩ := h
 obtain ⟨A1, c1, B1, d1, rfl, rfl, rfl, rfl⟩ := h1.open4
 obtain ⟨A2, c2, B2, d2, rfl, rfl, rfl, rfl⟩ := h2.open4
 have HD1 := Lib.hid h1.2.1
 have HD2 := Lib.hid h1.2.2
 have HD3 := Lib.hid h2.2.1
 have HD4 := Lib.hid h2.2.2
 have e1 : r.s.rd.length = r.rd.length := List.length_map _
 have e2 : r.s.sx.length = r.sx.length := List.length_map _
 have HS1 := Lib.hid (fun (u : World) (hk : Keeps w u) => gsh_any (c := c) (h3.below lasts_ra hk) rfl h5 12 6 (by omega) (by omega))
 have HS2 := Lib.hid (fun (u : World) (hk : Keeps w u) => gsh_any (c := d) (h4.below lasts_ra hk) rfl h6 12 6 (by omega) (by omega))
 have hfb : fewB r = (shB 12 6 r.rd && shB 12 6 r.sx && decide (((r.ob.2.1.length : Int) + (r.ob.2.2.2.length : Int)) + ((r.sg.2.1.length : Int) + (r.sg.2.2.2.length : Int)) ≤ 12)) := rfl
 have S := (St.start w).alloc 49 (smL r.s (.bool r.ob.1) (.slice A1 r.ob.2.1.length c1) (.bool r.ob.2.2.1) (.slice B1 r.ob.2.2.2.length d1) (.bool r.sg.1) (.slice A2 r.sg.2.1.length c2) (.bool r.sg.2.2.1) (.slice B2 r.sg.2.2.2.length d2) A B c d)
 obtain ⟨W0, hW0, S⟩ := S.pack
 clear h1 h2 h3 h4
 simp only [smL, e1, e2] at S hW0 ⊢
 clear e1 e2
 generalize r.s.dim = g0 at *
 generalize r.s.st = g1 at *
 generalize r.s.pt = g2 at *
 generalize r.s.rw_ = g3 at *
 generalize r.s.fr = g4 at *
 generalize r.s.rk = g5 at *
 generalize r.s.wo = g6 at *
 obtain ⟨b1, hb1⟩ : ∃ b, shB 12 6 r.rd = b := ⟨_, rfl⟩
 obtain ⟨b2, hb2⟩ : ∃ b, shB 12 6 r.sx = b := ⟨_, rfl⟩
 rw [hb1] at hfb HS1
 rw [hb2] at hfb HS2
 obtain ⟨n1, hn1⟩ : ∃ n, r.ob.2.1.length = n := ⟨_, rfl⟩
 obtain ⟨m1, hm1⟩ : ∃ n, r.ob.2.2.2.length = n := ⟨_, rfl⟩
 obtain ⟨n2, hn2⟩ : ∃ n, r.sg.2.1.length = n := ⟨_, rfl⟩
 obtain ⟨m2, hm2⟩ : ∃ n, r.sg.2.2.2.length = n := ⟨_, rfl⟩
 rw [hn1] at hfb HD1 S hW0 ⊢
 rw [hm1] at hfb HD2 S hW0 ⊢
 rw [hn2] at hfb HD3 S hW0 ⊢
 rw [hm2] at hfb HD4 S hW0 ⊢
 have HFB := Lib.hid hfb
 have j1 := HD1.out
 have j2 := HD2.out
 have j3 := HD3.out
 have j4 := HD4.out
 have k1 : (n1 : Int) ≤ 35184372088832 := by omega
 have k2 : (m1 : Int) ≤ 35184372088832 := by omega
 have k3 : (n2 : Int) ≤ 35184372088832 := by omega
 have k4 : (m2 : Int) ≤ 35184372088832 := by omega
 generalize r.rd.length = n at *
 generalize r.sx.length = m at *
 generalize r.ob.1 = f0 at *
 generalize r.ob.2.2.1 = f1 at *
 generalize r.sg.1 = f2 at *
 generalize r.sg.2.2.1 = f3 at *
 clear hfb hb1 hb2 hn1 hm1 hn2 hm2 j1 j2 j3 j4
 have hw : IntKind.i64.wrap ((n1 : Int) + (m1 : Int) + ((n2 : Int) + (m2 : Int))) = (n1 : Int) + (m1 : Int) + ((n2 : Int) + (m2 : Int)) := IntWalk.i64_in _ (by omega)
 go_enter Tryz.func20, Tryz.ntmps20
 go_upto_region 1 with fail
 rcases Bool.eq_false_or_eq_true (b1) with rfl | rfl
 ·skip
  rcases Bool.eq_false_or_eq_true (b2) with rfl | rfl
  ·skip
   rcases Bool.eq_false_or_eq_true (decide (((n1 : Int) + (m1 : Int) + ((n2 : Int) + (m2 : Int))) ≤ 12)) with t3 | t3
   ·skip
    refine wp_region_steps (m := 18) rfl (by kernel_rfl) (fun iF vF wF => (List.getD [ve (.pointer (some ⟨w.heap.size, 14, none⟩)), ve (.slice A n c), ve (.bool true), ve (.bool true), ve (.pointer (some ⟨w.heap.size, 15, none⟩)), ve (.slice B m d), ve (.bool true), ve (.bool true), ve (.bool true), ve (.pointer (some ⟨w.heap.size, 6, none⟩)), ve (.agg #[.bool f0, .slice A1 n1 c1, .bool f1, .slice B1 m1 d1]), ve (.int .i64 ((n1 : Int) + (m1 : Int))), ve (.pointer (some ⟨w.heap.size, 10, none⟩)), ve (.agg #[.bool f2, .slice A2 n2 c2, .bool f3, .slice B2 m2 d2]), ve (.int .i64 ((n2 : Int) + (m2 : Int))), ve (.int .i64 ((n1 : Int) + (m1 : Int) + ((n2 : Int) + (m2 : Int)))), ve (.bool true), ve (.bool true)] iF (fun _ _ => True)) vF wF) [] ?_ ?_ ?_
    ·intro i v w w' _ h hk
     refine stabL_get ?_ i v w w' h hk
     exact stab_cons st_e (stab_cons st_e (stab_cons st_e (stab_cons st_e (stab_cons st_e (stab_cons st_e (stab_cons st_e (stab_cons st_e (stab_cons st_e (stab_cons st_e (stab_cons st_e (stab_cons st_e (stab_cons st_e (stab_cons st_e (stab_cons st_e (stab_cons st_e (stab_cons st_e (stab_cons st_e stab_nil)))))))))))))))))
    ·intro i hi vs w3 hk3 hd
     have S3 := S.drew.below hk3
     have a6 := S3.c 0 6 rfl rfl
     have a7 := S3.c 0 7 rfl rfl
     have a8 := S3.c 0 8 rfl rfl
     have a9 := S3.c 0 9 rfl rfl
     have a10 := S3.c 0 10 rfl rfl
     have a11 := S3.c 0 11 rfl rfl
     have a12 := S3.c 0 12 rfl rfl
     have a13 := S3.c 0 13 rfl rfl
     have a14 := S3.c 0 14 rfl rfl
     have a15 := S3.c 0 15 rfl rfl
     match i, hi with
     | 0, _ =>
      refine sv0 [] (ve (.pointer (some ⟨w.heap.size, 14, none⟩))) rfl fun K hK => ?_; clear hd; simp only [frD] at hK ⊢; go_simp
      exact hK _ _ bl rfl
     | 1, _ =>
      have qe0 : (vs 0) = .pointer (some ⟨w.heap.size, 14, none⟩) := hdk hd 0
      refine sv0 [(0, some 3)] (ve (.slice A n c)) rfl fun K hK => ?_; clear hd; simp only [frD, qe0] at hK ⊢; go_simp
      exact hK _ _ bl rfl
     | 2, _ =>
      have qe1 : (vs 1) = .slice A n c := hdk hd 1
      refine sc (A := #[(vs 1), .int .i64 12, .int .i64 6]) (B := #[.slice A n c, .int .i64 12, .int .i64 6]) [(1, some 4)] (ve (.bool true)) rfl (wanted_none rfl) (by rw [qe1]) Tryz.func8 ?_
      refine ((HS1.out _ S3.k)).mono ?_; rintro e w4 ⟨rfl, hk4⟩; exact ⟨_, rfl, hk4, rfl⟩
     | 3, _ =>
      have qe2 : (vs 2) = .bool true := hdk hd 2
      refine sv0 [(2, some 5)] (ve (.bool true)) rfl fun K hK => ?_; clear hd; simp only [frD, qe2] at hK ⊢; go_simp
      exact hK _ _ bl rfl
     | 4, _ =>
      have qe3 : (vs 3) = .bool true := hdk hd 3
      refine svg [(3, some 6)] (ve (.pointer (some ⟨w.heap.size, 15, none⟩))) rfl (ws 6 qe3) fun K hK => ?_; clear hd; simp only [frD, qe3] at hK ⊢; go_simp
      exact hK _ _ bl rfl
     | 5, _ =>
      have qe3 : (vs 3) = .bool true := hdk hd 3; have qe4 : (vs 4) = .pointer (some ⟨w.heap.size, 15, none⟩) := hdk hd 4
      refine svg [(3, some 6), (4, some 7)] (ve (.slice B m d)) rfl (ws 6 qe3) fun K hK => ?_; clear hd; simp only [frD, qe3, qe4] at hK ⊢; go_simp
      exact hK _ _ bl rfl
     | 6, _ =>
      have qe3 : (vs 3) = .bool true := hdk hd 3; have qe5 : (vs 5) = .slice B m d := hdk hd 5
      refine sc (A := #[(vs 5), .int .i64 12, .int .i64 6]) (B := #[.slice B m d, .int .i64 12, .int .i64 6]) [(3, some 6), (5, some 8)] (ve (.bool true)) rfl (ws 6 qe3) (by rw [qe5]) Tryz.func8 ?_
      refine ((HS2.out _ S3.k)).mono ?_; rintro e w4 ⟨rfl, hk4⟩; exact ⟨_, rfl, hk4, rfl⟩
     | 7, _ =>
      have qe3 : (vs 3) = .bool true := hdk hd 3; have qe6 : (vs 6) = .bool true := hdk hd 6
      refine sv0 [(3, some 6), (6, some 9)] (ve (.bool true)) rfl fun K hK => ?_; clear hd; simp only [frD, qe3, qe6] at hK ⊢; go_simp
      exact hK _ _ bl rfl
     | 8, _ =>
      have qe6 : (vs 6) = .bool true := hdk hd 6; have qe7 : (vs 7) = .bool true := hdk hd 7
      refine sv0 [(6, some 9), (7, some 10)] (ve (.bool true)) rfl fun K hK => ?_; clear hd; simp only [frD, qe6, qe7] at hK ⊢; go_simp
      exact hK _ _ bl rfl
     | 9, _ =>
      have qe8 : (vs 8) = .bool true := hdk hd 8
      refine svg [(8, some 11)] (ve (.pointer (some ⟨w.heap.size, 6, none⟩))) rfl (ws 11 qe8) fun K hK => ?_; clear hd; simp only [frD, qe8] at hK ⊢; go_simp
      exact hK _ _ bl rfl
     | 10, _ =>
      have qe8 : (vs 8) = .bool true := hdk hd 8; have qe9 : (vs 9) = .pointer (some ⟨w.heap.size, 6, none⟩) := hdk hd 9
      refine svg [(8, some 11), (9, some 12)] (ve (.agg #[.bool f0, .slice A1 n1 c1, .bool f1, .slice B1 m1 d1])) rfl (ws 11 qe8) fun K hK => ?_; clear hd; simp only [frD, qe8, qe9] at hK ⊢; go_simp
      exact hK _ _ bl rfl
     | 11, _ =>
      have qe8 : (vs 8) = .bool true := hdk hd 8; have qe10 : (vs 10) = .agg #[.bool f0, .slice A1 n1 c1, .bool f1, .slice B1 m1 d1] := hdk hd 10
      refine sc (A := #[(vs 10)]) (B := #[.agg #[.bool f0, .slice A1 n1 c1, .bool f1, .slice B1 m1 d1]]) [(8, some 11), (10, some 13)] (ve (.int .i64 ((n1 : Int) + (m1 : Int)))) rfl (ws 11 qe8) (by rw [qe10]) Tryz.func21 ?_
      refine ((rdigs_any HD1.out HD2.out)).mono ?_; rintro e w4 ⟨rfl, hk4⟩; exact ⟨_, rfl, hk4, rfl⟩
     | 12, _ =>
      have qe8 : (vs 8) = .bool true := hdk hd 8
      refine svg [(8, some 11)] (ve (.pointer (some ⟨w.heap.size, 10, none⟩))) rfl (ws 11 qe8) fun K hK => ?_; clear hd; simp only [frD, qe8] at hK ⊢; go_simp
      exact hK _ _ bl rfl
     | 13, _ =>
      have qe8 : (vs 8) = .bool true := hdk hd 8; have qe12 : (vs 12) = .pointer (some ⟨w.heap.size, 10, none⟩) := hdk hd 12
      refine svg [(8, some 11), (12, some 15)] (ve (.agg #[.bool f2, .slice A2 n2 c2, .bool f3, .slice B2 m2 d2])) rfl (ws 11 qe8) fun K hK => ?_; clear hd; simp only [frD, qe8, qe12] at hK ⊢; go_simp
      exact hK _ _ bl rfl
     | 14, _ =>
      have qe8 : (vs 8) = .bool true := hdk hd 8; have qe11 : (vs 11) = .int .i64 ((n1 : Int) + (m1 : Int)) := hdk hd 11; have qe13 : (vs 13) = .agg #[.bool f2, .slice A2 n2 c2, .bool f3, .slice B2 m2 d2] := hdk hd 13
      refine sc (A := #[(vs 13)]) (B := #[.agg #[.bool f2, .slice A2 n2 c2, .bool f3, .slice B2 m2 d2]]) [(8, some 11), (11, some 14), (13, some 16)] (ve (.int .i64 ((n2 : Int) + (m2 : Int)))) rfl (ws 11 qe8) (by rw [qe13]) Tryz.func21 ?_
      refine ((rdigs_any HD3.out HD4.out)).mono ?_; rintro e w4 ⟨rfl, hk4⟩; exact ⟨_, rfl, hk4, rfl⟩
     | 15, _ =>
      have qe8 : (vs 8) = .bool true := hdk hd 8; have qe11 : (vs 11) = .int .i64 ((n1 : Int) + (m1 : Int)) := hdk hd 11; have qe14 : (vs 14) = .int .i64 ((n2 : Int) + (m2 : Int)) := hdk hd 14
      refine svg [(8, some 11), (11, some 14), (14, some 17)] (ve (.int .i64 ((n1 : Int) + (m1 : Int) + ((n2 : Int) + (m2 : Int))))) rfl (ws 11 qe8) fun K hK => ?_; clear hd; simp only [frD, qe8, qe11, qe14] at hK ⊢; go_simp
      exact hK _ _ bl rfl
     | 16, _ =>
      have qe8 : (vs 8) = .bool true := hdk hd 8; have qe15 : (vs 15) = .int .i64 ((n1 : Int) + (m1 : Int) + ((n2 : Int) + (m2 : Int))) := hdk hd 15
      refine svg [(8, some 11), (15, some 18)] (ve (.bool true)) rfl (ws 11 qe8) fun K hK => ?_; clear hd; simp only [frD, qe8, qe15] at hK ⊢; go_simp
      exact hK _ _ bl rfl
     | 17, _ =>
      have qe8 : (vs 8) = .bool true := hdk hd 8; have qe16 : (vs 16) = .bool true := hdk hd 16
      refine sv0 [(8, some 11), (16, some 19)] (ve (.bool true)) rfl fun K hK => ?_; clear hd; simp only [frD, qe8, qe16] at hK ⊢; go_simp
      exact hK _ _ bl rfl
     | i + 18, hi => exact absurd hi (by omega)
    ·intro vs W21 hk3 hΦ _
     simp only [List.drop_succ_cons, List.drop_zero]
     rw [fr_frD, show (List.range 18).map _ = [(0, some 3), (1, some 4), (2, some 5), (3, some 6), (4, some 7), (5, some 8), (6, some 9), (7, some 10), (8, some 11), (9, some 12), (10, some 13), (11, some 14), (12, some 15), (13, some 16), (14, some 17), (15, some 18), (16, some 19), (17, some 20)] by kernel_rfl]
     have pd0 : (vs 0) = .pointer (some ⟨w.heap.size, 14, none⟩) := hΦ 0 (by decide)
     have pd1 : (vs 1) = .slice A n c := hΦ 1 (by decide)
     have pd2 : (vs 2) = .bool true := hΦ 2 (by decide)
     have pd3 : (vs 3) = .bool true := hΦ 3 (by decide)
     have pd4 : (vs 4) = .pointer (some ⟨w.heap.size, 15, none⟩) := hΦ 4 (by decide)
     have pd5 : (vs 5) = .slice B m d := hΦ 5 (by decide)
     have pd6 : (vs 6) = .bool true := hΦ 6 (by decide)
     have pd7 : (vs 7) = .bool true := hΦ 7 (by decide)
     have pd8 : (vs 8) = .bool true := hΦ 8 (by decide)
     have pd9 : (vs 9) = .pointer (some ⟨w.heap.size, 6, none⟩) := hΦ 9 (by decide)
     have pd10 : (vs 10) = .agg #[.bool f0, .slice A1 n1 c1, .bool f1, .slice B1 m1 d1] := hΦ 10 (by decide)
     have pd11 : (vs 11) = .int .i64 ((n1 : Int) + (m1 : Int)) := hΦ 11 (by decide)
     have pd12 : (vs 12) = .pointer (some ⟨w.heap.size, 10, none⟩) := hΦ 12 (by decide)
     have pd13 : (vs 13) = .agg #[.bool f2, .slice A2 n2 c2, .bool f3, .slice B2 m2 d2] := hΦ 13 (by decide)
     have pd14 : (vs 14) = .int .i64 ((n2 : Int) + (m2 : Int)) := hΦ 14 (by decide)
     have pd15 : (vs 15) = .int .i64 ((n1 : Int) + (m1 : Int) + ((n2 : Int) + (m2 : Int))) := hΦ 15 (by decide)
     have pd16 : (vs 16) = .bool true := hΦ 16 (by decide)
     have pd17 : (vs 17) = .bool true := hΦ 17 (by decide)
     clear hΦ
     simp only [frD, pd0, pd1, pd2, pd3, pd4, pd5, pd6, pd7, pd8, pd9, pd10, pd11, pd12, pd13, pd14, pd15, pd16, pd17]
     simp only [Act.put, List.setIfInBounds_toArray, List.set_cons_zero, List.set_cons_succ]
     clear pd0 pd1 pd2 pd3 pd4 pd5 pd6 pd7 pd8 pd9 pd10 pd11 pd12 pd13 pd14 pd15 pd16 pd17
     replace S := S.drew.below hk3
     clear hk3
     go_wp2
     go_ret
     exact ⟨by rw [HFB.out, t3]; rfl, S.k⟩
   ·skip
    refine wp_region_steps (m := 18) rfl (by kernel_rfl) (fun iF vF wF => (List.getD [ve (.pointer (some ⟨w.heap.size, 14, none⟩)), ve (.slice A n c), ve (.bool true), ve (.bool true), ve (.pointer (some ⟨w.heap.size, 15, none⟩)), ve (.slice B m d), ve (.bool true), ve (.bool true), ve (.bool true), ve (.pointer (some ⟨w.heap.size, 6, none⟩)), ve (.agg #[.bool f0, .slice A1 n1 c1, .bool f1, .slice B1 m1 d1]), ve (.int .i64 ((n1 : Int) + (m1 : Int))), ve (.pointer (some ⟨w.heap.size, 10, none⟩)), ve (.agg #[.bool f2, .slice A2 n2 c2, .bool f3, .slice B2 m2 d2]), ve (.int .i64 ((n2 : Int) + (m2 : Int))), ve (.int .i64 ((n1 : Int) + (m1 : Int) + ((n2 : Int) + (m2 : Int)))), ve (.bool false), ve (.bool false)] iF (fun _ _ => True)) vF wF) [] ?_ ?_ ?_
    ·intro i v w w' _ h hk
     refine stabL_get ?_ i v w w' h hk
     exact stab_cons st_e (stab_cons st_e (stab_cons st_e (stab_cons st_e (stab_cons st_e (stab_cons st_e (stab_cons st_e (stab_cons st_e (stab_cons st_e (stab_cons st_e (stab_cons st_e (stab_cons st_e (stab_cons st_e (stab_cons st_e (stab_cons st_e (stab_cons st_e (stab_cons st_e (stab_cons st_e stab_nil)))))))))))))))))
    ·intro i hi vs w3 hk3 hd
     have S3 := S.drew.below hk3
     have a6 := S3.c 0 6 rfl rfl
     have a7 := S3.c 0 7 rfl rfl
     have a8 := S3.c 0 8 rfl rfl
     have a9 := S3.c 0 9 rfl rfl
     have a10 := S3.c 0 10 rfl rfl
     have a11 := S3.c 0 11 rfl rfl
     have a12 := S3.c 0 12 rfl rfl
     have a13 := S3.c 0 13 rfl rfl
     have a14 := S3.c 0 14 rfl rfl
     have a15 := S3.c 0 15 rfl rfl
     match i, hi with
     | 0, _ =>
      refine sv0 [] (ve (.pointer (some ⟨w.heap.size, 14, none⟩))) rfl fun K hK => ?_; clear hd; simp only [frD] at hK ⊢; go_simp
      exact hK _ _ bl rfl
     | 1, _ =>
      have qe0 : (vs 0) = .pointer (some ⟨w.heap.size, 14, none⟩) := hdk hd 0
      refine sv0 [(0, some 3)] (ve (.slice A n c)) rfl fun K hK => ?_; clear hd; simp only [frD, qe0] at hK ⊢; go_simp
      exact hK _ _ bl rfl
     | 2, _ =>
      have qe1 : (vs 1) = .slice A n c := hdk hd 1
      refine sc (A := #[(vs 1), .int .i64 12, .int .i64 6]) (B := #[.slice A n c, .int .i64 12, .int .i64 6]) [(1, some 4)] (ve (.bool true)) rfl (wanted_none rfl) (by rw [qe1]) Tryz.func8 ?_
      refine ((HS1.out _ S3.k)).mono ?_; rintro e w4 ⟨rfl, hk4⟩; exact ⟨_, rfl, hk4, rfl⟩
     | 3, _ =>
      have qe2 : (vs 2) = .bool true := hdk hd 2
      refine sv0 [(2, some 5)] (ve (.bool true)) rfl fun K hK => ?_; clear hd; simp only [frD, qe2] at hK ⊢; go_simp
      exact hK _ _ bl rfl
     | 4, _ =>
      have qe3 : (vs 3) = .bool true := hdk hd 3
      refine svg [(3, some 6)] (ve (.pointer (some ⟨w.heap.size, 15, none⟩))) rfl (ws 6 qe3) fun K hK => ?_; clear hd; simp only [frD, qe3] at hK ⊢; go_simp
      exact hK _ _ bl rfl
     | 5, _ =>
      have qe3 : (vs 3) = .bool true := hdk hd 3; have qe4 : (vs 4) = .pointer (some ⟨w.heap.size, 15, none⟩) := hdk hd 4
      refine svg [(3, some 6), (4, some 7)] (ve (.slice B m d)) rfl (ws 6 qe3) fun K hK => ?_; clear hd; simp only [frD, qe3, qe4] at hK ⊢; go_simp
      exact hK _ _ bl rfl
     | 6, _ =>
      have qe3 : (vs 3) = .bool true := hdk hd 3; have qe5 : (vs 5) = .slice B m d := hdk hd 5
      refine sc (A := #[(vs 5), .int .i64 12, .int .i64 6]) (B := #[.slice B m d, .int .i64 12, .int .i64 6]) [(3, some 6), (5, some 8)] (ve (.bool true)) rfl (ws 6 qe3) (by rw [qe5]) Tryz.func8 ?_
      refine ((HS2.out _ S3.k)).mono ?_; rintro e w4 ⟨rfl, hk4⟩; exact ⟨_, rfl, hk4, rfl⟩
     | 7, _ =>
      have qe3 : (vs 3) = .bool true := hdk hd 3; have qe6 : (vs 6) = .bool true := hdk hd 6
      refine sv0 [(3, some 6), (6, some 9)] (ve (.bool true)) rfl fun K hK => ?_; clear hd; simp only [frD, qe3, qe6] at hK ⊢; go_simp
      exact hK _ _ bl rfl
     | 8, _ =>
      have qe6 : (vs 6) = .bool true := hdk hd 6; have qe7 : (vs 7) = .bool true := hdk hd 7
      refine sv0 [(6, some 9), (7, some 10)] (ve (.bool true)) rfl fun K hK => ?_; clear hd; simp only [frD, qe6, qe7] at hK ⊢; go_simp
      exact hK _ _ bl rfl
     | 9, _ =>
      have qe8 : (vs 8) = .bool true := hdk hd 8
      refine svg [(8, some 11)] (ve (.pointer (some ⟨w.heap.size, 6, none⟩))) rfl (ws 11 qe8) fun K hK => ?_; clear hd; simp only [frD, qe8] at hK ⊢; go_simp
      exact hK _ _ bl rfl
     | 10, _ =>
      have qe8 : (vs 8) = .bool true := hdk hd 8; have qe9 : (vs 9) = .pointer (some ⟨w.heap.size, 6, none⟩) := hdk hd 9
      refine svg [(8, some 11), (9, some 12)] (ve (.agg #[.bool f0, .slice A1 n1 c1, .bool f1, .slice B1 m1 d1])) rfl (ws 11 qe8) fun K hK => ?_; clear hd; simp only [frD, qe8, qe9] at hK ⊢; go_simp
      exact hK _ _ bl rfl
     | 11, _ =>
      have qe8 : (vs 8) = .bool true := hdk hd 8; have qe10 : (vs 10) = .agg #[.bool f0, .slice A1 n1 c1, .bool f1, .slice B1 m1 d1] := hdk hd 10
      refine sc (A := #[(vs 10)]) (B := #[.agg #[.bool f0, .slice A1 n1 c1, .bool f1, .slice B1 m1 d1]]) [(8, some 11), (10, some 13)] (ve (.int .i64 ((n1 : Int) + (m1 : Int)))) rfl (ws 11 qe8) (by rw [qe10]) Tryz.func21 ?_
      refine ((rdigs_any HD1.out HD2.out)).mono ?_; rintro e w4 ⟨rfl, hk4⟩; exact ⟨_, rfl, hk4, rfl⟩
     | 12, _ =>
      have qe8 : (vs 8) = .bool true := hdk hd 8
      refine svg [(8, some 11)] (ve (.pointer (some ⟨w.heap.size, 10, none⟩))) rfl (ws 11 qe8) fun K hK => ?_; clear hd; simp only [frD, qe8] at hK ⊢; go_simp
      exact hK _ _ bl rfl
     | 13, _ =>
      have qe8 : (vs 8) = .bool true := hdk hd 8; have qe12 : (vs 12) = .pointer (some ⟨w.heap.size, 10, none⟩) := hdk hd 12
      refine svg [(8, some 11), (12, some 15)] (ve (.agg #[.bool f2, .slice A2 n2 c2, .bool f3, .slice B2 m2 d2])) rfl (ws 11 qe8) fun K hK => ?_; clear hd; simp only [frD, qe8, qe12] at hK ⊢; go_simp
      exact hK _ _ bl rfl
     | 14, _ =>
      have qe8 : (vs 8) = .bool true := hdk hd 8; have qe11 : (vs 11) = .int .i64 ((n1 : Int) + (m1 : Int)) := hdk hd 11; have qe13 : (vs 13) = .agg #[.bool f2, .slice A2 n2 c2, .bool f3, .slice B2 m2 d2] := hdk hd 13
      refine sc (A := #[(vs 13)]) (B := #[.agg #[.bool f2, .slice A2 n2 c2, .bool f3, .slice B2 m2 d2]]) [(8, some 11), (11, some 14), (13, some 16)] (ve (.int .i64 ((n2 : Int) + (m2 : Int)))) rfl (ws 11 qe8) (by rw [qe13]) Tryz.func21 ?_
      refine ((rdigs_any HD3.out HD4.out)).mono ?_; rintro e w4 ⟨rfl, hk4⟩; exact ⟨_, rfl, hk4, rfl⟩
     | 15, _ =>
      have qe8 : (vs 8) = .bool true := hdk hd 8; have qe11 : (vs 11) = .int .i64 ((n1 : Int) + (m1 : Int)) := hdk hd 11; have qe14 : (vs 14) = .int .i64 ((n2 : Int) + (m2 : Int)) := hdk hd 14
      refine svg [(8, some 11), (11, some 14), (14, some 17)] (ve (.int .i64 ((n1 : Int) + (m1 : Int) + ((n2 : Int) + (m2 : Int))))) rfl (ws 11 qe8) fun K hK => ?_; clear hd; simp only [frD, qe8, qe11, qe14] at hK ⊢; go_simp
      exact hK _ _ bl rfl
     | 16, _ =>
      have qe8 : (vs 8) = .bool true := hdk hd 8; have qe15 : (vs 15) = .int .i64 ((n1 : Int) + (m1 : Int) + ((n2 : Int) + (m2 : Int))) := hdk hd 15
      refine svg [(8, some 11), (15, some 18)] (ve (.bool false)) rfl (ws 11 qe8) fun K hK => ?_; clear hd; simp only [frD, qe8, qe15] at hK ⊢; go_simp
      exact hK _ _ bl rfl
     | 17, _ =>
      have qe8 : (vs 8) = .bool true := hdk hd 8; have qe16 : (vs 16) = .bool false := hdk hd 16
      refine sv0 [(8, some 11), (16, some 19)] (ve (.bool false)) rfl fun K hK => ?_; clear hd; simp only [frD, qe8, qe16] at hK ⊢; go_simp
      exact hK _ _ bl rfl
     | i + 18, hi => exact absurd hi (by omega)
    ·intro vs W21 hk3 hΦ _
     simp only [List.drop_succ_cons, List.drop_zero]
     rw [fr_frD, show (List.range 18).map _ = [(0, some 3), (1, some 4), (2, some 5), (3, some 6), (4, some 7), (5, some 8), (6, some 9), (7, some 10), (8, some 11), (9, some 12), (10, some 13), (11, some 14), (12, some 15), (13, some 16), (14, some 17), (15, some 18), (16, some 19), (17, some 20)] by kernel_rfl]
     have pd0 : (vs 0) = .pointer (some ⟨w.heap.size, 14, none⟩) := hΦ 0 (by decide)
     have pd1 : (vs 1) = .slice A n c := hΦ 1 (by decide)
     have pd2 : (vs 2) = .bool true := hΦ 2 (by decide)
     have pd3 : (vs 3) = .bool true := hΦ 3 (by decide)
     have pd4 : (vs 4) = .pointer (some ⟨w.heap.size, 15, none⟩) := hΦ 4 (by decide)
     have pd5 : (vs 5) = .slice B m d := hΦ 5 (by decide)
     have pd6 : (vs 6) = .bool true := hΦ 6 (by decide)
     have pd7 : (vs 7) = .bool true := hΦ 7 (by decide)
     have pd8 : (vs 8) = .bool true := hΦ 8 (by decide)
     have pd9 : (vs 9) = .pointer (some ⟨w.heap.size, 6, none⟩) := hΦ 9 (by decide)
     have pd10 : (vs 10) = .agg #[.bool f0, .slice A1 n1 c1, .bool f1, .slice B1 m1 d1] := hΦ 10 (by decide)
     have pd11 : (vs 11) = .int .i64 ((n1 : Int) + (m1 : Int)) := hΦ 11 (by decide)
     have pd12 : (vs 12) = .pointer (some ⟨w.heap.size, 10, none⟩) := hΦ 12 (by decide)
     have pd13 : (vs 13) = .agg #[.bool f2, .slice A2 n2 c2, .bool f3, .slice B2 m2 d2] := hΦ 13 (by decide)
     have pd14 : (vs 14) = .int .i64 ((n2 : Int) + (m2 : Int)) := hΦ 14 (by decide)
     have pd15 : (vs 15) = .int .i64 ((n1 : Int) + (m1 : Int) + ((n2 : Int) + (m2 : Int))) := hΦ 15 (by decide)
     have pd16 : (vs 16) = .bool false := hΦ 16 (by decide)
     have pd17 : (vs 17) = .bool false := hΦ 17 (by decide)
     clear hΦ
     simp only [frD, pd0, pd1, pd2, pd3, pd4, pd5, pd6, pd7, pd8, pd9, pd10, pd11, pd12, pd13, pd14, pd15, pd16, pd17]
     simp only [Act.put, List.setIfInBounds_toArray, List.set_cons_zero, List.set_cons_succ]
     clear pd0 pd1 pd2 pd3 pd4 pd5 pd6 pd7 pd8 pd9 pd10 pd11 pd12 pd13 pd14 pd15 pd16 pd17
     replace S := S.drew.below hk3
     clear hk3
     go_wp2
     go_ret
     exact ⟨by rw [HFB.out, t3]; rfl, S.k⟩
  ·skip
   refine wp_region_steps (m := 18) rfl (by kernel_rfl) (fun iF vF wF => (List.getD [ve (.pointer (some ⟨w.heap.size, 14, none⟩)), ve (.slice A n c), ve (.bool true), ve (.bool true), ve (.pointer (some ⟨w.heap.size, 15, none⟩)), ve (.slice B m d), ve (.bool false), ve (.bool false), ve (.bool false), ve undef, ve undef, ve undef, ve undef, ve undef, ve undef, ve undef, ve undef, ve (.bool false)] iF (fun _ _ => True)) vF wF) [] ?_ ?_ ?_
   ·intro i v w w' _ h hk
    refine stabL_get ?_ i v w w' h hk
    exact stab_cons st_e (stab_cons st_e (stab_cons st_e (stab_cons st_e (stab_cons st_e (stab_cons st_e (stab_cons st_e (stab_cons st_e (stab_cons st_e (stab_cons st_e (stab_cons st_e (stab_cons st_e (stab_cons st_e (stab_cons st_e (stab_cons st_e (stab_cons st_e (stab_cons st_e (stab_cons st_e stab_nil)))))))))))))))))
   ·intro i hi vs w3 hk3 hd
    have S3 := S.drew.below hk3
    have a6 := S3.c 0 6 rfl rfl
    have a7 := S3.c 0 7 rfl rfl
    have a8 := S3.c 0 8 rfl rfl
    have a9 := S3.c 0 9 rfl rfl
    have a10 := S3.c 0 10 rfl rfl
    have a11 := S3.c 0 11 rfl rfl
    have a12 := S3.c 0 12 rfl rfl
    have a13 := S3.c 0 13 rfl rfl
    have a14 := S3.c 0 14 rfl rfl
    have a15 := S3.c 0 15 rfl rfl
    match i, hi with
    | 0, _ =>
     refine sv0 [] (ve (.pointer (some ⟨w.heap.size, 14, none⟩))) rfl fun K hK => ?_; clear hd; simp only [frD] at hK ⊢; go_simp
     exact hK _ _ bl rfl
    | 1, _ =>
     have qe0 : (vs 0) = .pointer (some ⟨w.heap.size, 14, none⟩) := hdk hd 0
     refine sv0 [(0, some 3)] (ve (.slice A n c)) rfl fun K hK => ?_; clear hd; simp only [frD, qe0] at hK ⊢; go_simp
     exact hK _ _ bl rfl
    | 2, _ =>
     have qe1 : (vs 1) = .slice A n c := hdk hd 1
     refine sc (A := #[(vs 1), .int .i64 12, .int .i64 6]) (B := #[.slice A n c, .int .i64 12, .int .i64 6]) [(1, some 4)] (ve (.bool true)) rfl (wanted_none rfl) (by rw [qe1]) Tryz.func8 ?_
     refine ((HS1.out _ S3.k)).mono ?_; rintro e w4 ⟨rfl, hk4⟩; exact ⟨_, rfl, hk4, rfl⟩
    | 3, _ =>
     have qe2 : (vs 2) = .bool true := hdk hd 2
     refine sv0 [(2, some 5)] (ve (.bool true)) rfl fun K hK => ?_; clear hd; simp only [frD, qe2] at hK ⊢; go_simp
     exact hK _ _ bl rfl
    | 4, _ =>
     have qe3 : (vs 3) = .bool true := hdk hd 3
     refine svg [(3, some 6)] (ve (.pointer (some ⟨w.heap.size, 15, none⟩))) rfl (ws 6 qe3) fun K hK => ?_; clear hd; simp only [frD, qe3] at hK ⊢; go_simp
     exact hK _ _ bl rfl
    | 5, _ =>
     have qe3 : (vs 3) = .bool true := hdk hd 3; have qe4 : (vs 4) = .pointer (some ⟨w.heap.size, 15, none⟩) := hdk hd 4
     refine svg [(3, some 6), (4, some 7)] (ve (.slice B m d)) rfl (ws 6 qe3) fun K hK => ?_; clear hd; simp only [frD, qe3, qe4] at hK ⊢; go_simp
     exact hK _ _ bl rfl
    | 6, _ =>
     have qe3 : (vs 3) = .bool true := hdk hd 3; have qe5 : (vs 5) = .slice B m d := hdk hd 5
     refine sc (A := #[(vs 5), .int .i64 12, .int .i64 6]) (B := #[.slice B m d, .int .i64 12, .int .i64 6]) [(3, some 6), (5, some 8)] (ve (.bool false)) rfl (ws 6 qe3) (by rw [qe5]) Tryz.func8 ?_
     refine ((HS2.out _ S3.k)).mono ?_; rintro e w4 ⟨rfl, hk4⟩; exact ⟨_, rfl, hk4, rfl⟩
    | 7, _ =>
     have qe3 : (vs 3) = .bool true := hdk hd 3; have qe6 : (vs 6) = .bool false := hdk hd 6
     refine sv0 [(3, some 6), (6, some 9)] (ve (.bool false)) rfl fun K hK => ?_; clear hd; simp only [frD, qe3, qe6] at hK ⊢; go_simp
     exact hK _ _ bl rfl
    | 8, _ =>
     have qe6 : (vs 6) = .bool false := hdk hd 6; have qe7 : (vs 7) = .bool false := hdk hd 7
     refine sv0 [(6, some 9), (7, some 10)] (ve (.bool false)) rfl fun K hK => ?_; clear hd; simp only [frD, qe6, qe7] at hK ⊢; go_simp
     exact hK _ _ bl rfl
    | 9, _ =>
     have qe8 : (vs 8) = .bool false := hdk hd 8
     exact step_no [(8, some 11)] rfl (by kernel_rfl) (by simp only [frD, qe8]; rfl) rfl (by simp)
    | 10, _ =>
     have qe8 : (vs 8) = .bool false := hdk hd 8; have qe9 : (vs 9) = undef := hdk hd 9
     exact step_no [(8, some 11), (9, some 12)] rfl (by kernel_rfl) (by simp only [frD, qe8, qe9]; rfl) rfl (by simp)
    | 11, _ =>
     have qe8 : (vs 8) = .bool false := hdk hd 8; have qe10 : (vs 10) = undef := hdk hd 10
     exact step_no [(8, some 11), (10, some 13)] rfl (by kernel_rfl) (by simp only [frD, qe8, qe10]; rfl) rfl (by simp)
    | 12, _ =>
     have qe8 : (vs 8) = .bool false := hdk hd 8
     exact step_no [(8, some 11)] rfl (by kernel_rfl) (by simp only [frD, qe8]; rfl) rfl (by simp)
    | 13, _ =>
     have qe8 : (vs 8) = .bool false := hdk hd 8; have qe12 : (vs 12) = undef := hdk hd 12
     exact step_no [(8, some 11), (12, some 15)] rfl (by kernel_rfl) (by simp only [frD, qe8, qe12]; rfl) rfl (by simp)
    | 14, _ =>
     have qe8 : (vs 8) = .bool false := hdk hd 8; have qe11 : (vs 11) = undef := hdk hd 11; have qe13 : (vs 13) = undef := hdk hd 13
     exact step_no [(8, some 11), (11, some 14), (13, some 16)] rfl (by kernel_rfl) (by simp only [frD, qe8, qe11, qe13]; rfl) rfl (by simp)
    | 15, _ =>
     have qe8 : (vs 8) = .bool false := hdk hd 8; have qe11 : (vs 11) = undef := hdk hd 11; have qe14 : (vs 14) = undef := hdk hd 14
     exact step_no [(8, some 11), (11, some 14), (14, some 17)] rfl (by kernel_rfl) (by simp only [frD, qe8, qe11, qe14]; rfl) rfl (by simp)
    | 16, _ =>
     have qe8 : (vs 8) = .bool false := hdk hd 8; have qe15 : (vs 15) = undef := hdk hd 15
     exact step_no [(8, some 11), (15, some 18)] rfl (by kernel_rfl) (by simp only [frD, qe8, qe15]; rfl) rfl (by simp)
    | 17, _ =>
     have qe8 : (vs 8) = .bool false := hdk hd 8; have qe16 : (vs 16) = undef := hdk hd 16
     refine sv0 [(8, some 11), (16, some 19)] (ve (.bool false)) rfl fun K hK => ?_; clear hd; simp only [frD, qe8, qe16] at hK ⊢; go_simp
     exact hK _ _ bl rfl
    | i + 18, hi => exact absurd hi (by omega)
   ·intro vs W21 hk3 hΦ _
    simp only [List.drop_succ_cons, List.drop_zero]
    rw [fr_frD, show (List.range 18).map _ = [(0, some 3), (1, some 4), (2, some 5), (3, some 6), (4, some 7), (5, some 8), (6, some 9), (7, some 10), (8, some 11), (9, some 12), (10, some 13), (11, some 14), (12, some 15), (13, some 16), (14, some 17), (15, some 18), (16, some 19), (17, some 20)] by kernel_rfl]
    have pd0 : (vs 0) = .pointer (some ⟨w.heap.size, 14, none⟩) := hΦ 0 (by decide)
    have pd1 : (vs 1) = .slice A n c := hΦ 1 (by decide)
    have pd2 : (vs 2) = .bool true := hΦ 2 (by decide)
    have pd3 : (vs 3) = .bool true := hΦ 3 (by decide)
    have pd4 : (vs 4) = .pointer (some ⟨w.heap.size, 15, none⟩) := hΦ 4 (by decide)
    have pd5 : (vs 5) = .slice B m d := hΦ 5 (by decide)
    have pd6 : (vs 6) = .bool false := hΦ 6 (by decide)
    have pd7 : (vs 7) = .bool false := hΦ 7 (by decide)
    have pd8 : (vs 8) = .bool false := hΦ 8 (by decide)
    have pd9 : (vs 9) = undef := hΦ 9 (by decide)
    have pd10 : (vs 10) = undef := hΦ 10 (by decide)
    have pd11 : (vs 11) = undef := hΦ 11 (by decide)
    have pd12 : (vs 12) = undef := hΦ 12 (by decide)
    have pd13 : (vs 13) = undef := hΦ 13 (by decide)
    have pd14 : (vs 14) = undef := hΦ 14 (by decide)
    have pd15 : (vs 15) = undef := hΦ 15 (by decide)
    have pd16 : (vs 16) = undef := hΦ 16 (by decide)
    have pd17 : (vs 17) = .bool false := hΦ 17 (by decide)
    clear hΦ
    simp only [frD, pd0, pd1, pd2, pd3, pd4, pd5, pd6, pd7, pd8, pd9, pd10, pd11, pd12, pd13, pd14, pd15, pd16, pd17]
    simp only [Act.put, List.setIfInBounds_toArray, List.set_cons_zero, List.set_cons_succ]
    clear pd0 pd1 pd2 pd3 pd4 pd5 pd6 pd7 pd8 pd9 pd10 pd11 pd12 pd13 pd14 pd15 pd16 pd17
    replace S := S.drew.below hk3
    clear hk3
    go_wp2
    go_ret
    exact ⟨by rw [HFB.out]; rfl, S.k⟩
 ·skip
  refine wp_region_steps (m := 18) rfl (by kernel_rfl) (fun iF vF wF => (List.getD [ve (.pointer (some ⟨w.heap.size, 14, none⟩)), ve (.slice A n c), ve (.bool false), ve (.bool false), ve undef, ve undef, ve undef, ve (.bool false), ve (.bool false), ve undef, ve undef, ve undef, ve undef, ve undef, ve undef, ve undef, ve undef, ve (.bool false)] iF (fun _ _ => True)) vF wF) [] ?_ ?_ ?_
  ·intro i v w w' _ h hk
   refine stabL_get ?_ i v w w' h hk
   exact stab_cons st_e (stab_cons st_e (stab_cons st_e (stab_cons st_e (stab_cons st_e (stab_cons st_e (stab_cons st_e (stab_cons st_e (stab_cons st_e (stab_cons st_e (stab_cons st_e (stab_cons st_e (stab_cons st_e (stab_cons st_e (stab_cons st_e (stab_cons st_e (stab_cons st_e (stab_cons st_e stab_nil)))))))))))))))))
  ·intro i hi vs w3 hk3 hd
   have S3 := S.drew.below hk3
   have a6 := S3.c 0 6 rfl rfl
   have a7 := S3.c 0 7 rfl rfl
   have a8 := S3.c 0 8 rfl rfl
   have a9 := S3.c 0 9 rfl rfl
   have a10 := S3.c 0 10 rfl rfl
   have a11 := S3.c 0 11 rfl rfl
   have a12 := S3.c 0 12 rfl rfl
   have a13 := S3.c 0 13 rfl rfl
   have a14 := S3.c 0 14 rfl rfl
   have a15 := S3.c 0 15 rfl rfl
   match i, hi with
   | 0, _ =>
    refine sv0 [] (ve (.pointer (some ⟨w.heap.size, 14, none⟩))) rfl fun K hK => ?_; clear hd; simp only [frD] at hK ⊢; go_simp
    exact hK _ _ bl rfl
   | 1, _ =>
    have qe0 : (vs 0) = .pointer (some ⟨w.heap.size, 14, none⟩) := hdk hd 0
    refine sv0 [(0, some 3)] (ve (.slice A n c)) rfl fun K hK => ?_; clear hd; simp only [frD, qe0] at hK ⊢; go_simp
    exact hK _ _ bl rfl
   | 2, _ =>
    have qe1 : (vs 1) = .slice A n c := hdk hd 1
    refine sc (A := #[(vs 1), .int .i64 12, .int .i64 6]) (B := #[.slice A n c, .int .i64 12, .int .i64 6]) [(1, some 4)] (ve (.bool false)) rfl (wanted_none rfl) (by rw [qe1]) Tryz.func8 ?_
    refine ((HS1.out _ S3.k)).mono ?_; rintro e w4 ⟨rfl, hk4⟩; exact ⟨_, rfl, hk4, rfl⟩
   | 3, _ =>
    have qe2 : (vs 2) = .bool false := hdk hd 2
    refine sv0 [(2, some 5)] (ve (.bool false)) rfl fun K hK => ?_; clear hd; simp only [frD, qe2] at hK ⊢; go_simp
    exact hK _ _ bl rfl
   | 4, _ =>
    have qe3 : (vs 3) = .bool false := hdk hd 3
    exact step_no [(3, some 6)] rfl (by kernel_rfl) (by simp only [frD, qe3]; rfl) rfl (by simp)
   | 5, _ =>
    have qe3 : (vs 3) = .bool false := hdk hd 3; have qe4 : (vs 4) = undef := hdk hd 4
    exact step_no [(3, some 6), (4, some 7)] rfl (by kernel_rfl) (by simp only [frD, qe3, qe4]; rfl) rfl (by simp)
   | 6, _ =>
    have qe3 : (vs 3) = .bool false := hdk hd 3; have qe5 : (vs 5) = undef := hdk hd 5
    exact step_no [(3, some 6), (5, some 8)] rfl (by kernel_rfl) (by simp only [frD, qe3, qe5]; rfl) rfl (by simp)
   | 7, _ =>
    have qe3 : (vs 3) = .bool false := hdk hd 3; have qe6 : (vs 6) = undef := hdk hd 6
    refine sv0 [(3, some 6), (6, some 9)] (ve (.bool false)) rfl fun K hK => ?_; clear hd; simp only [frD, qe3, qe6] at hK ⊢; go_simp
    exact hK _ _ bl rfl
   | 8, _ =>
    have qe6 : (vs 6) = undef := hdk hd 6; have qe7 : (vs 7) = .bool false := hdk hd 7
    refine sv0 [(6, some 9), (7, some 10)] (ve (.bool false)) rfl fun K hK => ?_; clear hd; simp only [frD, qe6, qe7] at hK ⊢; go_simp
    exact hK _ _ bl rfl
   | 9, _ =>
    have qe8 : (vs 8) = .bool false := hdk hd 8
    exact step_no [(8, some 11)] rfl (by kernel_rfl) (by simp only [frD, qe8]; rfl) rfl (by simp)
   | 10, _ =>
    have qe8 : (vs 8) = .bool false := hdk hd 8; have qe9 : (vs 9) = undef := hdk hd 9
    exact step_no [(8, some 11), (9, some 12)] rfl (by kernel_rfl) (by simp only [frD, qe8, qe9]; rfl) rfl (by simp)
   | 11, _ =>
    have qe8 : (vs 8) = .bool false := hdk hd 8; have qe10 : (vs 10) = undef := hdk hd 10
    exact step_no [(8, some 11), (10, some 13)] rfl (by kernel_rfl) (by simp only [frD, qe8, qe10]; rfl) rfl (by simp)
   | 12, _ =>
    have qe8 : (vs 8) = .bool false := hdk hd 8
    exact step_no [(8, some 11)] rfl (by kernel_rfl) (by simp only [frD, qe8]; rfl) rfl (by simp)
   | 13, _ =>
    have qe8 : (vs 8) = .bool false := hdk hd 8; have qe12 : (vs 12) = undef := hdk hd 12
    exact step_no [(8, some 11), (12, some 15)] rfl (by kernel_rfl) (by simp only [frD, qe8, qe12]; rfl) rfl (by simp)
   | 14, _ =>
    have qe8 : (vs 8) = .bool false := hdk hd 8; have qe11 : (vs 11) = undef := hdk hd 11; have qe13 : (vs 13) = undef := hdk hd 13
    exact step_no [(8, some 11), (11, some 14), (13, some 16)] rfl (by kernel_rfl) (by simp only [frD, qe8, qe11, qe13]; rfl) rfl (by simp)
   | 15, _ =>
    have qe8 : (vs 8) = .bool false := hdk hd 8; have qe11 : (vs 11) = undef := hdk hd 11; have qe14 : (vs 14) = undef := hdk hd 14
    exact step_no [(8, some 11), (11, some 14), (14, some 17)] rfl (by kernel_rfl) (by simp only [frD, qe8, qe11, qe14]; rfl) rfl (by simp)
   | 16, _ =>
    have qe8 : (vs 8) = .bool false := hdk hd 8; have qe15 : (vs 15) = undef := hdk hd 15
    exact step_no [(8, some 11), (15, some 18)] rfl (by kernel_rfl) (by simp only [frD, qe8, qe15]; rfl) rfl (by simp)
   | 17, _ =>
    have qe8 : (vs 8) = .bool false := hdk hd 8; have qe16 : (vs 16) = undef := hdk hd 16
    refine sv0 [(8, some 11), (16, some 19)] (ve (.bool false)) rfl fun K hK => ?_; clear hd; simp only [frD, qe8, qe16] at hK ⊢; go_simp
    exact hK _ _ bl rfl
   | i + 18, hi => exact absurd hi (by omega)
  ·intro vs W21 hk3 hΦ _
   simp only [List.drop_succ_cons, List.drop_zero]
   rw [fr_frD, show (List.range 18).map _ = [(0, some 3), (1, some 4), (2, some 5), (3, some 6), (4, some 7), (5, some 8), (6, some 9), (7, some 10), (8, some 11), (9, some 12), (10, some 13), (11, some 14), (12, some 15), (13, some 16), (14, some 17), (15, some 18), (16, some 19), (17, some 20)] by kernel_rfl]
   have pd0 : (vs 0) = .pointer (some ⟨w.heap.size, 14, none⟩) := hΦ 0 (by decide)
   have pd1 : (vs 1) = .slice A n c := hΦ 1 (by decide)
   have pd2 : (vs 2) = .bool false := hΦ 2 (by decide)
   have pd3 : (vs 3) = .bool false := hΦ 3 (by decide)
   have pd4 : (vs 4) = undef := hΦ 4 (by decide)
   have pd5 : (vs 5) = undef := hΦ 5 (by decide)
   have pd6 : (vs 6) = undef := hΦ 6 (by decide)
   have pd7 : (vs 7) = .bool false := hΦ 7 (by decide)
   have pd8 : (vs 8) = .bool false := hΦ 8 (by decide)
   have pd9 : (vs 9) = undef := hΦ 9 (by decide)
   have pd10 : (vs 10) = undef := hΦ 10 (by decide)
   have pd11 : (vs 11) = undef := hΦ 11 (by decide)
   have pd12 : (vs 12) = undef := hΦ 12 (by decide)
   have pd13 : (vs 13) = undef := hΦ 13 (by decide)
   have pd14 : (vs 14) = undef := hΦ 14 (by decide)
   have pd15 : (vs 15) = undef := hΦ 15 (by decide)
   have pd16 : (vs 16) = undef := hΦ 16 (by decide)
   have pd17 : (vs 17) = .bool false := hΦ 17 (by decide)
   clear hΦ
   simp only [frD, pd0, pd1, pd2, pd3, pd4, pd5, pd6, pd7, pd8, pd9, pd10, pd11, pd12, pd13, pd14, pd15, pd16, pd17]
   simp only [Act.put, List.setIfInBounds_toArray, List.set_cons_zero, List.set_cons_succ]
   clear pd0 pd1 pd2 pd3 pd4 pd5 pd6 pd7 pd8 pd9 pd10 pd11 pd12 pd13 pd14 pd15 pd16 pd17
   replace S := S.drew.below hk3
   clear hk3
   go_wp2
   go_ret
   exact ⟨by rw [HFB.out]; rfl, S.k⟩
end Go.Proofs.YtgcigdahjabimaaGreatDoor
