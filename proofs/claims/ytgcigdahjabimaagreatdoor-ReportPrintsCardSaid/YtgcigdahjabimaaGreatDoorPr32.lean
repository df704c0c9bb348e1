/- report.Print: the walk. -/
import Derived.Test.YtgcigdahjabimaaGreatDoorPr31
namespace Go.Proofs.YtgcigdahjabimaaGreatDoor
open Go.RowKit Go.Shelf
theorem form_ok {s : Sm} (h : formB s = true) : (s.dim = 2 ∨ s.dim = 3) ∧ (0 ≤ s.st ∧ s.st ≤ 1024) ∧ (0 ≤ s.pt ∧ s.pt ≤ 1024) ∧ (0 ≤ s.rw_ ∧ s.rw_ ≤ 1024) ∧ (0 ≤ s.fr ∧ s.fr ≤ 1024) ∧ (0 ≤ s.rk ∧ s.rk ≤ 1024) ∧ (s.rd.length : Int) = s.rw_ ∧ (s.sx.length : Int) = s.rw_ ∧ (-1 ≤ s.wo ∧ s.wo < s.rw_) ∧
 (∀ x ∈ s.rd, x.2 = true ∧ 0 ≤ x.1 ∧ x.1 ≤ 1) ∧ (∀ x ∈ s.sx, x.2 = true ∧ 0 ≤ x.1) ∧ (s.ob.2 = true ∧ 0 ≤ s.ob.1) ∧ s.sg.2 = true ∧ 0 ≤ s.sg.1 := by
 unfold formB headB posB cntB at h
 simp only [Bool.and_eq_true, Bool.or_eq_true, beq_iff_eq, decide_eq_true_eq, List.all_eq_true] at h
 obtain ⟨⟨⟨⟨⟨⟨⟨⟨⟨⟨⟨⟨⟨⟨h0, h1⟩, h2⟩, h3⟩, h4⟩, h5⟩, h6⟩, h7⟩, h8⟩, h9⟩, a1⟩, a2⟩, a3⟩, a4⟩, a5⟩ := h
 exact ⟨h0, h1, h2, h3, h4, h5, h6, h7, ⟨h8, h9⟩, fun x hx => ⟨(a1 x hx).1, (a1 x hx).2, a5 x hx⟩, a2, a3, a4⟩
theorem form_nums {s : Sm} (h : formB s = true) : Nums64 s ∧ (-9223372036854775808 ≤ s.wo ∧ s.wo ≤ 9223372036854775807) ∧ s.rd.length ≤ 1100 ∧ s.rd.length ≤ s.sx.length := by
 obtain ⟨h0, h1, h2, h3, h4, h5, h6, h7, h8, -⟩ := form_ok h
 refine ⟨fun k hk => ?_, by omega, by omega, by omega⟩
 have : k = 0 ∨ k = 1 ∨ k = 2 ∨ k = 3 ∨ k = 4 ∨ k = 5 := by omega
 rcases this with rfl | rfl | rfl | rfl | rfl | rfl <;> (simp only [numsL, List.getD_cons_zero, List.getD_cons_succ]; omega)
def SmSz (s : Sm) : Prop := szR s.ob.1 ≤ 1000 ∧ szR s.sg.1 ≤ 1000 ∧ (∀ x ∈ s.rd, szR x.1 ≤ 1000) ∧ ∀ x ∈ s.sx, szR x.1 ≤ 1000
def prnV (s : Sm) : Value := if formB s then .tuple #[.string ⟨(sumT s).toArray⟩, .int .i64 0] else .tuple #[.string ⟨#[]⟩, .int .i64 1]
set_option maxRecDepth 100000 in
set_option maxHeartbeats 1000000 in
theorem print_any {w : World} {V : Value} {s : Sm} (h : SmArg w V s) (ht : PowTab w) (hz : SmSz s) (hl : formB s = true → (sumT s).length ≤ 1048576) :
 Calls Tryz.prog 30 #[V] w fun e w' => e = .returned (prnV s) ∧ Keeps w w' := by
 have HS := Lib.hid h
 have HC := Lib.hid (fun (u : World) (hk : Keeps w u) => check_any (h.below hk) hz.2.2.1)
 have HV : Hid (prnV s = if formB s then .tuple #[.string ⟨(sumT s).toArray⟩, .int .i64 0] else .tuple #[.string ⟨#[]⟩, .int .i64 1]) := Lib.hid rfl
 have HP : Hid (formB s = true → ∀ u, Keeps w u → Calls Tryz.prog 70 #[V] u fun e w' => e = .returned (.string ⟨(sumT s).toArray⟩) ∧ Keeps u w') := Lib.hid fun hf u hk => by
  obtain ⟨a, b, c, d⟩ := form_nums hf
  exact printed_any (h.below hk) (ht.keep hk) a b c d hz.1 hz.2.1 hz.2.2.1 hz.2.2.2
 have HL := Lib.hid hl
 obtain ⟨o0, o1, o2, o3, p0, p1, p2, p3, A, B, c, d, rfl, -⟩ := h
 have S := (St.start w).alloc 49 (smL s o0 o1 o2 o3 p0 p1 p2 p3 A B c d)
 obtain ⟨W0, hW0, S⟩ := S.pack
 clear ht hz hl
 generalize sumT s = T at *
 obtain ⟨fb, hfb⟩ : ∃ b, formB s = b := ⟨_, rfl⟩
 rw [hfb] at HC HV HP HL
 clear hfb HS
 have x0 := S.c 0 0 rfl rfl
 have x1 := S.c 0 1 rfl rfl
 have x2 := S.c 0 2 rfl rfl
 have x3 := S.c 0 3 rfl rfl
 have x4 := S.c 0 4 rfl rfl
 have x5 := S.c 0 5 rfl rfl
 have x6 := S.c 0 6 rfl rfl
 have x7 := S.c 0 7 rfl rfl
 have x8 := S.c 0 8 rfl rfl
 have x9 := S.c 0 9 rfl rfl
 have x10 := S.c 0 10 rfl rfl
 have x11 := S.c 0 11 rfl rfl
 have x12 := S.c 0 12 rfl rfl
 have x13 := S.c 0 13 rfl rfl
 have x14 := S.c 0 14 rfl rfl
 have x15 := S.c 0 15 rfl rfl
 have x16 := S.c 0 16 rfl rfl
 go_enter Tryz.func30, Tryz.ntmps30
 go_wp2_with fail
 refine (HC.out _ S.k).mono ?_
 rintro e W1 ⟨rfl, hk1⟩
 replace S := S.below hk1
 clear hk1 hW0
 clear x0 x1 x2 x3 x4 x5 x6 x7 x8 x9 x10 x11 x12 x13 x14 x15 x16
 have x0 := S.c 0 0 rfl rfl
 have x1 := S.c 0 1 rfl rfl
 have x2 := S.c 0 2 rfl rfl
 have x3 := S.c 0 3 rfl rfl
 have x4 := S.c 0 4 rfl rfl
 have x5 := S.c 0 5 rfl rfl
 have x6 := S.c 0 6 rfl rfl
 have x7 := S.c 0 7 rfl rfl
 have x8 := S.c 0 8 rfl rfl
 have x9 := S.c 0 9 rfl rfl
 have x10 := S.c 0 10 rfl rfl
 have x11 := S.c 0 11 rfl rfl
 have x12 := S.c 0 12 rfl rfl
 have x13 := S.c 0 13 rfl rfl
 have x14 := S.c 0 14 rfl rfl
 have x15 := S.c 0 15 rfl rfl
 have x16 := S.c 0 16 rfl rfl
 cases fb with
 | false =>
  go_wp2
  go_ret2
  exact ⟨by rw [HV.out]; rfl, S.k⟩
 | true =>
  have hl := HL.out (by trivial)
  go_wp2_with fail
  refine (HP.out (by trivial) _ S.k).mono ?_
  rintro e W2 ⟨rfl, hk2⟩
  replace S := S.below hk2
  clear hk2
  clear x0 x1 x2 x3 x4 x5 x6 x7 x8 x9 x10 x11 x12 x13 x14 x15 x16
  go_wp2
  go_ret2
  exact ⟨by rw [HV.out]; rfl, S.k⟩
end Go.Proofs.YtgcigdahjabimaaGreatDoor
