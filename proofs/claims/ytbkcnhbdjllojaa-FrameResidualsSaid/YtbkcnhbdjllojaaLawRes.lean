/- FrameResiduals: the walk. -/
import Derived.Test.YtbkcnhbdjllojaaLEq
namespace Go.Proofs.Ytbkcnhbdjllojaa
open Go.RowKit Go.Shelf
attribute [local go_sem] Oper.semAt_some

set_option maxRecDepth 100000 in
set_option maxHeartbeats 1000000 in
theorem frameResiduals_any {w : World} {B : Option Addr} {d : Nat} {px : List Int} (hI : IRow w B px) (hl : px.length ≤ maxLen) (W H m : Int) :
    Calls Try.prog 7 #[rasV W H m (.slice B px.length d)] w fun e w' => e = .returned (.bool true) ∧ Keeps w w' := by
  obtain ⟨W1, hW1⟩ : ∃ W1, w.alloc (.cells #[.int .i64 W, .int .i64 H, .int .i64 m, .slice B px.length d] 25) = W1 := ⟨_, rfl⟩
  have g : Own W1 w.heap.size 25 [.int .i64 W, .int .i64 H, .int .i64 m, .slice B px.length d] := hW1 ▸ Own.new w _ _
  have hkw : Keeps w W1 := hW1 ▸ (Below.refl _ _).alloc (Nat.le_refl _) _
  have HK := Lib.hid (known_any W1)
  have HI := Lib.hid hI
  have hlI : (px.length : Int) ≤ 9223372036854775807 := by simp only [maxLen] at hl; omega
  clear hI
  go_enter Try.func7, Try.ntmps7
  go_wp2_with fail
  refine HK.out.mono ?_
  rintro e w1 ⟨rfl, hk1⟩
  replace g := g.below hk1
  replace hkw := hkw.trans' hk1
  have x0 := g.cell 0
  have x1 := g.cell 1
  have x2 := g.cell 2
  have x3 := g.cell 3
  simp only [List.getElem?_cons_zero, List.getElem?_cons_succ] at x0 x1 x2 x3
  clear hW1
  by_cases hlen : 200 < px.length
  · have hlenI : (200 : Int) < px.length := by omega
    go_wp2
    go_ret
    exact ⟨rfl, hkw⟩
  have hlenI : ¬ ((200 : Int) < px.length) := by omega
  by_cases hc : rasC W H m px = 0
  · obtain ⟨hW, hH, hm, hL, hl4, hg⟩ := rasC_0 hc
    obtain ⟨W, rfl⟩ : ∃ n : Nat, W = n := ⟨W.toNat, by omega⟩
    obtain ⟨H, rfl⟩ : ∃ n : Nat, H = n := ⟨H.toNat, by omega⟩
    have HN := Lib.hid (fResiduals_yes (c := d) (HI.out.below hkw) W H m hc)
    have HRR := Lib.hid (restI_res (W := W) (by omega) hg (by omega))
    have HRC := Lib.hid (restC_res hc)
    have HLN := Lib.hid (resI_length px W m)
    have HD := fun u (hk : Keeps w u) => Lib.hid (dcheck_any (c := d) (HI.out.below hk) W H m hl)
    have HLR := fun u (hk : Keeps w u) => Lib.hid (lresiduals_any (c := d) (HI.out.below hk) W H m hc)
    rw [hc] at HD
    clear hc hg hL
    go_wp2_with fail
    refine HN.out.mono ?_
    rintro e w2 ⟨V, rfl, hV, hk2⟩
    replace g := g.below hk2
    replace hkw := hkw.trans' hk2
    obtain ⟨A2, c2, rfl, -⟩ := hV.sl
    have hR2 : IRow w2 A2 (resI px W m) := IRow.of_own hV rfl
    have x0 := g.cell 0
    have x1 := g.cell 1
    have x2 := g.cell 2
    have x3 := g.cell 3
    simp only [List.getElem?_cons_zero, List.getElem?_cons_succ] at x0 x1 x2 x3
    have HREST := fun u (hk : Keeps w2 u) => Lib.hid (restore_yes (c := c2) (hR2.below hk) W H m HRC.out)
    have HR2 := Lib.hid hR2
    rw [HRR.out, HLN.out] at HREST
    rw [HLN.out]
    have HDD := HD _ hkw
    clear hV hR2
    go_wp2_with fail
    refine HDD.out.mono ?_
    rintro e w3 ⟨rfl, hk3⟩
    replace g := g.below hk3
    replace hkw := hkw.trans' hk3
    have x0 := g.cell 0
    have x1 := g.cell 1
    have x2 := g.cell 2
    have x3 := g.cell 3
    simp only [List.getElem?_cons_zero, List.getElem?_cons_succ] at x0 x1 x2 x3
    have HRR3 := HREST _ hk3
    go_wp2_with fail
    refine HRR3.out.mono ?_
    rintro e w4 ⟨V4, rfl, hV4, hk4⟩
    replace g := g.below hk4
    replace hkw := hkw.trans' hk4
    obtain ⟨A4, c4, rfl, -⟩ := hV4.sl
    have hR4 : IRow w4 A4 px := IRow.of_own hV4 rfl
    obtain ⟨W5, hW5⟩ : ∃ W5, w4.alloc (.cells #[.int .i64 (W : Nat), .int .i64 (H : Nat), .int .i64 m, .slice A4 px.length c4] 25) = W5 := ⟨_, rfl⟩
    have g5 : Own W5 w4.heap.size 25 [.int .i64 (W : Nat), .int .i64 (H : Nat), .int .i64 m, .slice A4 px.length c4] := hW5 ▸ Own.new w4 _ _
    have hk5 : Keeps w4 W5 := hW5 ▸ (Below.refl _ _).alloc (Nat.le_refl _) _
    replace g := g.below hk5
    replace hkw := hkw.trans' hk5
    have x0 := g.cell 0
    have x1 := g.cell 1
    have x2 := g.cell 2
    have x3 := g.cell 3
    simp only [List.getElem?_cons_zero, List.getElem?_cons_succ] at x0 x1 x2 x3
    have HL5 := HLR _ hkw
    have HR5 := Lib.hid ((hR4.below hk5))
    have HR25 := Lib.hid (((HR2.out.below hk3).below hk4).below hk5)
    clear hV4 hR4
    go_wp2_with fail
    refine HL5.out.mono ?_
    rintro e w6 ⟨V6, rfl, hV6, hk6⟩
    replace g := g.below hk6
    replace g5 := g5.below hk6
    replace hkw := hkw.trans' hk6
    obtain ⟨A6, c6, rfl, -⟩ := hV6.sl
    have HE := Lib.hid (equalI_any (c := c2) (d := c6) (HR25.out.below hk6) (IRow.of_own hV6 rfl) HLN.out.symm rfl (by rw [HLN.out]; exact hl) (by rw [HLN.out]; exact hl))
    rw [decide_eq_true rfl] at HE
    clear hV6
    go_wp2_with fail
    refine HE.out.mono ?_
    rintro e w7 ⟨rfl, hk7⟩
    replace g := g.below hk7
    replace g5 := g5.below hk7
    replace hkw := hkw.trans' hk7
    have x0 := g.cell 0
    have x1 := g.cell 1
    have x2 := g.cell 2
    have x3 := g.cell 3
    simp only [List.getElem?_cons_zero, List.getElem?_cons_succ] at x0 x1 x2 x3
    have y0 := g5.cell 0
    have y1 := g5.cell 1
    have y2 := g5.cell 2
    have y3 := g5.cell 3
    simp only [List.getElem?_cons_zero, List.getElem?_cons_succ] at y0 y1 y2 y3
    have HS := Lib.hid (sameRaster_yes (c := d) (d := c4) (HI.out.below hkw) ((HR5.out.below hk6).below hk7) rfl rfl (by omega) W H m)
    go_wp2_with fail
    refine HS.out.mono ?_
    rintro e w8 ⟨rfl, hk8⟩
    go_wp2
    go_ret
    exact ⟨rfl, hkw.trans' hk8⟩
  · have HN := Lib.hid (fResiduals_no (c := d) (HI.out.below hkw) W H m hl hc)
    have HD := fun u (hk : Keeps w u) => Lib.hid (dcheck_any (c := d) (HI.out.below hk) W H m hl)
    obtain ⟨r, hr⟩ : ∃ r, rasC W H m px = r := ⟨_, rfl⟩
    rw [hr] at HN HD hc
    have hne : (r != 0) = true := by simpa using hc
    clear hr
    go_wp2_with fail
    refine HN.out.mono ?_
    rintro e w2 ⟨rfl, hk2⟩
    replace g := g.below hk2
    replace hkw := hkw.trans' hk2
    have x0 := g.cell 0
    have x1 := g.cell 1
    have x2 := g.cell 2
    have x3 := g.cell 3
    simp only [List.getElem?_cons_zero, List.getElem?_cons_succ] at x0 x1 x2 x3
    have HDD := HD _ hkw
    go_wp2_with fail
    refine HDD.out.mono ?_
    rintro e w3 ⟨rfl, hk3⟩
    go_wp2
    go_ret
    exact ⟨by simp, hkw.trans' hk3⟩
end Go.Proofs.Ytbkcnhbdjllojaa
