/- FrameChecks: the walk. -/
import Derived.Test.YtbkcnhbdjllojaaKno
namespace Go.Proofs.Ytbkcnhbdjllojaa
open Go.RowKit Go.Shelf
attribute [local go_sem] Oper.semAt_some

set_option maxRecDepth 100000 in
set_option maxHeartbeats 1000000 in
theorem frameChecks_any {w : World} {A B : Option Addr} {c d : Nat} {es : List Ent} {px : List Int} (hE : EntR w A es) (hI : IRow w B px) (hl : px.length ≤ maxLen) (hel : es.length ≤ maxLen) (W H m : Int) :
    Calls Try.prog 3 #[frmV A es.length c W H m B px.length d] w fun e w' => e = .returned (.bool true) ∧ Keeps w w' := by
  obtain ⟨W1, hW1⟩ : ∃ W1, w.alloc (.cells #[.slice A es.length c, .int .i64 W, .int .i64 H, .int .i64 m, .slice B px.length d] 27) = W1 := ⟨_, rfl⟩
  have g1 : Own W1 w.heap.size 27 [.slice A es.length c, .int .i64 W, .int .i64 H, .int .i64 m, .slice B px.length d] := hW1 ▸ Own.new w _ _
  have hk0 : Keeps w W1 := hW1 ▸ (Below.refl _ _).alloc (Nat.le_refl _) _
  have HK := Lib.hid (known_any W1)
  have HE := Lib.hid hE
  have HI := Lib.hid hI
  clear hE hI
  go_enter Try.func3, Try.ntmps3
  go_wp2_with fail
  refine HK.out.mono ?_
  rintro e w1 ⟨rfl, hk1⟩
  have g2 := g1.below hk1
  have hkw := hk0.trans' hk1
  have HF := Lib.hid (few_any (c := c) (B := B) (d := d) (px := px) (HE.out.below hkw) hl hel W H m)
  have x0 := g2.cell 0
  have x1 := g2.cell 1
  have x2 := g2.cell 2
  have x3 := g2.cell 3
  have x4 := g2.cell 4
  simp only [List.getElem?_cons_zero, List.getElem?_cons_succ] at x0 x1 x2 x3 x4
  clear hW1
  go_wp2_with fail
  refine HF.out.mono ?_
  rintro e w2 ⟨b, rfl, hb, hk2⟩
  cases b with
  | false =>
    go_wp2
    go_ret
    exact ⟨rfl, hkw.trans' hk2⟩
  | true =>
    obtain ⟨h1, h2, h3⟩ := hb rfl
    have hs : EntS es := fun e he => by have := h3 e he; omega
    have hkw2 := hkw.trans' hk2
    have g3 := g2.below hk2
    have HC := fun u (hk : Keeps w u) => Lib.hid (fcheck_any (c := c) (d := d) (HE.out.below hk) (HI.out.below hk) hs W H m hl hel)
    have HC2 := fun u (hk : Keeps w u) => Lib.hid (dfcheck_any (c := c) (d := d) (HE.out.below hk) (HI.out.below hk) hs W H m hl hel)
    generalize frmC es W H m px = r at *
    clear x0 x1 x2 x3 x4 h1 h2 h3
    replace g3 := g3.drew
    replace hkw2 : Keeps w w2.drew := Below.drew hkw2
    go_wp2
    go_region_held3 (fun w' => w'.cell? ⟨w.heap.size, 0, none⟩ = some (.slice A es.length c) ∧ w'.cell? ⟨w.heap.size, 1, none⟩ = some (.int .i64 W) ∧ w'.cell? ⟨w.heap.size, 2, none⟩ = some (.int .i64 H) ∧ w'.cell? ⟨w.heap.size, 3, none⟩ = some (.int .i64 m) ∧ w'.cell? ⟨w.heap.size, 4, none⟩ = some (.slice B px.length d))
      (first | exact ⟨g3.cell 0, g3.cell 1, g3.cell 2, g3.cell 3, g3.cell 4⟩)
      (first
        | (go_at_call 14; refine (HC _ hkw2).out.mono ?_; rintro e wa ⟨rfl, hka⟩; replace g3 := g3.below hka; replace hkw2 := hkw2.trans' hka)
        | (go_at_call 15; refine (HC2 _ hkw2).out.mono ?_; rintro e wa ⟨rfl, hka⟩; replace g3 := g3.below hka; replace hkw2 := hkw2.trans' hka))
    go_wp2
    go_ret
    exact ⟨rfl, hkw2⟩
end Go.Proofs.Ytbkcnhbdjllojaa
