/- copied, Get: the walks. -/
import Derived.Test.YtbkcnhbdjllojaaInsE
namespace Go.Proofs.Ytbkcnhbdjllojaa
open Go.RowKit Go.Shelf

/-- slices.Clone of a row of ints -/
theorem clonePx_any {w : World} {A : Option Addr} {px : List Int} {c : Nat} (hA : IRow w A px) (h1 : 1 ≤ px.length) (hl : px.length ≤ 4096) :
    Calls Try.prog 31 #[.slice A px.length c] w fun e w' => ∃ V, e = .returned V ∧ IOwn w' w.heap.size V px ∧ Keeps w w' := by
  obtain ⟨b1, o1, rfl, -, c1⟩ := hA (by omega)
  refine (Try.slices_Clone_int b1 o1 px.length c px w (Nat.le_refl _) (by omega) c1).mono ?_
  rintro e w' ⟨v', rfl, h, -, hk⟩
  rw [List.take_length] at h
  exact ⟨v', rfl, h, hk⟩
set_option maxRecDepth 100000 in
set_option maxHeartbeats 1000000 in
theorem copied_any {w : World} {A B : Option Addr} {n c d : Nat} {px : List Int} (hI : IRow w B px) (h1 : 1 ≤ px.length) (hl : px.length ≤ 4096) (W H m : Int) (M : Option Addr) (nm cm : Nat) :
    Calls Try.prog 66 #[frmV A n c W H m B px.length d, .slice M nm cm] w fun e w' => ∃ P cp, e = .returned (frmV M nm cm W H m P px.length cp) ∧ IRow w' P px ∧ Above w.heap.size P ∧ Keeps w w' := by
  obtain ⟨W0, hW0⟩ : ∃ W0, (w.alloc (.cells #[.slice A n c, .int .i64 W, .int .i64 H, .int .i64 m, .slice B px.length d] 27)).alloc (.cells #[.slice none 0 0, .int .i64 0, .int .i64 0, .int .i64 0, .slice none 0 0] 27) = W0 := ⟨_, rfl⟩
  have g2 : Own W0 w.heap.size 27 [.slice A n c, .int .i64 W, .int .i64 H, .int .i64 m, .slice B px.length d] := hW0 ▸ (Own.new w _ _).alloc _
  have g4 : Own W0 (w.heap.size + 1) 27 [.slice none 0 0, .int .i64 0, .int .i64 0, .int .i64 0, .slice none 0 0] := hW0 ▸ own2 w _ _ _
  have hk0 : Keeps w W0 := hW0 ▸ keep2 w _ _
  have hs0 : W0.heap.size = w.heap.size + 2 := by rw [← hW0]; simp
  have x1 := g2.cell 1
  have x2 := g2.cell 2
  have x3 := g2.cell 3
  have x4 := g2.cell 4
  simp only [List.getElem?_cons_zero, List.getElem?_cons_succ] at x1 x2 x3 x4
  obtain ⟨W1, hW1⟩ : ∃ W1, W0.alloc (.cells #[.int .i64 W, .int .i64 H, .int .i64 m, .slice B px.length d] 25) = W1 := ⟨_, rfl⟩
  have g5 : Own W1 W0.heap.size 25 [.int .i64 W, .int .i64 H, .int .i64 m, .slice B px.length d] := hW1 ▸ Own.new W0 _ _
  have hk1 : Keeps W0 W1 := hW1 ▸ (Below.refl _ _).alloc (Nat.le_refl _) _
  have hs1 : W1.heap.size = W0.heap.size + 1 := by rw [← hW1]; simp
  have HC := Lib.hid (clonePx_any (c := d) ((hI.below hk0).below hk1) h1 hl)
  have HG5 := Lib.hid g5
  have HG4 := Lib.hid (g4.below hk1)
  have HS0 := Lib.hid hs0
  have HS1 := Lib.hid hs1
  have z3 := g5.cell 3
  simp only [List.getElem?_cons_zero, List.getElem?_cons_succ] at z3
  have hpI : (px.length : Int) ≤ 4096 := by omega
  clear hI hs0 hs1
  go_enter Try.func66, Try.ntmps66
  go_wp2_with fail
  refine HC.out.mono ?_
  rintro e w2 ⟨V, rfl, hV, hk2⟩
  obtain ⟨gp, cp, rfl, hgp, -, hcp, -, -, -, -⟩ := hV.open1 (by omega)
  have g5b := HG5.out.below hk2
  have g4b := HG4.out.below hk2
  have f3 := g5b.frozen 3
  have r3 := g5b.cell 3
  have hb5 : Own (w2.setCell ⟨W0.heap.size, 3, none⟩ (.slice (some ⟨gp, 0, none⟩) px.length cp)) W0.heap.size 25 [.int .i64 W, .int .i64 H, .int .i64 m, .slice (some ⟨gp, 0, none⟩) px.length cp] := g5b.set 3 _
  have hb4 := g4b.far (p := ⟨W0.heap.size, 3, none⟩) (by have := HS0.out; show w.heap.size + 1 ≠ W0.heap.size; omega) (.slice (some ⟨gp, 0, none⟩) px.length cp)
  have hIp : IRow w2 (some ⟨gp, 0, none⟩) px := IRow.of_own hV rfl
  have hAb : Above (w.heap.size + 3) (some ⟨gp, 0, none⟩) := above_of (by have := HS0.out; have := HS1.out; omega)
  have hIp2 := IRow.far hIp hAb (p := ⟨W0.heap.size, 3, none⟩) (by have := HS0.out; show W0.heap.size < _; omega) (.slice (some ⟨gp, 0, none⟩) px.length cp)
  have hkX : Keeps w (w2.setCell ⟨W0.heap.size, 3, none⟩ (.slice (some ⟨gp, 0, none⟩) px.length cp)) := ((hk0.trans' hk1).trans' hk2).set (p := ⟨W0.heap.size, 3, none⟩) (by have := HS0.out; show w.heap.size ≤ W0.heap.size; omega) _
  have y0 := hb5.cell 0
  have y1 := hb5.cell 1
  have y2 := hb5.cell 2
  have y3 := hb5.cell 3
  have q0 := hb4.cell 0
  have q1 := hb4.cell 1
  have q2 := hb4.cell 2
  have q3 := hb4.cell 3
  have q4 := hb4.cell 4
  have u0 := hb4.frozen 0
  have u1 := hb4.frozen 1
  have u2 := hb4.frozen 2
  have u3 := hb4.frozen 3
  have u4 := hb4.frozen 4
  simp only [List.getElem?_cons_zero, List.getElem?_cons_succ] at r3 y0 y1 y2 y3 q0 q1 q2 q3 q4
  have HIP := Lib.hid hIp2
  clear hV hIp hIp2 hW0 hW1 x1 x2 x3 x4 z3
  go_wp2
  have hN := hb4.five (.slice M nm cm) (.int .i64 W) (.int .i64 H) (.int .i64 m) (.slice (some ⟨gp, 0, none⟩) px.length cp)
  have t0 := hN.cell 0
  have t1 := hN.cell 1
  have t2 := hN.cell 2
  have t3 := hN.cell 3
  have t4 := hN.cell 4
  simp only [List.getElem?_cons_zero, List.getElem?_cons_succ] at t0 t1 t2 t3 t4
  refine bodyPost_ret (v := frmV M nm cm W H m (some ⟨gp, 0, none⟩) px.length cp) (by simp [results, Try.results66, go_sem, t0, t1, t2, t3, t4]) rfl ?_
  refine ⟨_, _, rfl, IRow.five HIP.out hAb (b := w.heap.size + 1) (by omega) _ _ _ _ _, above_of (by have := HS0.out; have := HS1.out; omega), Keeps.five hkX (by omega) _ _ _ _ _⟩
end Go.Proofs.Ytbkcnhbdjllojaa
