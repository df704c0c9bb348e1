/- The example of the chapter: the walk. -/
import Derived.Test.YtbkcnhbdjllojaaSam
namespace Go.Proofs.Ytbkcnhbdjllojaa
open Go.RowKit Go.Shelf
attribute [local go_sem] Oper.semAt_some

def wantB : List Nat := [70, 82, 65, 77, 69, 49, 10, 10, 0, 0, 0, 3, 0, 0, 0, 1, 0, 0, 0, 3, 1, 106]
theorem ex_ok : frmC [] 3 1 3 [1, 3, 0] = 0 := by decide
theorem ex_file : fileB [] 3 1 3 [1, 3, 0] = wantB := by kernel_rfl
theorem ex_oct : Oct wantB := fun x hx => by simp [wantB] at hx; omega
theorem ex_dec : decO wantB = some ([], 3, 1, 3, [1, 3, 0]) := by rw [← ex_file]; exact decO_file ex_ok
/-- a row of bytes of one's own, as an argument -/
theorem BSl.of_own {w : World} {base : Nat} {A : Option Addr} {n c : Nat} {xs : List Nat} (h : w.ownsRow base 5 1 (.slice A n c) n (u8s xs)) (hn : n = xs.length) : BSl w w.heap.size (.slice A n c) xs := by
  subst hn
  obtain ⟨A', c', e, h1, h2, h3⟩ := h.sl
  cases e
  refine ⟨A, c, rfl, h1, h2, h3, BRow.of_own h rfl, fun _ b o e => (h.lt b (by rw [e]; rfl)).2, fun _ b o s e => ?_⟩
  obtain ⟨-, ⟨e', -⟩ | ⟨g, cap, cur, e', -⟩⟩ := h
  · subst e; cases e'
  · subst e; cases e'; rfl
set_option maxRecDepth 100000 in
set_option maxHeartbeats 1000000 in
theorem known_any (w : World) : Calls Try.prog 12 #[] w fun e w' => e = .returned (.bool true) ∧ Keeps w w' := by
  obtain ⟨i0, hi, hz0, hz1, hz2⟩ := info_parts info_u8
  obtain ⟨W2, hW2⟩ : ∃ W2, (w.alloc (.cells #[.int .i64 1, .int .i64 3, .int .i64 0] 3)).alloc (.cells #[.slice none 0 0, .int .i64 3, .int .i64 1, .int .i64 3, .slice (some ⟨w.heap.size, 0, none⟩) 3 3] 27) = W2 := ⟨_, rfl⟩
  have g1 : Own W2 (w.heap.size + 1) 27 [.slice none 0 0, .int .i64 3, .int .i64 1, .int .i64 3, .slice (some ⟨w.heap.size, 0, none⟩) 3 3] := hW2 ▸ own2 w _ _ _
  have g0 : Own W2 w.heap.size 3 [.int .i64 1, .int .i64 3, .int .i64 0] := hW2 ▸ (Own.new w _ _).alloc _
  have hk0 : Keeps w W2 := hW2 ▸ keep2 w _ _
  have hI : IRow W2 (some ⟨w.heap.size, 0, none⟩) [1, 3, 0] := fun _ => ⟨w.heap.size, 0, rfl, g0.lt, fun j hj => by
    rw [g0.cell]
    match j, hj with
    | 0, _ => rfl
    | 1, _ => rfl
    | 2, _ => rfl⟩
  have hE : EntR W2 none [] := fun j k v hj => by simp at hj
  have HE := Lib.hid (encode_yes (c := 0) (d := 3) hE hI (fun e he => by simp at he) 3 1 3 ex_ok)
  rw [ex_file] at HE
  have x0 := g1.cell 0
  have x1 := g1.cell 1
  have x2 := g1.cell 2
  have x3 := g1.cell 3
  have x4 := g1.cell 4
  simp only [List.getElem?_cons_zero, List.getElem?_cons_succ] at x0 x1 x2 x3 x4
  go_enter Try.func12, Try.ntmps12
  go_wp2_with fail
  refine HE.out.mono ?_
  rintro e w1 ⟨V, rfl, hV, hk1⟩
  have HV := Lib.hid hV
  obtain ⟨A1, c1, rfl, -⟩ := hV.sl
  have hcv := Lib.run_convert_bytes_const (P := Try.prog) w1 32 5 #[.int .u8 70, .int .u8 82, .int .u8 65, .int .u8 77, .int .u8 69, .int .u8 49, .int .u8 10, .int .u8 10] 8 8 Try.underlying32 Try.underlying5
  obtain ⟨X, hX⟩ : ∃ X, (w1.alloc (.cells #[.int .u8 70, .int .u8 82, .int .u8 65, .int .u8 77, .int .u8 69, .int .u8 49, .int .u8 10, .int .u8 10] 5 (8, 9))).alloc (.cells #[.int .u8 0, .int .u8 0, .int .u8 0, .int .u8 3, .int .u8 0, .int .u8 0, .int .u8 0, .int .u8 1, .int .u8 0, .int .u8 0, .int .u8 0, .int .u8 3, .int .u8 1, .int .u8 106] 5) = X := ⟨_, rfl⟩
  have hkX : Keeps w1 X := hX ▸ keep2 w1 _ _
  have hR : OutR X w1.heap.size 5 (.slice (some ⟨w1.heap.size, 0, none⟩) 8 8) 8 (u8s (wantB.take 8)) := by
    subst hX
    refine .inr ⟨w1.heap.size, rfl, Nat.le_refl _, by simp; omega, rfl, fun j u hj => ?_, _, _, (Below.heap_alloc _ _ _ (by simp)).trans (World.alloc_heap_new w1 _)⟩
    have h1 := World.cell?_alloc_mark w1 #[.int .u8 70, .int .u8 82, .int .u8 65, .int .u8 77, .int .u8 69, .int .u8 49, .int .u8 10, .int .u8 10] 5 (8, 9) j
    have h2 : (w1.alloc (.cells #[.int .u8 70, .int .u8 82, .int .u8 65, .int .u8 77, .int .u8 69, .int .u8 49, .int .u8 10, .int .u8 10] 5 (8, 9))).cell? ⟨w1.heap.size, j, none⟩ = some u := by
      rw [h1]
      simpa [u8s, wantB] using hj
    exact Lib.cell?_alloc_marked _ h2
  have h14 : Own X (w1.heap.size + 1) 5 (u8s (wantB.drop 8)) := hX ▸ own2 w1 _ _ _
  have hkw := hk0.trans' hk1
  have g1x := (g1.below hk1).below hkX
  go_wp2_with (at_builtin; refine wpList_append_out rfl _ _ 32 rfl w1.heap.size 5 i0 (.int .u8 0) 1 Try.underlying32 hi hz0 hz1 hz2 rfl _ 8 (u8s (wantB.take 8)) rfl hR ⟨w1.heap.size + 1, 0, none⟩ 14 14 (u8s (wantB.drop 8)) rfl rfl (fun j u hj => by rw [addr0, h14.cell]; exact hj) (by simp [u8s, wantB, Value.oneCell']) (by omega) (by decide) (by omega) hkX.size ?_; intro v' w3 hown3 hgrow; obtain ⟨A6, c6, rfl, -⟩ := hown3.sl)
  rw [← u8s_append, List.take_append_drop] at hown3
  have hk3 : Keeps w1 w3 := (hkX.grown hgrow hkX.size (fun b e => (hR.lo b e).1))
  have g3 := g1.below (hk1.trans' hk3)
  have HV3 := Lib.hid (HV.out.keeps hk3)
  have HD := Lib.hid (decode_any (BSl.of_own hown3 rfl) ex_oct (by decide))
  have HW3 := Lib.hid hown3
  have hn22 : wantB.length = 22 := rfl
  rw [ex_dec, hn22] at HD
  refine HD.out.mono ?_
  rintro e w4 ⟨hk4, Ae, ce, Ap, cp, rfl, hE4, hI4⟩
  obtain ⟨X5, hX5⟩ : ∃ X5, w4.alloc (.cells #[.slice Ae 0 ce, .int .i64 3, .int .i64 1, .int .i64 3, .slice Ap 3 cp] 27) = X5 := ⟨_, rfl⟩
  have hk5 : Keeps w4 X5 := hX5 ▸ (Below.refl _ _).alloc (Nat.le_refl _) _
  have f5 : Own X5 w4.heap.size 27 [.slice Ae 0 ce, .int .i64 3, .int .i64 1, .int .i64 3, .slice Ap 3 cp] := hX5 ▸ Own.new w4 _ _
  have g5 := (g3.below hk4).below hk5
  have hB1 := bytesIn (BRow.of_own ((HV3.out.keeps hk4).keeps hk5) rfl)
  have hB2 := bytesIn (BRow.of_own ((HW3.out.keeps hk4).keeps hk5) rfl)
  have HQ := Lib.hid (Try.bytes_Equal_all A1 A6 22 c1 22 c6 (ints wantB) (ints wantB) X5 rfl rfl hB1 hB2)
  have heq : (Lib.bytesOf (ints wantB) == Lib.bytesOf (ints wantB)) = true := by simp
  rw [heq] at HQ
  have hI5 : IRow X5 (some ⟨w.heap.size, 0, none⟩) [1, 3, 0] := (hI.below (((hk1.trans' hk3).trans' hk4).trans' hk5))
  have HS := Lib.hid (same_yes (A := none) (A' := Ae) (B := some ⟨w.heap.size, 0, none⟩) (B' := Ap) (n := 0) (n' := 0) (p := 3) (p' := 3) (c := 0) (d := 3) (c' := ce) (d' := cp) (w := X5) (es := []) (px := [1, 3, 0]) (fun j k v hj => by simp at hj) (hE4.below hk5) hI5 (hI4.below hk5) rfl rfl rfl rfl (by decide) (by decide) 3 1 3)
  have y0 := g5.cell 0
  have y1 := g5.cell 1
  have y2 := g5.cell 2
  have y3 := g5.cell 3
  have y4 := g5.cell 4
  have z0 := f5.cell 0
  have z1 := f5.cell 1
  have z2 := f5.cell 2
  have z3 := f5.cell 3
  have z4 := f5.cell 4
  simp only [List.getElem?_cons_zero, List.getElem?_cons_succ] at y0 y1 y2 y3 y4 z0 z1 z2 z3 z4
  clear x0 x1 x2 x3 x4 hW2 hX hR h14 g0 heq
  go_wp2_with fail
  refine HQ.out.mono ?_
  rintro e w6 ⟨rfl, rfl⟩
  go_wp2_with fail
  refine HS.out.mono ?_
  rintro e w7 ⟨rfl, hk7⟩
  go_wp2
  go_ret
  exact ⟨rfl, (((hkw.trans' hk3).trans' hk4).trans' hk5).trans' hk7⟩
end Go.Proofs.Ytbkcnhbdjllojaa
