/- Put: the walks. -/
import Derived.Test.YtbkcnhbdjllojaaDrpE
namespace Go.Proofs.Ytbkcnhbdjllojaa
open Go.RowKit Go.Shelf

section
variable {w : World} {A B : Option Addr} {c d : Nat} {es : List Ent} {px : List Int}
set_option maxRecDepth 100000 in
theorem put_no (hE : EntR w A es) (hI : IRow w B px) (hs : EntS es) (W H m : Int) (hl : px.length ≤ maxLen) (hel : es.length ≤ maxLen) (key value : ByteArray) (hc : frmC es W H m px ≠ 0) :
    Calls Try.prog 38 #[frmV A es.length c W H m B px.length d, .string key, .string value] w fun e w' => e = .returned (.tuple #[frmV none 0 0 0 0 0 none 0 0, .int .i64 (frmC es W H m px)]) ∧ Keeps w w' := by
  obtain ⟨W1, hW1⟩ : ∃ W1, (w.alloc (.cells #[.slice A es.length c, .int .i64 W, .int .i64 H, .int .i64 m, .slice B px.length d] 27)).alloc (.cells #[.slice none 0 0, .int .i64 0, .int .i64 0, .int .i64 0, .slice none 0 0] 27) = W1 := ⟨_, rfl⟩
  have g : Own W1 w.heap.size 27 [.slice A es.length c, .int .i64 W, .int .i64 H, .int .i64 m, .slice B px.length d] := hW1 ▸ (Own.new w _ _).alloc _
  have g4 : Own W1 (w.heap.size + 1) 27 [.slice none 0 0, .int .i64 0, .int .i64 0, .int .i64 0, .slice none 0 0] := hW1 ▸ own2 w _ _ _
  have hkw : Keeps w W1 := hW1 ▸ keep2 w _ _
  have hs1 : w.heap.size + 2 ≤ W1.heap.size := by rw [← hW1]; simp
  have x0 := g.cell 0
  have x1 := g.cell 1
  have x2 := g.cell 2
  have x3 := g.cell 3
  have x4 := g.cell 4
  simp only [List.getElem?_cons_zero, List.getElem?_cons_succ] at x0 x1 x2 x3 x4
  have HC := Lib.hid (fcheck_any (c := c) (d := d) (hE.below hkw) (hI.below hkw) hs W H m hl hel)
  obtain ⟨r, hr⟩ : ∃ r, frmC es W H m px = r := ⟨_, rfl⟩
  rw [hr] at HC hc ⊢
  have hne : (r != 0) = true := by simpa using hc
  clear hr hE hI hc
  go_enter Try.func38, Try.ntmps38
  go_wp2_with fail
  refine HC.out.mono ?_
  rintro e w1 ⟨rfl, hk1⟩
  replace g := g.below hk1
  replace g4 := g4.below hk1
  replace hkw := hkw.trans' hk1
  replace hs1 := Nat.le_trans hs1 hk1.size
  have x0 := g.cell 0
  have x1 := g.cell 1
  have x2 := g.cell 2
  have x3 := g.cell 3
  have x4 := g.cell 4
  simp only [List.getElem?_cons_zero, List.getElem?_cons_succ] at x0 x1 x2 x3 x4
  have q0 := g4.cell 0
  have q1 := g4.cell 1
  have q2 := g4.cell 2
  have q3 := g4.cell 3
  have q4 := g4.cell 4
  have u0 := g4.frozen 0
  have u1 := g4.frozen 1
  have u2 := g4.frozen 2
  have u3 := g4.frozen 3
  have u4 := g4.frozen 4
  simp only [List.getElem?_cons_zero, List.getElem?_cons_succ] at q0 q1 q2 q3 q4
  go_wp2
  have hN := g4.five (.slice none 0 0) (.int .i64 0) (.int .i64 0) (.int .i64 0) (.slice none 0 0)
  have r0 := hN.cell 0
  have r1 := hN.cell 1
  have r2 := hN.cell 2
  have r3 := hN.cell 3
  have r4 := hN.cell 4
  simp only [List.getElem?_cons_zero, List.getElem?_cons_succ] at r0 r1 r2 r3 r4
  refine bodyPost_ret (v := .tuple #[.agg #[(.slice none 0 0), (.int .i64 0), (.int .i64 0), (.int .i64 0), (.slice none 0 0)], .int .i64 r]) (by simp [results, Try.results38, go_sem, r0, r1, r2, r3, r4]) rfl ?_
  exact ⟨rfl, Keeps.five hkw (by omega) _ _ _ _ _⟩
set_option maxRecDepth 100000 in
theorem put_key (hE : EntR w A es) (hI : IRow w B px) (hs : EntS es) (W H m : Int) (hl : px.length ≤ maxLen) (hel : es.length ≤ maxLen) (key value : ByteArray) (hk : key.size ≤ 1000000) (hc : frmC es W H m px = 0) (hkb : keyB key = false) :
    Calls Try.prog 38 #[frmV A es.length c W H m B px.length d, .string key, .string value] w fun e w' => e = .returned (.tuple #[frmV none 0 0 0 0 0 none 0 0, .int .i64 10]) ∧ Keeps w w' := by
  obtain ⟨W1, hW1⟩ : ∃ W1, (w.alloc (.cells #[.slice A es.length c, .int .i64 W, .int .i64 H, .int .i64 m, .slice B px.length d] 27)).alloc (.cells #[.slice none 0 0, .int .i64 0, .int .i64 0, .int .i64 0, .slice none 0 0] 27) = W1 := ⟨_, rfl⟩
  have g : Own W1 w.heap.size 27 [.slice A es.length c, .int .i64 W, .int .i64 H, .int .i64 m, .slice B px.length d] := hW1 ▸ (Own.new w _ _).alloc _
  have g4 : Own W1 (w.heap.size + 1) 27 [.slice none 0 0, .int .i64 0, .int .i64 0, .int .i64 0, .slice none 0 0] := hW1 ▸ own2 w _ _ _
  have hkw : Keeps w W1 := hW1 ▸ keep2 w _ _
  have hs1 : w.heap.size + 2 ≤ W1.heap.size := by rw [← hW1]; simp
  have x0 := g.cell 0
  have x1 := g.cell 1
  have x2 := g.cell 2
  have x3 := g.cell 3
  have x4 := g.cell 4
  simp only [List.getElem?_cons_zero, List.getElem?_cons_succ] at x0 x1 x2 x3 x4
  have HC := Lib.hid (fcheck_any (c := c) (d := d) (hE.below hkw) (hI.below hkw) hs W H m hl hel)
  rw [hc] at HC
  have HK := fun u => Lib.hid (isKey_any key u hk)
  rw [hkb] at HK
  clear hE hI hc hkb
  go_enter Try.func38, Try.ntmps38
  go_wp2_with fail
  refine HC.out.mono ?_
  rintro e w1 ⟨rfl, hk1⟩
  replace g := g.below hk1
  replace g4 := g4.below hk1
  replace hkw := hkw.trans' hk1
  replace hs1 := Nat.le_trans hs1 hk1.size
  have x0 := g.cell 0
  have x1 := g.cell 1
  have x2 := g.cell 2
  have x3 := g.cell 3
  have x4 := g.cell 4
  simp only [List.getElem?_cons_zero, List.getElem?_cons_succ] at x0 x1 x2 x3 x4
  have HK1 := HK w1
  have q0 := g4.cell 0
  have q1 := g4.cell 1
  have q2 := g4.cell 2
  have q3 := g4.cell 3
  have q4 := g4.cell 4
  have u0 := g4.frozen 0
  have u1 := g4.frozen 1
  have u2 := g4.frozen 2
  have u3 := g4.frozen 3
  have u4 := g4.frozen 4
  simp only [List.getElem?_cons_zero, List.getElem?_cons_succ] at q0 q1 q2 q3 q4
  go_wp2_with fail
  refine HK1.out.mono ?_
  rintro e w2 ⟨rfl, rfl⟩
  go_wp2
  have hN := g4.five (.slice none 0 0) (.int .i64 0) (.int .i64 0) (.int .i64 0) (.slice none 0 0)
  have r0 := hN.cell 0
  have r1 := hN.cell 1
  have r2 := hN.cell 2
  have r3 := hN.cell 3
  have r4 := hN.cell 4
  simp only [List.getElem?_cons_zero, List.getElem?_cons_succ] at r0 r1 r2 r3 r4
  refine bodyPost_ret (v := .tuple #[.agg #[(.slice none 0 0), (.int .i64 0), (.int .i64 0), (.int .i64 0), (.slice none 0 0)], .int .i64 10]) (by simp [results, Try.results38, go_sem, r0, r1, r2, r3, r4]) rfl ?_
  exact ⟨rfl, Keeps.five hkw (by omega) _ _ _ _ _⟩
set_option maxRecDepth 100000 in
theorem put_val (hE : EntR w A es) (hI : IRow w B px) (hs : EntS es) (W H m : Int) (hl : px.length ≤ maxLen) (hel : es.length ≤ maxLen) (key value : ByteArray) (hk : key.size ≤ 1000000) (hv : value.size ≤ 1000000) (hc : frmC es W H m px = 0) (hkb : keyB key = true) (hvc : valC value ≠ 0) :
    Calls Try.prog 38 #[frmV A es.length c W H m B px.length d, .string key, .string value] w fun e w' => e = .returned (.tuple #[frmV none 0 0 0 0 0 none 0 0, .int .i64 (valC value)]) ∧ Keeps w w' := by
  obtain ⟨W1, hW1⟩ : ∃ W1, (w.alloc (.cells #[.slice A es.length c, .int .i64 W, .int .i64 H, .int .i64 m, .slice B px.length d] 27)).alloc (.cells #[.slice none 0 0, .int .i64 0, .int .i64 0, .int .i64 0, .slice none 0 0] 27) = W1 := ⟨_, rfl⟩
  have g : Own W1 w.heap.size 27 [.slice A es.length c, .int .i64 W, .int .i64 H, .int .i64 m, .slice B px.length d] := hW1 ▸ (Own.new w _ _).alloc _
  have g4 : Own W1 (w.heap.size + 1) 27 [.slice none 0 0, .int .i64 0, .int .i64 0, .int .i64 0, .slice none 0 0] := hW1 ▸ own2 w _ _ _
  have hkw : Keeps w W1 := hW1 ▸ keep2 w _ _
  have hs1 : w.heap.size + 2 ≤ W1.heap.size := by rw [← hW1]; simp
  have x0 := g.cell 0
  have x1 := g.cell 1
  have x2 := g.cell 2
  have x3 := g.cell 3
  have x4 := g.cell 4
  simp only [List.getElem?_cons_zero, List.getElem?_cons_succ] at x0 x1 x2 x3 x4
  have HC := Lib.hid (fcheck_any (c := c) (d := d) (hE.below hkw) (hI.below hkw) hs W H m hl hel)
  rw [hc] at HC
  have HK := fun u => Lib.hid (isKey_any key u hk)
  rw [hkb] at HK
  have HT := fun u => Lib.hid (checkText_any value u hv)
  obtain ⟨r, hr⟩ : ∃ r, valC value = r := ⟨_, rfl⟩
  rw [hr] at HT hvc ⊢
  have hne : (r != 0) = true := by simpa using hvc
  clear hE hI hc hkb hr hvc
  go_enter Try.func38, Try.ntmps38
  go_wp2_with fail
  refine HC.out.mono ?_
  rintro e w1 ⟨rfl, hk1⟩
  replace g := g.below hk1
  replace g4 := g4.below hk1
  replace hkw := hkw.trans' hk1
  replace hs1 := Nat.le_trans hs1 hk1.size
  have x0 := g.cell 0
  have x1 := g.cell 1
  have x2 := g.cell 2
  have x3 := g.cell 3
  have x4 := g.cell 4
  simp only [List.getElem?_cons_zero, List.getElem?_cons_succ] at x0 x1 x2 x3 x4
  have HK1 := HK w1
  have HT1 := HT w1
  have q0 := g4.cell 0
  have q1 := g4.cell 1
  have q2 := g4.cell 2
  have q3 := g4.cell 3
  have q4 := g4.cell 4
  have u0 := g4.frozen 0
  have u1 := g4.frozen 1
  have u2 := g4.frozen 2
  have u3 := g4.frozen 3
  have u4 := g4.frozen 4
  simp only [List.getElem?_cons_zero, List.getElem?_cons_succ] at q0 q1 q2 q3 q4
  go_wp2_with fail
  refine HK1.out.mono ?_
  rintro e w2 ⟨rfl, rfl⟩
  go_wp2_with fail
  refine HT1.out.mono ?_
  rintro e w3 ⟨rfl, rfl⟩
  go_wp2
  have hN := g4.five (.slice none 0 0) (.int .i64 0) (.int .i64 0) (.int .i64 0) (.slice none 0 0)
  have r0 := hN.cell 0
  have r1 := hN.cell 1
  have r2 := hN.cell 2
  have r3 := hN.cell 3
  have r4 := hN.cell 4
  simp only [List.getElem?_cons_zero, List.getElem?_cons_succ] at r0 r1 r2 r3 r4
  refine bodyPost_ret (v := .tuple #[.agg #[(.slice none 0 0), (.int .i64 0), (.int .i64 0), (.int .i64 0), (.slice none 0 0)], .int .i64 r]) (by simp [results, Try.results38, go_sem, r0, r1, r2, r3, r4]) rfl ?_
  exact ⟨rfl, Keeps.five hkw (by omega) _ _ _ _ _⟩
set_option maxRecDepth 100000 in
set_option maxHeartbeats 1000000 in
theorem put_found (hE : EntR w A es) (hI : IRow w B px) (hs : EntS es) (W H m : Int) (hl : px.length ≤ maxLen) (hel : es.length ≤ maxLen) (key value : ByteArray) (hk : key.size ≤ 1000000) (hv : value.size ≤ 1000000) (hc : frmC es W H m px = 0) (hkb : keyB key = true) (hvc : valC value = 0)
    (h32 : es.length ≤ 1000) (hp1 : 1 ≤ px.length) (hp2 : px.length ≤ 4096) {l r : List Ent} {v : ByteArray} (he : es = l ++ (key, v) :: r) (hal : AllL l key) (har : AllG r key) :
    Calls Try.prog 38 #[frmV A es.length c W H m B px.length d, .string key, .string value] w fun e w' => ∃ A' c' P cp, e = .returned (.tuple #[frmV A' es.length c' W H m P px.length cp, .int .i64 0]) ∧ EntR w' A' (l ++ (key, value) :: r) ∧ IRow w' P px ∧ Keeps w w' := by
  obtain ⟨W1, hW1⟩ : ∃ W1, (w.alloc (.cells #[.slice A es.length c, .int .i64 W, .int .i64 H, .int .i64 m, .slice B px.length d] 27)).alloc (.cells #[.slice none 0 0, .int .i64 0, .int .i64 0, .int .i64 0, .slice none 0 0] 27) = W1 := ⟨_, rfl⟩
  have g : Own W1 w.heap.size 27 [.slice A es.length c, .int .i64 W, .int .i64 H, .int .i64 m, .slice B px.length d] := hW1 ▸ (Own.new w _ _).alloc _
  have g4 : Own W1 (w.heap.size + 1) 27 [.slice none 0 0, .int .i64 0, .int .i64 0, .int .i64 0, .slice none 0 0] := hW1 ▸ own2 w _ _ _
  have hkw : Keeps w W1 := hW1 ▸ keep2 w _ _
  have hs1 : w.heap.size + 2 ≤ W1.heap.size := by rw [← hW1]; simp
  have x0 := g.cell 0
  have x1 := g.cell 1
  have x2 := g.cell 2
  have x3 := g.cell 3
  have x4 := g.cell 4
  simp only [List.getElem?_cons_zero, List.getElem?_cons_succ] at x0 x1 x2 x3 x4
  have HC := Lib.hid (fcheck_any (c := c) (d := d) (hE.below hkw) (hI.below hkw) hs W H m hl hel)
  rw [hc] at HC
  have HF := fun u (hk : Keeps w u) => Lib.hid (find_any (c := c) (hE.below hk) h32 (he ▸ parts_found hal har) W H m B px.length d)
  rw [headK_found] at HF
  have hlen : es.length = l.length + r.length + 1 := by rw [he]; simp; omega
  have HLEN := Lib.hid hlen
  have HK := fun u => Lib.hid (isKey_any key u hk)
  rw [hkb] at HK
  have HT := fun u => Lib.hid (checkText_any value u hv)
  rw [hvc] at HT
  have HES := Lib.hid he
  have HE := Lib.hid hE
  have HI := Lib.hid hI
  have hlI : (l.length : Int) < es.length := by omega
  have hnI : (es.length : Int) ≤ 1000 := by omega
  clear hE hI hc hal har he hlen hkb hvc
  go_enter Try.func38, Try.ntmps38
  go_wp2_with fail
  refine HC.out.mono ?_
  rintro e w1 ⟨rfl, hk1⟩
  replace g := g.below hk1
  replace g4 := g4.below hk1
  replace hkw := hkw.trans' hk1
  replace hs1 := Nat.le_trans hs1 hk1.size
  have x0 := g.cell 0
  have x1 := g.cell 1
  have x2 := g.cell 2
  have x3 := g.cell 3
  have x4 := g.cell 4
  simp only [List.getElem?_cons_zero, List.getElem?_cons_succ] at x0 x1 x2 x3 x4
  have HK1 := HK w1
  have HT1 := HT w1
  have HF1 := HF w1 hkw
  go_wp2_with fail
  refine HK1.out.mono ?_
  rintro e w2 ⟨rfl, rfl⟩
  go_wp2_with fail
  refine HT1.out.mono ?_
  rintro e w3 ⟨rfl, rfl⟩
  go_wp2_with fail
  refine HF1.out.mono ?_
  rintro e w4 ⟨rfl, hk4⟩
  replace g := g.below hk4
  replace g4 := g4.below hk4
  replace hkw := hkw.trans' hk4
  replace hs1 := Nat.le_trans hs1 hk4.size
  have x0 := g.cell 0
  have x1 := g.cell 1
  have x2 := g.cell 2
  have x3 := g.cell 3
  have x4 := g.cell 4
  simp only [List.getElem?_cons_zero, List.getElem?_cons_succ] at x0 x1 x2 x3 x4
  have HCL := Lib.hid (cloneE_any (c := c) (HE.out.below hkw) h32)
  go_wp2_with fail
  refine HCL.out.mono ?_
  rintro e wa ⟨V, rfl, hV, hka⟩
  obtain ⟨gg, cap, rfl, hOE⟩ := oe_some hV (by have := HLEN.out; omega)
  rw [HES.out] at hOE
  obtain ⟨hlo, hle, hmx, sp, hO, hsp⟩ := hOE
  replace g := g.below hka
  replace g4 := g4.below hka
  have hkwa := hkw.trans' hka
  have hsa := Nat.le_trans hs1 hka.size
  have hlen2 : l.length * 2 + 1 < (entVs (l ++ (key, v) :: r) ++ sp).length := by rw [List.length_append, entVs_length, List.length_append, List.length_cons]; omega
  have y1 : wa.cell? ⟨gg, l.length * 2 + 1, none⟩ = some ((entVs (l ++ (key, v) :: r) ++ sp)[l.length * 2 + 1]) := by rw [hO.cell, List.getElem?_eq_getElem hlen2]
  generalize (entVs (l ++ (key, v) :: r) ++ sp)[l.length * 2 + 1] = old at *
  have f1 := hO.frozen (l.length * 2 + 1)
  have hO2 := hO.set (l.length * 2 + 1) (.string value)
  rw [Nat.mul_comm, entVs_set1, Nat.mul_comm] at hO2
  have hggb : w.heap.size + 2 ≤ gg := Nat.le_trans hs1 hlo
  have hk5 : Keeps w (wa.setCell ⟨gg, l.length * 2 + 1, none⟩ (.string value)) := hkwa.set (p := ⟨gg, l.length * 2 + 1, none⟩) (by show w.heap.size ≤ gg; omega) _
  have g5 := g.far (p := ⟨gg, l.length * 2 + 1, none⟩) (by show w.heap.size ≠ gg; omega) (.string value)
  have g45 := g4.far (p := ⟨gg, l.length * 2 + 1, none⟩) (by show w.heap.size + 1 ≠ gg; omega) (.string value)
  have HCP := Lib.hid (copied_any (A := A) (n := es.length) (c := c) (d := d) (HI.out.below hk5) hp1 hp2 W H m (some ⟨gg, 0, none⟩) es.length cap)
  have HER := Lib.hid (entR_of hO2)
  have x0 := g5.cell 0
  have x1 := g5.cell 1
  have x2 := g5.cell 2
  have x3 := g5.cell 3
  have x4 := g5.cell 4
  simp only [List.getElem?_cons_zero, List.getElem?_cons_succ] at x0 x1 x2 x3 x4
  clear hV hO hO2 hsp hlen2
  go_wp2_with fail
  refine HCP.out.mono ?_
  rintro e wc ⟨P, cp, rfl, hIP, hAP, hkc⟩
  have g4c := g45.below hkc
  have hkF := hk5.trans' hkc
  have hPlo := hk5.size
  have q0 := g4c.cell 0
  have q1 := g4c.cell 1
  have q2 := g4c.cell 2
  have q3 := g4c.cell 3
  have q4 := g4c.cell 4
  have u0 := g4c.frozen 0
  have u1 := g4c.frozen 1
  have u2 := g4c.frozen 2
  have u3 := g4c.frozen 3
  have u4 := g4c.frozen 4
  simp only [List.getElem?_cons_zero, List.getElem?_cons_succ] at q0 q1 q2 q3 q4
  go_wp2
  have hN := g4c.five (.slice (some ⟨gg, 0, none⟩) es.length cap) (.int .i64 W) (.int .i64 H) (.int .i64 m) (.slice P px.length cp)
  have r0 := hN.cell 0
  have r1 := hN.cell 1
  have r2 := hN.cell 2
  have r3 := hN.cell 3
  have r4 := hN.cell 4
  simp only [List.getElem?_cons_zero, List.getElem?_cons_succ] at r0 r1 r2 r3 r4
  refine bodyPost_ret (v := .tuple #[.agg #[(.slice (some ⟨gg, 0, none⟩) es.length cap), (.int .i64 W), (.int .i64 H), (.int .i64 m), (.slice P px.length cp)], .int .i64 0]) (by simp [results, Try.results38, go_sem, r0, r1, r2, r3, r4]) rfl ?_
  refine ⟨_, _, _, _, rfl, (HER.out.below hkc).five (above_of hggb) (by omega) _ _ _ _ _, IRow.five hIP hAP (by simp [World.setCell]; omega) _ _ _ _ _, Keeps.five hkF (by omega) _ _ _ _ _⟩
end
end Go.Proofs.Ytbkcnhbdjllojaa
