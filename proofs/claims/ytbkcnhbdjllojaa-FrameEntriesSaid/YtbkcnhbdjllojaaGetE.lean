/- Get, Drop: the walks. -/
import Derived.Test.YtbkcnhbdjllojaaCopE
namespace Go.Proofs.Ytbkcnhbdjllojaa
open Go.RowKit Go.Shelf

theorem parts_found {key v : ByteArray} {l r : List Ent} (hl : AllL l key) (hr : AllG r key) : Parts key (l ++ (key, v) :: r) l ((key, v) :: r) := ⟨rfl, hl, fun e he => by
  rcases List.mem_cons.1 he with rfl | he
  · exact bL_irrefl _
  · exact sLess_not (hr e he)⟩
theorem parts_miss {key : ByteArray} {l r : List Ent} (hl : AllL l key) (hr : AllG r key) : Parts key (l ++ r) l r := ⟨rfl, hl, fun e he => sLess_not (hr e he)⟩
theorem headK_found (key v : ByteArray) (r : List Ent) : headK key ((key, v) :: r) = true := isK_iff.2 rfl
theorem headK_miss {key : ByteArray} {r : List Ent} (hr : AllG r key) : headK key r = false := by
  cases r with
  | nil => rfl
  | cons e r => exact isK_not (hr.ne e List.mem_cons_self)
section
variable {w : World} {A B : Option Addr} {c d : Nat} {es : List Ent} {px : List Int}
set_option maxRecDepth 100000 in
theorem get_no (hE : EntR w A es) (hI : IRow w B px) (hs : EntS es) (W H m : Int) (hl : px.length ≤ maxLen) (hel : es.length ≤ maxLen) (key : ByteArray) (hc : frmC es W H m px ≠ 0) :
    Calls Try.prog 37 #[frmV A es.length c W H m B px.length d, .string key] w fun e w' => e = .returned (.tuple #[.string ⟨#[]⟩, .int .i64 (frmC es W H m px)]) ∧ Keeps w w' := by
  obtain ⟨W1, hW1⟩ : ∃ W1, w.alloc (.cells #[.slice A es.length c, .int .i64 W, .int .i64 H, .int .i64 m, .slice B px.length d] 27) = W1 := ⟨_, rfl⟩
  have g : Own W1 w.heap.size 27 [.slice A es.length c, .int .i64 W, .int .i64 H, .int .i64 m, .slice B px.length d] := hW1 ▸ Own.new w _ _
  have hkw : Keeps w W1 := hW1 ▸ (Below.refl _ _).alloc (Nat.le_refl _) _
  have x0 := g.cell 0
  have x1 := g.cell 1
  have x2 := g.cell 2
  have x3 := g.cell 3
  have x4 := g.cell 4
  simp only [List.getElem?_cons_zero, List.getElem?_cons_succ] at x0 x1 x2 x3 x4
  have HC := Lib.hid (fcheck_any (c := c) (d := d) (hE.below hkw) (hI.below hkw) hs W H m hl hel)
  obtain ⟨r, hr⟩ : ∃ r, frmC es W H m px = r := ⟨_, rfl⟩
  rw [hr] at HC hc ⊢
  have hne : (r != 0) = true := by simpa using hc
  clear hr hE hI hc
  go_enter Try.func37, Try.ntmps37
  go_wp2_with fail
  refine HC.out.mono ?_
  rintro e w1 ⟨rfl, hk1⟩
  go_wp2
  go_ret2
  exact ⟨rfl, hkw.trans' hk1⟩
set_option maxRecDepth 100000 in
theorem get_yes (hE : EntR w A es) (hI : IRow w B px) (hs : EntS es) (W H m : Int) (hl : px.length ≤ maxLen) (hel : es.length ≤ maxLen) (key : ByteArray) (hc : frmC es W H m px = 0) (h32 : es.length ≤ 1000)
    {l r : List Ent} {v : ByteArray} (he : es = l ++ (key, v) :: r) (hal : AllL l key) (har : AllG r key) :
    Calls Try.prog 37 #[frmV A es.length c W H m B px.length d, .string key] w fun e w' => e = .returned (.tuple #[.string v, .int .i64 0]) ∧ Keeps w w' := by
  obtain ⟨W1, hW1⟩ : ∃ W1, w.alloc (.cells #[.slice A es.length c, .int .i64 W, .int .i64 H, .int .i64 m, .slice B px.length d] 27) = W1 := ⟨_, rfl⟩
  have g : Own W1 w.heap.size 27 [.slice A es.length c, .int .i64 W, .int .i64 H, .int .i64 m, .slice B px.length d] := hW1 ▸ Own.new w _ _
  have hkw : Keeps w W1 := hW1 ▸ (Below.refl _ _).alloc (Nat.le_refl _) _
  have x0 := g.cell 0
  have x1 := g.cell 1
  have x2 := g.cell 2
  have x3 := g.cell 3
  have x4 := g.cell 4
  simp only [List.getElem?_cons_zero, List.getElem?_cons_succ] at x0 x1 x2 x3 x4
  have HC := Lib.hid (fcheck_any (c := c) (d := d) (hE.below hkw) (hI.below hkw) hs W H m hl hel)
  rw [hc] at HC
  have HF := fun u (hk : Keeps w u) => Lib.hid (find_any (c := c) (hE.below hk) h32 (he ▸ parts_found hal har) W H m B px.length d)
  rw [headK_found] at HF
  have hkv : es[l.length]? = some (key, v) := by rw [he]; simp
  have hln : l.length < es.length := (List.getElem?_eq_some_iff.1 hkv).1
  have hlnI : (l.length : Int) < es.length := by omega
  have HE := Lib.hid hE
  have HKV := Lib.hid hkv
  clear hE hI hc he hal har hkv
  go_enter Try.func37, Try.ntmps37
  go_wp2_with fail
  refine HC.out.mono ?_
  rintro e w1 ⟨rfl, hk1⟩
  replace g := g.below hk1
  replace hkw := hkw.trans' hk1
  have x0 := g.cell 0
  have x1 := g.cell 1
  have x2 := g.cell 2
  have x3 := g.cell 3
  have x4 := g.cell 4
  simp only [List.getElem?_cons_zero, List.getElem?_cons_succ] at x0 x1 x2 x3 x4
  have HF1 := HF _ hkw
  go_wp2_with fail
  refine HF1.out.mono ?_
  rintro e w2 ⟨rfl, hk2⟩
  replace g := g.below hk2
  replace hkw := hkw.trans' hk2
  have x0 := g.cell 0
  have x1 := g.cell 1
  have x2 := g.cell 2
  have x3 := g.cell 3
  have x4 := g.cell 4
  simp only [List.getElem?_cons_zero, List.getElem?_cons_succ] at x0 x1 x2 x3 x4
  obtain ⟨b, o, rfl, -, c1, c2⟩ := (HE.out.below hkw) l.length key v HKV.out
  go_wp2
  go_ret2
  exact ⟨rfl, hkw⟩
set_option maxRecDepth 100000 in
theorem get_miss (hE : EntR w A es) (hI : IRow w B px) (hs : EntS es) (W H m : Int) (hl : px.length ≤ maxLen) (hel : es.length ≤ maxLen) (key : ByteArray) (hc : frmC es W H m px = 0) (h32 : es.length ≤ 1000)
    {l r : List Ent} (he : es = l ++ r) (hal : AllL l key) (har : AllG r key) :
    Calls Try.prog 37 #[frmV A es.length c W H m B px.length d, .string key] w fun e w' => e = .returned (.tuple #[.string ⟨#[]⟩, .int .i64 6]) ∧ Keeps w w' := by
  obtain ⟨W1, hW1⟩ : ∃ W1, w.alloc (.cells #[.slice A es.length c, .int .i64 W, .int .i64 H, .int .i64 m, .slice B px.length d] 27) = W1 := ⟨_, rfl⟩
  have g : Own W1 w.heap.size 27 [.slice A es.length c, .int .i64 W, .int .i64 H, .int .i64 m, .slice B px.length d] := hW1 ▸ Own.new w _ _
  have hkw : Keeps w W1 := hW1 ▸ (Below.refl _ _).alloc (Nat.le_refl _) _
  have x0 := g.cell 0
  have x1 := g.cell 1
  have x2 := g.cell 2
  have x3 := g.cell 3
  have x4 := g.cell 4
  simp only [List.getElem?_cons_zero, List.getElem?_cons_succ] at x0 x1 x2 x3 x4
  have HC := Lib.hid (fcheck_any (c := c) (d := d) (hE.below hkw) (hI.below hkw) hs W H m hl hel)
  rw [hc] at HC
  have HF := fun u (hk : Keeps w u) => Lib.hid (find_any (c := c) (hE.below hk) h32 (he ▸ parts_miss hal har) W H m B px.length d)
  rw [headK_miss har] at HF
  clear hE hI hc he hal har
  go_enter Try.func37, Try.ntmps37
  go_wp2_with fail
  refine HC.out.mono ?_
  rintro e w1 ⟨rfl, hk1⟩
  replace g := g.below hk1
  replace hkw := hkw.trans' hk1
  have x0 := g.cell 0
  have x1 := g.cell 1
  have x2 := g.cell 2
  have x3 := g.cell 3
  have x4 := g.cell 4
  simp only [List.getElem?_cons_zero, List.getElem?_cons_succ] at x0 x1 x2 x3 x4
  have HF1 := HF _ hkw
  go_wp2_with fail
  refine HF1.out.mono ?_
  rintro e w2 ⟨rfl, hk2⟩
  go_wp2
  go_ret2
  exact ⟨rfl, hkw.trans' hk2⟩
/-! Drop -/
set_option maxRecDepth 100000 in
theorem drop_no (hE : EntR w A es) (hI : IRow w B px) (hs : EntS es) (W H m : Int) (hl : px.length ≤ maxLen) (hel : es.length ≤ maxLen) (key : ByteArray) (hc : frmC es W H m px ≠ 0) :
    Calls Try.prog 39 #[frmV A es.length c W H m B px.length d, .string key] w fun e w' => e = .returned (.tuple #[frmV none 0 0 0 0 0 none 0 0, .int .i64 (frmC es W H m px)]) ∧ Keeps w w' := by
  obtain ⟨W1, hW1⟩ : ∃ W1, (w.alloc (.cells #[.slice A es.length c, .int .i64 W, .int .i64 H, .int .i64 m, .slice B px.length d] 27)).alloc (.cells #[.slice none 0 0, .int .i64 0, .int .i64 0, .int .i64 0, .slice none 0 0] 27) = W1 := ⟨_, rfl⟩
  have g : Own W1 w.heap.size 27 [.slice A es.length c, .int .i64 W, .int .i64 H, .int .i64 m, .slice B px.length d] := hW1 ▸ (Own.new w _ _).alloc _
  have g4 : Own W1 (w.heap.size + 1) 27 [.slice none 0 0, .int .i64 0, .int .i64 0, .int .i64 0, .slice none 0 0] := hW1 ▸ own2 w _ _ _
  have hkw : Keeps w W1 := hW1 ▸ keep2 w _ _
  have HS1 : Hid (w.heap.size + 2 ≤ W1.heap.size) := Lib.hid (by rw [← hW1]; simp)
  have x0 := g.cell 0
  have x1 := g.cell 1
  have x2 := g.cell 2
  have x3 := g.cell 3
  have x4 := g.cell 4
  simp only [List.getElem?_cons_zero, List.getElem?_cons_succ] at x0 x1 x2 x3 x4
  have HC := Lib.hid (fcheck_any (c := c) (d := d) (hE.below hkw) (hI.below hkw) hs W H m hl hel)
  obtain ⟨r, hr⟩ : ∃ r, frmC es W H m px = r := ⟨_, rfl⟩
  rw [hr] at HC hc ⊢
  have hne : (r != 0) = true := by simpa using hc
  clear hr hE hI hc
  go_enter Try.func39, Try.ntmps39
  go_wp2_with fail
  refine HC.out.mono ?_
  rintro e w1 ⟨rfl, hk1⟩
  replace g4 := g4.below hk1
  have q0 := g4.cell 0
  have q1 := g4.cell 1
  have q2 := g4.cell 2
  have q3 := g4.cell 3
  have q4 := g4.cell 4
  have u0 := g4.frozen 0
  have u1 := g4.frozen 1
  have u2 := g4.frozen 2
  have u3 := g4.frozen 3
  have u4 := g4.frozen 4
  simp only [List.getElem?_cons_zero, List.getElem?_cons_succ] at q0 q1 q2 q3 q4
  go_wp2
  have hN := g4.five (.slice none 0 0) (.int .i64 0) (.int .i64 0) (.int .i64 0) (.slice none 0 0)
  have r0 := hN.cell 0
  have r1 := hN.cell 1
  have r2 := hN.cell 2
  have r3 := hN.cell 3
  have r4 := hN.cell 4
  simp only [List.getElem?_cons_zero, List.getElem?_cons_succ] at r0 r1 r2 r3 r4
  refine bodyPost_ret (v := .tuple #[.agg #[(.slice none 0 0), (.int .i64 0), (.int .i64 0), (.int .i64 0), (.slice none 0 0)], .int .i64 r]) (by simp [results, Try.results39, go_sem, r0, r1, r2, r3, r4]) rfl ?_
  exact ⟨rfl, Keeps.five (hkw.trans' hk1) (by omega) _ _ _ _ _⟩
set_option maxRecDepth 100000 in
theorem drop_miss (hE : EntR w A es) (hI : IRow w B px) (hs : EntS es) (W H m : Int) (hl : px.length ≤ maxLen) (hel : es.length ≤ maxLen) (key : ByteArray) (hc : frmC es W H m px = 0) (h32 : es.length ≤ 1000)
    {l r : List Ent} (he : es = l ++ r) (hal : AllL l key) (har : AllG r key) :
    Calls Try.prog 39 #[frmV A es.length c W H m B px.length d, .string key] w fun e w' => e = .returned (.tuple #[frmV none 0 0 0 0 0 none 0 0, .int .i64 6]) ∧ Keeps w w' := by
  obtain ⟨W1, hW1⟩ : ∃ W1, (w.alloc (.cells #[.slice A es.length c, .int .i64 W, .int .i64 H, .int .i64 m, .slice B px.length d] 27)).alloc (.cells #[.slice none 0 0, .int .i64 0, .int .i64 0, .int .i64 0, .slice none 0 0] 27) = W1 := ⟨_, rfl⟩
  have g : Own W1 w.heap.size 27 [.slice A es.length c, .int .i64 W, .int .i64 H, .int .i64 m, .slice B px.length d] := hW1 ▸ (Own.new w _ _).alloc _
  have g4 : Own W1 (w.heap.size + 1) 27 [.slice none 0 0, .int .i64 0, .int .i64 0, .int .i64 0, .slice none 0 0] := hW1 ▸ own2 w _ _ _
  have hkw : Keeps w W1 := hW1 ▸ keep2 w _ _
  have HS1 : Hid (w.heap.size + 2 ≤ W1.heap.size) := Lib.hid (by rw [← hW1]; simp)
  have x0 := g.cell 0
  have x1 := g.cell 1
  have x2 := g.cell 2
  have x3 := g.cell 3
  have x4 := g.cell 4
  simp only [List.getElem?_cons_zero, List.getElem?_cons_succ] at x0 x1 x2 x3 x4
  have HC := Lib.hid (fcheck_any (c := c) (d := d) (hE.below hkw) (hI.below hkw) hs W H m hl hel)
  rw [hc] at HC
  have HF := fun u (hk : Keeps w u) => Lib.hid (find_any (c := c) (hE.below hk) h32 (he ▸ parts_miss hal har) W H m B px.length d)
  rw [headK_miss har] at HF
  clear hE hI hc he hal har
  go_enter Try.func39, Try.ntmps39
  go_wp2_with fail
  refine HC.out.mono ?_
  rintro e w1 ⟨rfl, hk1⟩
  replace g := g.below hk1
  replace g4 := g4.below hk1
  replace hkw := hkw.trans' hk1
  have x0 := g.cell 0
  have x1 := g.cell 1
  have x2 := g.cell 2
  have x3 := g.cell 3
  have x4 := g.cell 4
  simp only [List.getElem?_cons_zero, List.getElem?_cons_succ] at x0 x1 x2 x3 x4
  have HF1 := HF _ hkw
  go_wp2_with fail
  refine HF1.out.mono ?_
  rintro e w2 ⟨rfl, hk2⟩
  replace g4 := g4.below hk2
  have q0 := g4.cell 0
  have q1 := g4.cell 1
  have q2 := g4.cell 2
  have q3 := g4.cell 3
  have q4 := g4.cell 4
  have u0 := g4.frozen 0
  have u1 := g4.frozen 1
  have u2 := g4.frozen 2
  have u3 := g4.frozen 3
  have u4 := g4.frozen 4
  simp only [List.getElem?_cons_zero, List.getElem?_cons_succ] at q0 q1 q2 q3 q4
  go_wp2
  have hN := g4.five (.slice none 0 0) (.int .i64 0) (.int .i64 0) (.int .i64 0) (.slice none 0 0)
  have r0 := hN.cell 0
  have r1 := hN.cell 1
  have r2 := hN.cell 2
  have r3 := hN.cell 3
  have r4 := hN.cell 4
  simp only [List.getElem?_cons_zero, List.getElem?_cons_succ] at r0 r1 r2 r3 r4
  refine bodyPost_ret (v := .tuple #[.agg #[(.slice none 0 0), (.int .i64 0), (.int .i64 0), (.int .i64 0), (.slice none 0 0)], .int .i64 6]) (by simp [results, Try.results39, go_sem, r0, r1, r2, r3, r4]) rfl ?_
  exact ⟨rfl, Keeps.five (hkw.trans' hk2) (by omega) _ _ _ _ _⟩
end
end Go.Proofs.Ytbkcnhbdjllojaa
