/- Put of a new key: the walks. -/
import Derived.Test.YtbkcnhbdjllojaaPutE
namespace Go.Proofs.Ytbkcnhbdjllojaa
open Go.RowKit Go.Shelf

theorem insertE_n {w : World} {base : Nat} {V : Value} {n : Nat} {es l r : List Ent} {k v : ByteArray} {vb : Nat} (h : w.ownsRow base 57 2 V n (entVs es)) (he : es = l ++ r) (hN : n = l.length + r.length) (hv : Own w vb 57 [.string k, .string v]) (hne : V.ownBlock ≠ some vb) (hn : l.length + r.length ≤ 1000) (hb : base ≤ w.heap.size) :
    Calls Try.prog 47 #[V, .int .i64 (l.length : Nat), .slice (some ⟨vb, 0, none⟩) 1 1] w fun e w' => ∃ A' c', e = .returned (.slice A' (l.length + r.length + 1) c') ∧ EntR w' A' (l ++ (k, v) :: r) ∧ Above base A' ∧ Below base w w' := by
  subst he hN
  exact insertE_any h hv hne hn hb
section
variable {w : World} {A B : Option Addr} {c d : Nat} {es : List Ent} {px : List Int}
set_option maxRecDepth 100000 in
set_option maxHeartbeats 1000000 in
theorem put_full (hE : EntR w A es) (hI : IRow w B px) (hs : EntS es) (W H m : Int) (hl : px.length ≤ maxLen) (hel : es.length ≤ maxLen) (key value : ByteArray) (hk : key.size ≤ 1000000) (hv : value.size ≤ 1000000) (hc : frmC es W H m px = 0) (hkb : keyB key = true) (hvc : valC value = 0)
    (h32 : es.length ≤ 1000) (hfull : es.length = 32) {l r : List Ent} (he : es = l ++ r) (hal : AllL l key) (har : AllG r key) :
    Calls Try.prog 38 #[frmV A es.length c W H m B px.length d, .string key, .string value] w fun e w' => e = .returned (.tuple #[frmV none 0 0 0 0 0 none 0 0, .int .i64 3]) ∧ Keeps w w' := by
  obtain ⟨W1, hW1⟩ : ∃ W1, (w.alloc (.cells #[.slice A es.length c, .int .i64 W, .int .i64 H, .int .i64 m, .slice B px.length d] 27)).alloc (.cells #[.slice none 0 0, .int .i64 0, .int .i64 0, .int .i64 0, .slice none 0 0] 27) = W1 := ⟨_, rfl⟩
  have g : Own W1 w.heap.size 27 [.slice A es.length c, .int .i64 W, .int .i64 H, .int .i64 m, .slice B px.length d] := hW1 ▸ (Own.new w _ _).alloc _
  have g4 : Own W1 (w.heap.size + 1) 27 [.slice none 0 0, .int .i64 0, .int .i64 0, .int .i64 0, .slice none 0 0] := hW1 ▸ own2 w _ _ _
  have hkw : Keeps w W1 := hW1 ▸ keep2 w _ _
  have hs1 : w.heap.size + 2 ≤ W1.heap.size := by rw [← hW1]; simp
  have x0 := g.cell 0
  have x1 := g.cell 1
  have x2 := g.cell 2
  have x3 := g.cell 3
  have x4 := g.cell 4
  simp only [List.getElem?_cons_zero, List.getElem?_cons_succ] at x0 x1 x2 x3 x4
  have HC := Lib.hid (fcheck_any (c := c) (d := d) (hE.below hkw) (hI.below hkw) hs W H m hl hel)
  rw [hc] at HC
  have HF := fun u (hk : Keeps w u) => Lib.hid (find_any (c := c) (hE.below hk) h32 (he ▸ parts_miss hal har) W H m B px.length d)
  rw [headK_miss har] at HF
  have HK := fun u => Lib.hid (isKey_any key u hk)
  rw [hkb] at HK
  have HT := fun u => Lib.hid (checkText_any value u hv)
  rw [hvc] at HT
  have HES := Lib.hid he
  have HE := Lib.hid hE
  have HI := Lib.hid hI
  have hnb : ((es.length : Int) == 32) = true := by simp [hfull]
  have hnI : (es.length : Int) ≤ 1000 := by omega
  clear hE hI hc hal har he hkb hvc hfull
  go_enter Try.func38, Try.ntmps38
  go_wp2_with fail
  refine HC.out.mono ?_
  rintro e w1 ⟨rfl, hk1⟩
  replace g := g.below hk1
  replace g4 := g4.below hk1
  replace hkw := hkw.trans' hk1
  replace hs1 := Nat.le_trans hs1 hk1.size
  have x0 := g.cell 0
  have x1 := g.cell 1
  have x2 := g.cell 2
  have x3 := g.cell 3
  have x4 := g.cell 4
  simp only [List.getElem?_cons_zero, List.getElem?_cons_succ] at x0 x1 x2 x3 x4
  have HK1 := HK w1
  have HT1 := HT w1
  have HF1 := HF w1 hkw
  go_wp2_with fail
  refine HK1.out.mono ?_
  rintro e w2 ⟨rfl, rfl⟩
  go_wp2_with fail
  refine HT1.out.mono ?_
  rintro e w3 ⟨rfl, rfl⟩
  go_wp2_with fail
  refine HF1.out.mono ?_
  rintro e w4 ⟨rfl, hk4⟩
  replace g := g.below hk4
  replace g4 := g4.below hk4
  replace hkw := hkw.trans' hk4
  replace hs1 := Nat.le_trans hs1 hk4.size
  have x0 := g.cell 0
  have x1 := g.cell 1
  have x2 := g.cell 2
  have x3 := g.cell 3
  have x4 := g.cell 4
  simp only [List.getElem?_cons_zero, List.getElem?_cons_succ] at x0 x1 x2 x3 x4
  have HCL := Lib.hid (cloneE_any (c := c) (HE.out.below hkw) h32)
  go_wp2_with fail
  refine HCL.out.mono ?_
  rintro e wa ⟨V, rfl, hV, hka⟩
  obtain ⟨A6, c6, rfl, -⟩ := hV.sl
  replace g4 := g4.below hka
  replace hkw := hkw.trans' hka
  have q0 := g4.cell 0
  have q1 := g4.cell 1
  have q2 := g4.cell 2
  have q3 := g4.cell 3
  have q4 := g4.cell 4
  have u0 := g4.frozen 0
  have u1 := g4.frozen 1
  have u2 := g4.frozen 2
  have u3 := g4.frozen 3
  have u4 := g4.frozen 4
  simp only [List.getElem?_cons_zero, List.getElem?_cons_succ] at q0 q1 q2 q3 q4
  go_wp2
  have hN := g4.five (.slice none 0 0) (.int .i64 0) (.int .i64 0) (.int .i64 0) (.slice none 0 0)
  have r0 := hN.cell 0
  have r1 := hN.cell 1
  have r2 := hN.cell 2
  have r3 := hN.cell 3
  have r4 := hN.cell 4
  simp only [List.getElem?_cons_zero, List.getElem?_cons_succ] at r0 r1 r2 r3 r4
  refine bodyPost_ret (v := .tuple #[.agg #[(.slice none 0 0), (.int .i64 0), (.int .i64 0), (.int .i64 0), (.slice none 0 0)], .int .i64 3]) (by simp [results, Try.results38, go_sem, r0, r1, r2, r3, r4]) rfl ?_
  exact ⟨rfl, Keeps.five hkw (by omega) _ _ _ _ _⟩
set_option maxRecDepth 100000 in
set_option maxHeartbeats 1000000 in
theorem put_new (hE : EntR w A es) (hI : IRow w B px) (hs : EntS es) (W H m : Int) (hl : px.length ≤ maxLen) (hel : es.length ≤ maxLen) (key value : ByteArray) (hk : key.size ≤ 1000000) (hv : value.size ≤ 1000000) (hc : frmC es W H m px = 0) (hkb : keyB key = true) (hvc : valC value = 0)
    (h32 : es.length ≤ 1000) (hfull : es.length ≠ 32) (hp1 : 1 ≤ px.length) (hp2 : px.length ≤ 4096) {l r : List Ent} (he : es = l ++ r) (hal : AllL l key) (har : AllG r key) :
    Calls Try.prog 38 #[frmV A es.length c W H m B px.length d, .string key, .string value] w fun e w' => ∃ A' c' P cp, e = .returned (.tuple #[frmV A' (l.length + r.length + 1) c' W H m P px.length cp, .int .i64 0]) ∧ EntR w' A' (l ++ (key, value) :: r) ∧ IRow w' P px ∧ Keeps w w' := by
  obtain ⟨W1, hW1⟩ : ∃ W1, (w.alloc (.cells #[.slice A es.length c, .int .i64 W, .int .i64 H, .int .i64 m, .slice B px.length d] 27)).alloc (.cells #[.slice none 0 0, .int .i64 0, .int .i64 0, .int .i64 0, .slice none 0 0] 27) = W1 := ⟨_, rfl⟩
  have g : Own W1 w.heap.size 27 [.slice A es.length c, .int .i64 W, .int .i64 H, .int .i64 m, .slice B px.length d] := hW1 ▸ (Own.new w _ _).alloc _
  have g4 : Own W1 (w.heap.size + 1) 27 [.slice none 0 0, .int .i64 0, .int .i64 0, .int .i64 0, .slice none 0 0] := hW1 ▸ own2 w _ _ _
  have hkw : Keeps w W1 := hW1 ▸ keep2 w _ _
  have hs1 : w.heap.size + 2 ≤ W1.heap.size := by rw [← hW1]; simp
  have x0 := g.cell 0
  have x1 := g.cell 1
  have x2 := g.cell 2
  have x3 := g.cell 3
  have x4 := g.cell 4
  simp only [List.getElem?_cons_zero, List.getElem?_cons_succ] at x0 x1 x2 x3 x4
  have HC := Lib.hid (fcheck_any (c := c) (d := d) (hE.below hkw) (hI.below hkw) hs W H m hl hel)
  rw [hc] at HC
  have HF := fun u (hk : Keeps w u) => Lib.hid (find_any (c := c) (hE.below hk) h32 (he ▸ parts_miss hal har) W H m B px.length d)
  rw [headK_miss har] at HF
  have hlen : es.length = l.length + r.length := by rw [he]; simp
  have HLEN := Lib.hid hlen
  have HK := fun u => Lib.hid (isKey_any key u hk)
  rw [hkb] at HK
  have HT := fun u => Lib.hid (checkText_any value u hv)
  rw [hvc] at HT
  have HES := Lib.hid he
  have HE := Lib.hid hE
  have HI := Lib.hid hI
  have hnI : (es.length : Int) ≤ 1000 := by omega
  have hnb : ((es.length : Int) == 32) = false := by simp; omega
  clear hE hI hc hal har he hlen hkb hvc
  go_enter Try.func38, Try.ntmps38
  go_wp2_with fail
  refine HC.out.mono ?_
  rintro e w1 ⟨rfl, hk1⟩
  replace g := g.below hk1
  replace g4 := g4.below hk1
  replace hkw := hkw.trans' hk1
  replace hs1 := Nat.le_trans hs1 hk1.size
  have x0 := g.cell 0
  have x1 := g.cell 1
  have x2 := g.cell 2
  have x3 := g.cell 3
  have x4 := g.cell 4
  simp only [List.getElem?_cons_zero, List.getElem?_cons_succ] at x0 x1 x2 x3 x4
  have HK1 := HK w1
  have HT1 := HT w1
  have HF1 := HF w1 hkw
  go_wp2_with fail
  refine HK1.out.mono ?_
  rintro e w2 ⟨rfl, rfl⟩
  go_wp2_with fail
  refine HT1.out.mono ?_
  rintro e w3 ⟨rfl, rfl⟩
  go_wp2_with fail
  refine HF1.out.mono ?_
  rintro e w4 ⟨rfl, hk4⟩
  replace g := g.below hk4
  replace g4 := g4.below hk4
  replace hkw := hkw.trans' hk4
  replace hs1 := Nat.le_trans hs1 hk4.size
  have x0 := g.cell 0
  have x1 := g.cell 1
  have x2 := g.cell 2
  have x3 := g.cell 3
  have x4 := g.cell 4
  simp only [List.getElem?_cons_zero, List.getElem?_cons_succ] at x0 x1 x2 x3 x4
  have HCL := Lib.hid (cloneE_any (c := c) (HE.out.below hkw) h32)
  go_wp2_with fail
  refine HCL.out.mono ?_
  rintro e wa ⟨V, rfl, hV, hka⟩
  obtain ⟨A6, c6, rfl, -⟩ := hV.sl
  have hVB := hV.lo
  replace g := (g.below hka).drew
  replace g4 := (g4.below hka).drew
  have hkwa : Keeps w wa.drew := Below.drew (hkw.trans' hka)
  have hsa : w.heap.size + 2 ≤ wa.drew.heap.size := Nat.le_trans hs1 hka.size
  have s0 := g.frmAt
  have ga := (show Own wa w.heap.size 27 _ from g).alloc (.cells #[.string key, .string value] 57)
  have g4a := (show Own wa (w.heap.size + 1) 27 _ from g4).alloc (.cells #[.string key, .string value] 57)
  have hvo : Own (wa.alloc (.cells #[.string key, .string value] 57)).drew wa.heap.size 57 [.string key, .string value] := (Own.new wa _ _).drew
  have hVa : (wa.alloc (.cells #[.string key, .string value] 57)).drew.ownsRow w4.heap.size 57 2 (.slice A6 es.length c6) es.length (entVs es) := hV.alloc _
  have hkA : Keeps w (wa.alloc (.cells #[.string key, .string value] 57)).drew := Below.drew ((hkw.trans' hka).trans' ((Below.refl _ _).alloc (Nat.le_refl _) _))
  have hbase : w4.heap.size ≤ (wa.alloc (.cells #[.string key, .string value] 57)).drew.heap.size := by show w4.heap.size ≤ (wa.alloc _).heap.size; rw [World.size_alloc]; have := hka.size; omega
  have hnbk : (Value.slice A6 es.length c6).ownBlock ≠ some wa.heap.size := fun e => by
    have := (hVB wa.heap.size (by rw [blkOf, e]; simp)).2
    omega
  have HVA := Lib.hid hVa
  have HVO := Lib.hid hvo
  have s1 : FrmAt (wa.alloc (.cells #[.string key, .string value] 57)).drew w.heap.size A es.length c W H m B px.length d := ga.drew.frmAt
  have hw4 := hkw.size
  clear x0 x1 x2 x3 x4 hV hVa hvo hVB
  go_wp2
  go_region_held3 (fun w' => FrmAt w' w.heap.size A es.length c W H m B px.length d)
    (first | (with_reducible exact s0) | (with_reducible exact s1) | (with_reducible exact s2) | (with_reducible exact s3) | (with_reducible exact s4) | fail)
    (first
      | (go_at_call 47; refine (insertE_n HVA.out HES.out HLEN.out HVO.out hnbk (by have := HLEN.out; omega) hbase).mono ?_; rintro e wb ⟨A7, c7, rfl, hE7, hA7, hkb⟩; have gb := ga.drew.keep hkb (by omega); have g4b := g4a.drew.keep hkb (by omega); have hkwb : Keeps w wb := hkA.trans (hkb.mono hw4); have s2 := gb.frmAt; have HE7 := Lib.hid hE7; clear hE7)
      | (go_at_call 66; refine (copied_any (HI.out.below hkwb) hp1 hp2 W H m A7 (l.length + r.length + 1) c7).mono ?_; rintro e wc ⟨P, cp, rfl, hIP, hAP, hkc⟩; have gc := gb.below hkc; have g4c := g4b.below hkc; have s3 := gc.frmAt; have s4 := (gc.far5 (b := w.heap.size + 1) (by omega) (.slice A7 (l.length + r.length + 1) c7) (.int .i64 W) (.int .i64 H) (.int .i64 m) (.slice P px.length cp)).frmAt; have HIP := Lib.hid hIP; have HE8 := Lib.hid (HE7.out.below hkc); have q0 := g4c.cell 0; have q1 := g4c.cell 1; have q2 := g4c.cell 2; have q3 := g4c.cell 3; have q4 := g4c.cell 4; have u0 := g4c.frozen 0; have u1 := g4c.frozen 1; have u2 := g4c.frozen 2; have u3 := g4c.frozen 3; have u4 := g4c.frozen 4; simp only [List.getElem?_cons_zero, List.getElem?_cons_succ] at q0 q1 q2 q3 q4; clear hIP))
  go_wp2
  have hN := g4c.five (.slice A7 (l.length + r.length + 1) c7) (.int .i64 W) (.int .i64 H) (.int .i64 m) (.slice P px.length cp)
  have r0 := hN.cell 0
  have r1 := hN.cell 1
  have r2 := hN.cell 2
  have r3 := hN.cell 3
  have r4 := hN.cell 4
  simp only [List.getElem?_cons_zero, List.getElem?_cons_succ] at r0 r1 r2 r3 r4
  refine bodyPost_ret (v := .tuple #[.agg #[(.slice A7 (l.length + r.length + 1) c7), (.int .i64 W), (.int .i64 H), (.int .i64 m), (.slice P px.length cp)], .int .i64 0]) (by simp [results, Try.results38, go_sem, r0, r1, r2, r3, r4]) rfl ?_
  refine ⟨_, _, _, _, rfl, HE8.out.five hA7 (by omega) _ _ _ _ _, IRow.five HIP.out hAP (by have := hkwb.size; have := hkb.size; have : (wa.alloc (.cells #[.string key, .string value] 57)).drew.heap.size = wa.heap.size + 1 := (World.size_alloc _ _); have := hsa; omega) _ _ _ _ _, Keeps.five (hkwb.trans' hkc) (by omega) _ _ _ _ _⟩
end
end Go.Proofs.Ytbkcnhbdjllojaa
