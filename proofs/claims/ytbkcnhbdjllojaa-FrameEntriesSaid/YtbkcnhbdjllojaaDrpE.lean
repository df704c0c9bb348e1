/- Drop of a key that is there: the walk. -/
import Derived.Test.YtbkcnhbdjllojaaGetE
namespace Go.Proofs.Ytbkcnhbdjllojaa
open Go.RowKit Go.Shelf

theorem oe_some {w : World} {base : Nat} {V : Value} {n : Nat} {es : List Ent} (h : w.ownsRow base 57 2 V n (entVs es)) (hne : 0 < es.length) : ∃ g cap, V = .slice (some ⟨g, 0, none⟩) es.length cap ∧ OE w base g cap es := by
  rcases OE.of_own h with ⟨-, h0⟩ | h0
  · rw [h0] at hne
    exact absurd hne (by simp)
  · exact h0
theorem deleteE_n {w : World} {base g cap : Nat} {l r : List Ent} {e : Ent} (h : OE w base g cap (l ++ e :: r)) (hn : l.length + r.length ≤ 1000) {n : Nat} (hN : n = l.length + r.length + 1) :
    Calls Try.prog 67 #[.slice (some ⟨g, 0, none⟩) n cap, .int .i64 (l.length : Nat), .int .i64 ((l.length : Int) + 1)] w fun e' w' => e' = .returned (.slice (some ⟨g, 0, none⟩) (l.length + r.length) cap) ∧ OE w' base g cap (l ++ r) ∧ Below base w w' := by
  subst hN
  exact deleteE_any h hn
abbrev FrmAt (w : World) (b : Nat) (A : Option Addr) (n c : Nat) (W H m : Int) (B : Option Addr) (k d : Nat) : Prop :=
  w.cell? ⟨b, 0, none⟩ = some (.slice A n c) ∧ w.cell? ⟨b, 1, none⟩ = some (.int .i64 W) ∧ w.cell? ⟨b, 2, none⟩ = some (.int .i64 H) ∧ w.cell? ⟨b, 3, none⟩ = some (.int .i64 m) ∧ w.cell? ⟨b, 4, none⟩ = some (.slice B k d)
theorem Own.frmAt {w : World} {b : Nat} {A B : Option Addr} {n c k d : Nat} {W H m : Int} (h : Own w b 27 [.slice A n c, .int .i64 W, .int .i64 H, .int .i64 m, .slice B k d]) : FrmAt w b A n c W H m B k d :=
  ⟨h.cell 0, h.cell 1, h.cell 2, h.cell 3, h.cell 4⟩
theorem Own.far5 {w : World} {b g : Nat} {t : TypeId} {vs : List Value} (h : Own w g t vs) (hne : g ≠ b) (x y z u v : Value) :
    Own (((((w.setCell ⟨b, 0, none⟩ x).setCell ⟨b, 1, none⟩ y).setCell ⟨b, 2, none⟩ z).setCell ⟨b, 3, none⟩ u).setCell ⟨b, 4, none⟩ v) g t vs :=
  ((((h.far (p := ⟨b, 0, none⟩) hne x).far (p := ⟨b, 1, none⟩) hne y).far (p := ⟨b, 2, none⟩) hne z).far (p := ⟨b, 3, none⟩) hne u).far (p := ⟨b, 4, none⟩) hne v
section
variable {w : World} {A B : Option Addr} {c d : Nat} {es : List Ent} {px : List Int}
set_option maxRecDepth 100000 in
set_option maxHeartbeats 1000000 in
theorem drop_yes (hE : EntR w A es) (hI : IRow w B px) (hs : EntS es) (W H m : Int) (hl : px.length ≤ maxLen) (hel : es.length ≤ maxLen) (key : ByteArray) (hc : frmC es W H m px = 0) (h32 : es.length ≤ 1000) (hp1 : 1 ≤ px.length) (hp2 : px.length ≤ 4096)
    {l r : List Ent} {v : ByteArray} (he : es = l ++ (key, v) :: r) (hal : AllL l key) (har : AllG r key) :
    Calls Try.prog 39 #[frmV A es.length c W H m B px.length d, .string key] w fun e w' => ∃ A' c' P cp, e = .returned (.tuple #[frmV A' (l.length + r.length) c' W H m P px.length cp, .int .i64 0]) ∧ EntR w' A' (l ++ r) ∧ IRow w' P px ∧ Keeps w w' := by
  obtain ⟨W1, hW1⟩ : ∃ W1, (w.alloc (.cells #[.slice A es.length c, .int .i64 W, .int .i64 H, .int .i64 m, .slice B px.length d] 27)).alloc (.cells #[.slice none 0 0, .int .i64 0, .int .i64 0, .int .i64 0, .slice none 0 0] 27) = W1 := ⟨_, rfl⟩
  have g : Own W1 w.heap.size 27 [.slice A es.length c, .int .i64 W, .int .i64 H, .int .i64 m, .slice B px.length d] := hW1 ▸ (Own.new w _ _).alloc _
  have g4 : Own W1 (w.heap.size + 1) 27 [.slice none 0 0, .int .i64 0, .int .i64 0, .int .i64 0, .slice none 0 0] := hW1 ▸ own2 w _ _ _
  have hkw : Keeps w W1 := hW1 ▸ keep2 w _ _
  have hs1 : w.heap.size + 2 ≤ W1.heap.size := by rw [← hW1]; simp
  have x0 := g.cell 0
  have x1 := g.cell 1
  have x2 := g.cell 2
  have x3 := g.cell 3
  have x4 := g.cell 4
  simp only [List.getElem?_cons_zero, List.getElem?_cons_succ] at x0 x1 x2 x3 x4
  have HC := Lib.hid (fcheck_any (c := c) (d := d) (hE.below hkw) (hI.below hkw) hs W H m hl hel)
  rw [hc] at HC
  have HF := fun u (hk : Keeps w u) => Lib.hid (find_any (c := c) (hE.below hk) h32 (he ▸ parts_found hal har) W H m B px.length d)
  rw [headK_found] at HF
  have hlen : es.length = l.length + r.length + 1 := by rw [he]; simp; omega
  have HES := Lib.hid he
  have HLEN := Lib.hid hlen
  have HE := Lib.hid hE
  have HI := Lib.hid hI
  have hlI : (l.length : Int) + r.length + 1 ≤ 1000 := by omega
  clear hE hI hc hal har he hlen
  go_enter Try.func39, Try.ntmps39
  go_wp2_with fail
  refine HC.out.mono ?_
  rintro e w1 ⟨rfl, hk1⟩
  replace g := g.below hk1
  replace g4 := g4.below hk1
  replace hkw := hkw.trans' hk1
  replace hs1 := Nat.le_trans hs1 hk1.size
  have x0 := g.cell 0
  have x1 := g.cell 1
  have x2 := g.cell 2
  have x3 := g.cell 3
  have x4 := g.cell 4
  simp only [List.getElem?_cons_zero, List.getElem?_cons_succ] at x0 x1 x2 x3 x4
  have HF1 := HF _ hkw
  go_wp2_with fail
  refine HF1.out.mono ?_
  rintro e w2 ⟨rfl, hk2⟩
  replace g := (g.below hk2).drew
  replace g4 := (g4.below hk2).drew
  replace hkw : Keeps w w2.drew := Below.drew (hkw.trans' hk2)
  replace hs1 : w.heap.size + 2 ≤ w2.drew.heap.size := Nat.le_trans hs1 hk2.size
  clear x0 x1 x2 x3 x4 hW1
  have s0 := g.frmAt
  have hw1 : IntKind.i64.wrap ((l.length : Int) + 1) = (l.length : Int) + 1 := IntWalk.i64_in _ (by omega)
  go_wp2
  go_region_held3 (fun w' => FrmAt w' w.heap.size A es.length c W H m B px.length d)
    (first | (with_reducible exact s0) | (with_reducible exact s1) | (with_reducible exact s2) | (with_reducible exact s3) | (with_reducible exact s4) | fail)
    (first
      | (go_at_call 43; refine (cloneE_any (c := c) (HE.out.below hkw) h32).mono ?_; rintro e wa ⟨V, rfl, hV, hka⟩; obtain ⟨gg, cap, rfl, hOE⟩ := oe_some hV (by have := HLEN.out; omega); rw [HES.out] at hOE; have HOE := Lib.hid hOE; have ga := g.below hka; have g4a := g4.below hka; have s1 := ga.frmAt; clear hV hOE)
      | (go_at_call 67; refine (deleteE_n HOE.out (by have := HLEN.out; omega) HLEN.out).mono ?_; rintro e wb ⟨rfl, hOE2, hkb⟩; have HOE2 := Lib.hid hOE2; have gb := ga.keep hkb (by omega); have g4b := g4a.keep hkb (by omega); have hkwb : Keeps w wb := (hkw.trans' hka).trans (hkb.mono hkw.size); have s2 := gb.frmAt; clear hOE2)
      | (go_at_call 66; refine (copied_any (HI.out.below hkwb) hp1 hp2 W H m (some ⟨gg, 0, none⟩) (l.length + r.length) cap).mono ?_; rintro e wc ⟨P, cp, rfl, hIP, hAP, hkc⟩; have gc := gb.below hkc; have g4c := g4b.below hkc; have s3 := gc.frmAt; have s4 := (gc.far5 (b := w.heap.size + 1) (by omega) (.slice (some ⟨gg, 0, none⟩) (l.length + r.length) cap) (.int .i64 W) (.int .i64 H) (.int .i64 m) (.slice P px.length cp)).frmAt; have HIP := Lib.hid hIP; have HOE3 := Lib.hid (HOE2.out.below hkc); have q0 := g4c.cell 0; have q1 := g4c.cell 1; have q2 := g4c.cell 2; have q3 := g4c.cell 3; have q4 := g4c.cell 4; have u0 := g4c.frozen 0; have u1 := g4c.frozen 1; have u2 := g4c.frozen 2; have u3 := g4c.frozen 3; have u4 := g4c.frozen 4; simp only [List.getElem?_cons_zero, List.getElem?_cons_succ] at q0 q1 q2 q3 q4; clear hIP))
  go_wp2
  have hN := g4c.five (.slice (some ⟨gg, 0, none⟩) (l.length + r.length) cap) (.int .i64 W) (.int .i64 H) (.int .i64 m) (.slice P px.length cp)
  have r0 := hN.cell 0
  have r1 := hN.cell 1
  have r2 := hN.cell 2
  have r3 := hN.cell 3
  have r4 := hN.cell 4
  simp only [List.getElem?_cons_zero, List.getElem?_cons_succ] at r0 r1 r2 r3 r4
  refine bodyPost_ret (v := .tuple #[frmV (some ⟨gg, 0, none⟩) (l.length + r.length) cap W H m P px.length cp, .int .i64 0]) (by simp [results, Try.results39, go_sem, r0, r1, r2, r3, r4]) rfl ?_
  refine ⟨_, _, _, _, rfl, HOE3.out.entR.five (above_of HOE3.out.lo) (by omega) _ _ _ _ _, IRow.five HIP.out hAP (by have := hkwb.size; have := hkb.size; have := hka.size; omega) _ _ _ _ _, Keeps.five (hkwb.trans' hkc) (by omega) _ _ _ _ _⟩
end
end Go.Proofs.Ytbkcnhbdjllojaa
