/- fiduciallaw58.Same of two equal summaries: the walk. -/
import Derived.Test.YtgcigdahjabimaaGreatDoorPr44
import Derived.Test.YtgcigdahjabimaaGreatDoorPr37
namespace Go.Proofs.YtgcigdahjabimaaGreatDoor
open Go.RowKit Go.Shelf
theorem Row4.rep {w : World} {A : Option Addr} {l : List QV} (h : Row4 RatV2 w A l) (ht : ∀ x ∈ l, x.2 = true) : Row4 RatRep w A (l.map (·.1)) := fun j q hj => by
 rw [List.getElem?_map] at hj
 obtain ⟨⟨q', b⟩, hx, rfl⟩ := Option.map_eq_some_iff.1 hj
 obtain ⟨B, o, c0, c1, c2, c3, e, hc, hr⟩ := h j _ hx
 obtain rfl : b = true := ht _ (List.mem_of_getElem? hx)
 exact ⟨B, o, c0, c1, c2, c3, e, hc, RatV.rep hr⟩
theorem gsl_t {w : World} {A B : Option Addr} {n m ca cb : Nat} {la : List Rat} (ha : Row4 RatRep w A la) (hb : Row4 RatRep w B la) (hn : la.length = n) (hm : la.length = m) (hl : n ≤ maxLen) (hl2 : m ≤ maxLen) (za : ∀ x ∈ la, szR x ≤ 40000) (zb : ∀ x ∈ la, szR x ≤ 40000) :
 Calls Tryz.prog 19 #[.slice A n ca, .slice B m cb] w fun e w' => e = .returned (.bool true) ∧ Keeps w w' := by
 have h := gsl_any (ca := ca) (cb := cb) ha hb hn hm hl hl2 za zb
 rwa [decide_eq_true rfl] at h
set_option maxRecDepth 100000 in
set_option maxHeartbeats 2000000 in
theorem lsame_any {w : World} {V U : Value} {s : Sm} (h : SmArg w V s) (g : SmArg w U s) (hf : formB s = true) (hz : szR s.ob.1 ≤ 1000 ∧ szR s.sg.1 ≤ 1000 ∧ (∀ x ∈ s.rd, szR x.1 ≤ 1000) ∧ ∀ x ∈ s.sx, szR x.1 ≤ 1000) :
 Calls Tryz.prog 34 #[V, U] w fun e w' => e = .returned (.bool true) ∧ Keeps w w' := by
 obtain ⟨-, -, -, -, -, -, -, -, -, f9, f10, f11, f12⟩ := form_ok hf
 obtain ⟨o0, o1, o2, o3, p0, p1, p2, p3, A, B, c, d, rfl, h1, h2, h3, h4, h5, h6⟩ := h
 obtain ⟨b3, A3, n3, c3, d3, B3, m3, e3, rfl, rfl, rfl, rfl⟩ := h1.open4
 obtain ⟨b4, A4, n4, c4, d4, B4, m4, e4, rfl, rfl, rfl, rfl⟩ := h2.open4
 obtain ⟨o0, o1, o2, o3, p0, p1, p2, p3, A', B', c', d', rfl, g1, g2, g3, g4, g5, g6⟩ := g
 obtain ⟨b5, A5, n5, c5, d5, B5, m5, e5, rfl, rfl, rfl, rfl⟩ := g1.open4
 obtain ⟨b6, A6, n6, c6, d6, B6, m6, e6, rfl, rfl, rfl, rfl⟩ := g2.open4
 have rp : ∀ {u : World} {V : Value} {x : QV}, RatV2 u V x → x.2 = true → RatRep u V x.1 := fun {u V x} h e => by
  obtain ⟨q, b⟩ := x
  obtain rfl : b = true := e
  exact RatV.rep h
 have H1 := Lib.hid (fun (u : World) (hu : Keeps w u) => gsame_s (b := true) ((rp h1 f11.1).map hu.same32) ((rp g1 f11.1).map hu.same32) (by have := hz.1; omega) (decide_eq_true rfl))
 have H2 := Lib.hid (fun (u : World) (hu : Keeps w u) => gsame_s (b := true) ((rp h2 f12.1).map hu.same32) ((rp g2 f12.1).map hu.same32) (by have := hz.2.1; omega) (decide_eq_true rfl))
 have t9 : ∀ x ∈ s.rd, x.2 = true := fun x hx => (f9 x hx).1
 have t10 : ∀ x ∈ s.sx, x.2 = true := fun x hx => (f10 x hx).1
 have zl : ∀ l : List QV, (∀ x ∈ l, szR x.1 ≤ 1000) → ∀ x ∈ l.map (·.1), szR x ≤ 40000 := fun l hl x hx => by
  obtain ⟨y, hy, rfl⟩ := List.mem_map.1 hx
  have := hl y hy
  omega
 have H3 := Lib.hid (fun (u : World) (hu : Keeps w u) => gsl_t (ca := c) (cb := c') ((h3.rep t9).below lasts_rep hu) ((g3.rep t9).below lasts_rep hu) (List.length_map _) (List.length_map _) h5 h5 (zl _ hz.2.2.1) (zl _ hz.2.2.1))
 have H4 := Lib.hid (fun (u : World) (hu : Keeps w u) => gsl_t (ca := d) (cb := d') ((h4.rep t10).below lasts_rep hu) ((g4.rep t10).below lasts_rep hu) (List.length_map _) (List.length_map _) h6 h6 (zl _ hz.2.2.2) (zl _ hz.2.2.2))
 have S := ((St.start w).alloc 49 (smL s (.bool b3) (.slice A3 n3 c3) (.bool d3) (.slice B3 m3 e3) (.bool b4) (.slice A4 n4 c4) (.bool d4) (.slice B4 m4 e4) A B c d)).alloc 49 (smL s (.bool b5) (.slice A5 n5 c5) (.bool d5) (.slice B5 m5 e5) (.bool b6) (.slice A6 n6 c6) (.bool d6) (.slice B6 m6 e6) A' B' c' d')
 simp only [World.size_alloc] at S
 obtain ⟨W0, hW0, S⟩ := S.pack
 clear h1 h2 h3 h4 h5 h6 g1 g2 g3 g4 g5 g6 hf hz rp f9 f10 f11 f12 t9 t10 zl
 have a0 := S.c 1 0 rfl rfl
 have a1 := S.c 1 1 rfl rfl
 have a2 := S.c 1 2 rfl rfl
 have a3 := S.c 1 3 rfl rfl
 have a4 := S.c 1 4 rfl rfl
 have a5 := S.c 1 5 rfl rfl
 have a6 := S.c 1 6 rfl rfl
 have a7 := S.c 1 7 rfl rfl
 have a8 := S.c 1 8 rfl rfl
 have a9 := S.c 1 9 rfl rfl
 have a10 := S.c 1 10 rfl rfl
 have a11 := S.c 1 11 rfl rfl
 have a12 := S.c 1 12 rfl rfl
 have a13 := S.c 1 13 rfl rfl
 have a14 := S.c 1 14 rfl rfl
 have a15 := S.c 1 15 rfl rfl
 have a16 := S.c 1 16 rfl rfl
 have b0_ := S.c 0 0 rfl rfl
 have b1_ := S.c 0 1 rfl rfl
 have b2_ := S.c 0 2 rfl rfl
 have b3_ := S.c 0 3 rfl rfl
 have b4_ := S.c 0 4 rfl rfl
 have b5_ := S.c 0 5 rfl rfl
 have b6_ := S.c 0 6 rfl rfl
 have b7_ := S.c 0 7 rfl rfl
 have b8_ := S.c 0 8 rfl rfl
 have b9_ := S.c 0 9 rfl rfl
 have b10_ := S.c 0 10 rfl rfl
 have b11_ := S.c 0 11 rfl rfl
 have b12_ := S.c 0 12 rfl rfl
 have b13_ := S.c 0 13 rfl rfl
 have b14_ := S.c 0 14 rfl rfl
 have b15_ := S.c 0 15 rfl rfl
 have b16_ := S.c 0 16 rfl rfl
 go_enter Tryz.func34, Tryz.ntmps34
 go_wp2_with fail
 refine (H1.out _ S.k).mono ?_
 rintro e W1 ⟨rfl, hk1⟩
 replace S := S.below hk1
 clear hk1 hW0 a0 a1 a2 a3 a4 a5 a6 a7 a8 a9 a10 a11 a12 a13 a14 a15 a16 b0_ b1_ b2_ b3_ b4_ b5_ b6_ b7_ b8_ b9_ b10_ b11_ b12_ b13_ b14_ b15_ b16_
 have a10 := S.c 1 10 rfl rfl
 have b10_ := S.c 0 10 rfl rfl
 have a11 := S.c 1 11 rfl rfl
 have b11_ := S.c 0 11 rfl rfl
 have a12 := S.c 1 12 rfl rfl
 have b12_ := S.c 0 12 rfl rfl
 have a13 := S.c 1 13 rfl rfl
 have b13_ := S.c 0 13 rfl rfl
 go_wp2_with fail
 refine (H2.out _ S.k).mono ?_
 rintro e W2 ⟨rfl, hk1⟩
 replace S := S.below hk1
 clear hk1 a10 a11 a12 a13 b10_ b11_ b12_ b13_
 have a14 := S.c 1 14 rfl rfl
 have b14_ := S.c 0 14 rfl rfl
 go_wp2_with fail
 refine (H3.out _ S.k).mono ?_
 rintro e W3 ⟨rfl, hk1⟩
 replace S := S.below hk1
 clear hk1 a14 b14_
 have a15 := S.c 1 15 rfl rfl
 have b15_ := S.c 0 15 rfl rfl
 go_wp2_with fail
 refine (H4.out _ S.k).mono ?_
 rintro e W4 ⟨rfl, hk1⟩
 go_wp2
 go_ret
 exact ⟨rfl, S.k.trans' hk1⟩
end Go.Proofs.YtgcigdahjabimaaGreatDoor
