/- report.printed: the walk. -/
import Derived.Test.YtgcigdahjabimaaGreatDoorPr30
import Derived.Test.YtgcigdahjabimaaGreatDoorPr22
import Derived.Lib.ItoaLen
namespace Go.Proofs.YtgcigdahjabimaaGreatDoor
open Go.RowKit Go.Shelf
theorem itoa8 (n : Int) (h1 : -9223372036854775808 ≤ n) (h2 : n ≤ 9223372036854775807) {w : World} (h : PowTab w) : Calls Tryz.prog 80 #[.int .i64 n] w fun e w' => e = .returned (.string ⟨(Lib.itoa n).toArray⟩) ∧ Keeps w w' := by
 refine (Tryz.strconv_Itoa n h1 h2 w h).mono ?_
 rintro e w' ⟨rfl, k, os, rfl⟩
 exact ⟨rfl, Go.Lib.below_grow _ _ (Nat.le_refl _) _ _⟩
def numsL (s : Sm) : List Int := [s.dim, s.st, s.pt, s.rw_, s.fr, s.rk]
def headT (s : Sm) (k : Nat) : List UInt8 := ((List.range k).map fun i => lineT [wordsL.getD i [], Lib.itoa ((numsL s).getD i 0)]).flatten
def rowLn (s : Sm) (i : Nat) : List UInt8 := lineT [[114, 111, 119], Lib.itoa (i : Int), fracT (s.rd.getD i (0, false)).1, fracT (s.sx.getD i (0, false)).1]
def rowsT (s : Sm) (k : Nat) : List UInt8 := ((List.range k).map (rowLn s)).flatten
def topT (s : Sm) : List UInt8 := headT s 6 ++ lineT [[111, 98, 106, 101, 99, 116, 105, 118, 101], fracT s.ob.1] ++ lineT [[115, 105, 103, 109, 97, 50], fracT s.sg.1]
def sumT (s : Sm) : List UInt8 := topT s ++ rowsT s s.rd.length ++ lineT [[119, 111, 114, 115, 116], Lib.itoa s.wo]
theorem headT_next (s : Sm) (k : Nat) : headT s (k + 1) = headT s k ++ lineT [wordsL.getD k [], Lib.itoa ((numsL s).getD k 0)] := by simp [headT, List.range_succ]
theorem rowsT_next (s : Sm) (k : Nat) : rowsT s (k + 1) = rowsT s k ++ rowLn s k := by simp [rowsT, List.range_succ]
theorem join2 (a b : List UInt8) : (Lib.join [a, b] [32]).length = a.length + b.length + 1 := by simp [Lib.join]; omega
theorem lineT2 (a b : List UInt8) : (lineT [a, b]).length = a.length + b.length + 2 := by
 unfold lineT
 rw [List.length_append, join2]
 rfl
def Nums64 (s : Sm) : Prop := ∀ k, k < 6 → -9223372036854775808 ≤ (numsL s).getD k 0 ∧ (numsL s).getD k 0 ≤ 9223372036854775807
theorem words_le (k : Nat) : (wordsL.getD k []).length ≤ 10 := by
 match k with
 | 0 | 1 | 2 | 3 | 4 | 5 => decide
 | k + 6 => simp [wordsL]
theorem headT_len {s : Sm} (h : Nums64 s) : ∀ k, k ≤ 6 → (headT s k).length ≤ k * 40
 | 0, _ => by simp [headT]
 | k + 1, hk => by
  have ih := headT_len h k (by omega)
  obtain ⟨a, b⟩ := h k (by omega)
  have h1 := Lib.itoa_length_le _ a b
  have h2 := words_le k
  rw [headT_next, List.length_append, lineT2]
  omega
theorem fracT_le {q : Rat} (h : szR q ≤ 1000) : (fracT q).length ≤ 20000 := by
 unfold fracT
 have h1 := textL_le q.num
 have h2 := textL_le (q.den : Int)
 have h3 : lenI q.num ≤ 1000 := szR_num h
 have h4 : lenI (q.den : Int) ≤ 1000 := szR_den h
 rw [List.length_append]
 split
 ·rw [List.length_nil]; omega
 ·rw [List.length_cons]; omega
theorem join4 (a b c d : List UInt8) : (Lib.join [a, b, c, d] [32]).length = a.length + b.length + c.length + d.length + 3 := by simp [Lib.join, List.intercalate, List.intersperse]; omega
theorem rowsT_len {s : Sm} (z3 : ∀ x ∈ s.rd, szR x.1 ≤ 1000) (z4 : ∀ x ∈ s.sx, szR x.1 ≤ 1000) : ∀ k, k ≤ 2000 → (rowsT s k).length ≤ k * 45000
 | 0, _ => by simp [rowsT]
 | k + 1, hk => by
  have ih := rowsT_len z3 z4 k (by omega)
  have h1 := Lib.itoa_length_le (k : Int) (by omega) (by omega)
  have h0 : szR (0 : Rat) ≤ 1000 := Nat.le_trans szR_null (by omega)
  have hf : ∀ (l : List QV), (∀ x ∈ l, szR x.1 ≤ 1000) → (fracT (l.getD k (0, false)).1).length ≤ 20000 := fun l hl => by
   refine fracT_le ?_
   rw [List.getD]
   cases e : l[k]? with
   | none => exact h0
   | some x => exact hl x (List.mem_of_getElem? e)
  have h2 := hf _ z3
  have h3 := hf _ z4
  rw [rowsT_next, List.length_append]
  have h4 : (rowLn s k).length ≤ 45000 := by
   unfold rowLn lineT
   rw [List.length_append, join4]
   simp only [List.length_cons, List.length_nil]
   omega
  omega
theorem smL_num {s : Sm} {o0 o1 o2 o3 p0 p1 p2 p3 : Value} {A B : Option Addr} {c d : Nat} {k : Nat} (hk : k < 6) : (smL s o0 o1 o2 o3 p0 p1 p2 p3 A B c d)[k]? = some (.int .i64 ((numsL s).getD k 0)) := by
 have : k = 0 ∨ k = 1 ∨ k = 2 ∨ k = 3 ∨ k = 4 ∨ k = 5 := by omega
 rcases this with rfl | rfl | rfl | rfl | rfl | rfl <;> rfl
theorem ptr_at {b k : Nat} (hk : k < 6) : (ptrL b)[k]? = some (.pointer (some ⟨b, k, none⟩)) := by
 have : k = 0 ∨ k = 1 ∨ k = 2 ∨ k = 3 ∨ k = 4 ∨ k = 5 := by omega
 rcases this with rfl | rfl | rfl | rfl | rfl | rfl <;> rfl
theorem word_at {k : Nat} (hk : k < 6) : (wordsL.map strV)[k]? = some (.string ⟨(wordsL.getD k []).toArray⟩) := by
 have : k = 0 ∨ k = 1 ∨ k = 2 ∨ k = 3 ∨ k = 4 ∨ k = 5 := by omega
 rcases this with rfl | rfl | rfl | rfl | rfl | rfl <;> rfl
abbrev prB (w : World) (g h : Nat) (cs : List Value) : List Bx := [(h, 92, ptrL w.heap.size), (g, 9, wordsL.map strV), (w.heap.size, 49, cs)]
theorem prB_ok {w : World} {g h P : Nat} {cs : List Value} (h1 : g ≠ P) (h2 : h ≠ P) (h3 : w.heap.size ≠ P) : ∀ p ∈ prB w g h cs, p.1 ≠ P ∧ p.2.1 ≠ 5 := by
 intro p hp
 simp only [List.mem_cons, List.not_mem_nil, or_false] at hp
 rcases hp with rfl | rfl | rfl
 ·exact ⟨h2, by show 92 ≠ 5; decide⟩
 ·exact ⟨h1, by show 9 ≠ 5; decide⟩
 ·exact ⟨h3, by show 49 ≠ 5; decide⟩
theorem St.boxes2 {w0 W w' : World} {bs : List Bx} {ps : List (World → Prop)} (S : St w0 W bs ps) (S' : St w0 w' bs ps) {a b : Nat} {t u : TypeId} {vs us : List Value} (hO : Own w' a t vs) (hO' : Own w' b u us) (ha : W.heap.size ≤ a) (hb : W.heap.size ≤ b) (hab : a ≠ b) : St w0 w' ((b, u, us) :: (a, t, vs) :: bs) ps := by
 have Sg := S.box S' hO ha
 have Sh := S.box S' hO' hb
 refine ⟨Sg.k, ⟨hO', Sg.b⟩, fun p hp => ?_, List.pairwise_cons.2 ⟨fun q hq => ?_, Sg.d⟩, Sg.p⟩
 ·rcases List.mem_cons.1 hp with rfl | hp
  ·exact Sh.lo _ List.mem_cons_self
  ·exact Sg.lo p hp
 ·rcases List.mem_cons.1 hq with rfl | hq
  ·exact fun e => hab e.symm
  ·exact (List.pairwise_cons.1 Sh.d).1 q hq
theorem line_at {w1 w : World} {l : List UInt8} {g P : Nat} {xs : List (List UInt8)} (hP : w1.heap.size = P) (hb : Bd w1 l w) (hO : Own w g 9 (xs.map strV)) (hn : xs.length ≤ 100) (hl : l.length + (Lib.join xs [32]).length ≤ 900000000) :
 Calls Tryz.prog 113 #[.slice (some ⟨g, 0, none⟩) xs.length xs.length, .pointer (some ⟨P, 0, none⟩)] w fun e w' => e = .returned (.tuple #[]) ∧ Bd w1 (l ++ lineT xs) w' ∧ Keep8 w1.heap.size w w' := by
 subst hP
 exact line_any hb hO hn hl
theorem bd_out_at {w1 w : World} {l : List UInt8} {P : Nat} (hP : w1.heap.size = P) (h : Bd w1 l w) : Calls Tryz.prog 82 #[.pointer (some ⟨P, 0, none⟩)] w fun e w' => e = .returned (.string ⟨l.toArray⟩) ∧ Keeps w1 w' := by
 subst hP
 exact bd_out h
def pt14Φ (Vf Vx Vs Vy : Value) (k n0 b0 : Nat) (Pe : Addr) (it f1 f2 : List UInt8) : Nat → Value → World → Prop
 | 0, v, _ => v = Vf
 | 1, v, _ => v = .int .i64 (k : Nat)
 | 2, v, _ => v = .string ⟨(it).toArray⟩
 | 3, v, _ => v = Vx
 | 4, v, _ => v = .string ⟨(f1).toArray⟩
 | 5, v, _ => v = .pointer (some ⟨b0, 15, none⟩)
 | 6, v, _ => v = Vs
 | 7, v, _ => v = .int .i64 (k : Nat)
 | 8, v, _ => v = .pointer (some Pe)
 | 9, v, _ => v = Vy
 | 10, v, _ => v = .string ⟨(f2).toArray⟩
 | 11, v, w => ∃ g, v = .slice (some ⟨g, 0, none⟩) 4 4 ∧ n0 ≤ g ∧ Own w g 9 ([[114, 111, 119], it, f1, f2].map strV)
 | _, _, _ => True
set_option maxRecDepth 100000 in
set_option maxHeartbeats 2000000 in
theorem printed_any {w : World} {V : Value} {s : Sm} (h : SmArg w V s) (ht : PowTab w) (hnm : Nums64 s) (hwo : -9223372036854775808 ≤ s.wo ∧ s.wo ≤ 9223372036854775807) (hl : s.rd.length ≤ 1100) (hls : s.rd.length ≤ s.sx.length)
 (z1 : szR s.ob.1 ≤ 1000) (z2 : szR s.sg.1 ≤ 1000) (z3 : ∀ x ∈ s.rd, szR x.1 ≤ 1000) (z4 : ∀ x ∈ s.sx, szR x.1 ≤ 1000) :
 Calls Tryz.prog 70 #[V] w fun e w' => e = .returned (.string ⟨(sumT s).toArray⟩) ∧ Keeps w w' := by
 obtain ⟨o0, o1, o2, o3, p0, p1, p2, p3, A, B, c, d, rfl, h1, h2, h3, h4, h5, h6⟩ := h
 obtain ⟨b3, A3, n3, c3, d3, B3, m3, e3, rfl, rfl, rfl, rfl⟩ := h1.open4
 obtain ⟨b4, A4, n4, c4, d4, B4, m4, e4, rfl, rfl, rfl, rfl⟩ := h2.open4
 obtain ⟨cs, hcs⟩ : ∃ cs, smL s (.bool b3) (.slice A3 n3 c3) (.bool d3) (.slice B3 m3 e3) (.bool b4) (.slice A4 n4 c4) (.bool d4) (.slice B4 m4 e4) A B c d = cs := ⟨_, rfl⟩
 have S := (St.start w).alloc 49 cs
 have hP : (w.alloc (.cells cs.toArray 49)).heap.size = w.heap.size + 1 := World.size_alloc ..
 obtain ⟨W0, hW0, S⟩ := S.pack
 rw [hW0] at hP
 have hb0 := Bd.new W0
 have S1 := S.below (box2 W0 (.cells #[.pointer none, .slice none 0 0] 101))
 have hk0 := S.k
 have hsz1 : (W0.alloc (.cells #[.pointer none, .slice none 0 0] 101)).heap.size = W0.heap.size + 1 := World.size_alloc ..
 obtain ⟨W1, hW1⟩ : ∃ W1, W0.alloc (.cells #[.pointer none, .slice none 0 0] 101) = W1 := ⟨_, rfl⟩
 rw [hW1] at hb0 S1 hsz1
 have H1 := Lib.hid h1
 have H2 := Lib.hid h2
 have H3 := Lib.hid h3
 have H4 := Lib.hid h4
 have HT := Lib.hid ht
 have HNM := Lib.hid hnm
 have HB0 := Lib.hid hb0
 have HK0 := Lib.hid hk0
 subst hcs
 clear h1 h2 h3 h4 ht hnm hb0 hk0 S
 go_enter Tryz.func70, Tryz.ntmps70
 go_wp2_with fail
 refine heads_any.mono ?_
 rintro e W2 ⟨g, h, rfl, hg, hh, hgh, hO, hO', hk2⟩
 replace S := St.boxes2 S1 (S1.below hk2) hO hO' hg hh hgh
 have hb := HB0.out.below hk2
 have hne1 : g ≠ W0.heap.size := by omega
 have hne2 : h ≠ W0.heap.size := by omega
 have HPB := Lib.hid (fun cs => prB_ok (w := w) (cs := cs) hne1 hne2 (by omega))
 have HP := Lib.hid hP
 clear hne1 hne2 hg hh hgh hO hO' hk2 S1 hsz1 hW0 hW1 HB0 hP
 go_wp2
 go_loopw [18] (fun i wr => ∃ k : Nat, k ≤ 6 ∧ i = .int .i64 (k : Nat) ∧ Bd W0 (headT s k) wr ∧ St w wr (prB w g h (smL s (.bool b3) (.slice A3 n3 c3) (.bool d3) (.slice B3 m3 e3) (.bool b4) (.slice A4 n4 c4) (.bool d4) (.slice B4 m4 e4) A B c d)) []) (fun i _ => 6 - (intOf i).toNat)
 case atStart => exact ⟨0, Nat.zero_le _, rfl, hb, S⟩
 case round =>
  clear S hb
  obtain ⟨k, hk, rfl, hb, S⟩ := hrel
  by_cases hlt : k < 6
  ·have hkI : (k : Int) < 6 := by omega
   have t1 : decide ((k : Int) < 6) = true := decide_eq_true hkI
   have y0 := S.c 0 k rfl (ptr_at hlt)
   have y1 := S.c 1 k rfl (word_at hlt)
   have y2 := S.c 2 k rfl (smL_num hlt)
   obtain ⟨a1, a2⟩ := HNM.out k hlt
   have hl1 := headT_len HNM.out k (by omega)
   have hl2 := words_le k
   have HNX := Lib.hid (headT_next s k)
   have hl3 := Lib.itoa_length_le _ a1 a2
   have hpt := HT.out.keep S.k
   have HB := Lib.hid hb
   generalize (numsL s).getD k 0 = v at *
   generalize wordsL.getD k [] = wd at *
   clear hb
   go_wp2_with fail
   refine (itoa8 v a1 a2 hpt).mono ?_
   rintro e W3 ⟨rfl, hk3⟩
   replace S := S.below hk3
   have hb := HB.out.below hk3
   clear hk3 y0 y1 y2 hpt HB
   go_wp2_with fail
   (have hkA : Keeps W3 (W3.alloc (.cells ([wd, Lib.itoa v].map strV).toArray 9)) := box2 W3 _); (have hOA : Own (W3.alloc (.cells ([wd, Lib.itoa v].map strV).toArray 9)) W3.heap.size 9 ([wd, Lib.itoa v].map strV) := Own.new W3 _ _); (refine (line_at (xs := [wd, Lib.itoa v]) HP.out (hb.below hkA) hOA (by simp) (by rw [join2]; (try simp only [List.length_cons, List.length_nil]); omega)).mono ?_); rintro e W5 ⟨rfl, hb5, h8⟩; (replace S := (S.below hkA).keep8 h8 hb5 HK0.out (HPB.out _)); clear hkA hOA h8 hb
   go_wp2
   go_roundw
   case rel => exact ⟨k + 1, by omega, by go_num, by rw [HNX.out]; exact hb5, S⟩
   case measure => simp [intOf]; omega
  ·have hkI : ¬ (k : Int) < 6 := by omega
   have t1 : decide ((k : Int) < 6) = false := decide_eq_false hkI
   obtain rfl : k = 6 := by omega
   have hl0 := headT_len HNM.out 6 (by omega)
   have q1 := fracT_le z1
   have q2 := fracT_le z2
   have HTP : Hid (headT s 6 ++ lineT [[111, 98, 106, 101, 99, 116, 105, 118, 101], fracT s.ob.1] ++ lineT [[115, 105, 103, 109, 97, 50], fracT s.sg.1] = topT s) := Lib.hid rfl
   have htl : (topT s).length ≤ 100000 := by
    rw [← HTP.out, List.length_append, List.length_append, lineT2, lineT2]
    simp only [List.length_cons, List.length_nil]
    omega
   have e1 : fracT s.ob.1 = fracT s.ob.1 := rfl
   generalize headT s 6 = T0 at *
   have HX1 := Lib.hid (fun (u : World) (hk : Keeps w u) => ftext_num ((lasts_v _ _ _ _ hk H1.out).num') (HT.out.keep hk))
   have HX2 := Lib.hid (fun (u : World) (hk : Keeps w u) => ftext_num ((lasts_v _ _ _ _ hk H2.out).num') (HT.out.keep hk))
   generalize fracT s.ob.1 = F1 at *
   generalize fracT s.sg.1 = F2 at *
   clear e1
   have x6 := S.c 2 6 rfl rfl
   have x7 := S.c 2 7 rfl rfl
   have x8 := S.c 2 8 rfl rfl
   have x9 := S.c 2 9 rfl rfl
   have HB := Lib.hid hb
   clear hb
   go_wp2_with fail
   refine (HX1.out _ S.k).mono ?_
   rintro e W3 ⟨rfl, hk3⟩
   replace S := S.below hk3
   have hb := HB.out.below hk3
   clear hk3 x6 x7 x8 x9 HB
   go_wp2_with fail
   (have hkA : Keeps W3 (W3.alloc (.cells ([[111, 98, 106, 101, 99, 116, 105, 118, 101], F1].map strV).toArray 9)) := box2 W3 _); (have hOA : Own (W3.alloc (.cells ([[111, 98, 106, 101, 99, 116, 105, 118, 101], F1].map strV).toArray 9)) W3.heap.size 9 ([[111, 98, 106, 101, 99, 116, 105, 118, 101], F1].map strV) := Own.new W3 _ _); (refine (line_at (xs := [[111, 98, 106, 101, 99, 116, 105, 118, 101], F1]) HP.out (hb.below hkA) hOA (by simp) (by rw [join2]; (try simp only [List.length_cons, List.length_nil]); omega)).mono ?_); rintro e W5 ⟨rfl, hb5, h8⟩; (replace S := (S.below hkA).keep8 h8 hb5 HK0.out (HPB.out _)); clear hkA hOA h8 hb
   have x10 := S.c 2 10 rfl rfl
   have x11 := S.c 2 11 rfl rfl
   have x12 := S.c 2 12 rfl rfl
   have x13 := S.c 2 13 rfl rfl
   have HB := Lib.hid hb5
   clear hb5
   go_wp2_with fail
   refine (HX2.out _ S.k).mono ?_
   rintro e W6 ⟨rfl, hk3⟩
   replace S := S.below hk3
   have hb := HB.out.below hk3
   clear hk3 x10 x11 x12 x13 HB
   go_wp2_with fail
   (have hkA : Keeps W6 (W6.alloc (.cells ([[115, 105, 103, 109, 97, 50], F2].map strV).toArray 9)) := box2 W6 _); (have hOA : Own (W6.alloc (.cells ([[115, 105, 103, 109, 97, 50], F2].map strV).toArray 9)) W6.heap.size 9 ([[115, 105, 103, 109, 97, 50], F2].map strV) := Own.new W6 _ _); (refine (line_at (xs := [[115, 105, 103, 109, 97, 50], F2]) HP.out (hb.below hkA) hOA (by simp) (by rw [join2, List.length_append, lineT2]; simp only [List.length_cons, List.length_nil]; omega)).mono ?_); rintro e W8 ⟨rfl, hb5, h8⟩; (replace S := (S.below hkA).keep8 h8 hb5 HK0.out (HPB.out _)); clear hkA hOA h8 hb
   rw [HTP.out] at hb5
   have x14 := S.c 2 14 rfl rfl
   have HB5 := Lib.hid hb5
   clear hb5
   have hlI : (s.rd.length : Int) ≤ 1100 := by omega
   go_wp2
   clear x14
   go_loopw [50] (fun i wr => ∃ k : Nat, k ≤ s.rd.length ∧ i = .int .i64 (k : Nat) ∧ Bd W0 (topT s ++ rowsT s k) wr ∧ St w wr (prB w g h (smL s (.bool b3) (.slice A3 n3 c3) (.bool d3) (.slice B3 m3 e3) (.bool b4) (.slice A4 n4 c4) (.bool d4) (.slice B4 m4 e4) A B c d)) []) (fun i _ => s.rd.length - (intOf i).toNat)
   case atStart => exact ⟨0, Nat.zero_le _, rfl, by simpa [rowsT] using HB5.out, S⟩
   case round =>
    clear S HB5
    obtain ⟨k, hk, rfl, hb, S⟩ := hrel
    have hrl := rowsT_len z3 z4 k (by omega)
    by_cases hlt : k < s.rd.length
    ·have hkI : (k : Int) < s.rd.length := by omega
     have t1 : decide ((k : Int) < (s.rd.length : Int)) = true := decide_eq_true hkI
     obtain ⟨⟨q, vb⟩, hq⟩ : ∃ x, s.rd[k]? = some x := ⟨_, List.getElem?_eq_getElem hlt⟩
     obtain ⟨⟨q', vb'⟩, hq'⟩ : ∃ x, s.sx[k]? = some x := ⟨_, List.getElem?_eq_getElem (by omega)⟩
     obtain ⟨B', o, u0, u1, u2, u3, rfl, hc, hx⟩ := H3.out.get lasts_v hq
     obtain ⟨By, oy, v0, v1, v2, v3, rfl, hc', hx'⟩ := H4.out.get lasts_v hq'
     obtain ⟨bx, Ax, nx, cx, dx, Bx, mx, ex, rfl, rfl, rfl, rfl⟩ := (hx w bl).open4
     obtain ⟨by', Ay, ny, cy, dy, Bz, my, ey, rfl, rfl, rfl, rfl⟩ := (hx' w bl).open4
     have HIT := Lib.hid (fun (u : World) (hk : Keeps w u) => itoa8 (k : Int) (by omega) (by omega) (HT.out.keep hk))
     have HFX := Lib.hid (fun (u : World) (hk : Keeps w u) => ftext_num (hx u hk).num' (HT.out.keep hk))
     have HFY := Lib.hid (fun (u : World) (hk : Keeps w u) => ftext_num (hx' u hk).num' (HT.out.keep hk))
     have HCY := Lib.hid hc'
     have hr1 := rowsT_next s k
     have hr2 : rowLn s k = lineT [[114, 111, 119], Lib.itoa (k : Int), fracT q, fracT q'] := by
      unfold rowLn
      simp only [List.getD, hq, hq', Option.getD_some]
     have hi1 := Lib.itoa_length_le (k : Int) (by omega) (by omega)
     have hf1 := fracT_le (z3 _ (List.mem_of_getElem? hq))
     have hf2 := fracT_le (z4 _ (List.mem_of_getElem? hq'))
     rw [hr2] at hr1
     simp only at hf1 hf2 HFX HFY
     obtain ⟨g0, g1, g2, g3⟩ := hc wr S.k
     have x14 := S.c 2 14 rfl rfl
     generalize Lib.itoa (k : Int) = IT at *
     generalize fracT q = FX at *
     generalize fracT q' = FY at *
     have HR1 := Lib.hid hr1
     have HB := Lib.hid hb
     have hkx : (k : Int) < s.sx.length := by omega
     have hkn : k < s.sx.length := by omega
     clear hr1 hr2 hq hq' hc hc' hx hx' hb
     go_upto_region 14 with fail
     replace S := S.alloc 31 [.bool bx, .slice Ax nx cx, .bool dx, .slice Bx mx ex]
     have hkA := box2 wr (.cells #[.bool bx, .slice Ax nx cx, .bool dx, .slice Bx mx ex] 31)
     obtain ⟨W6, eW, S⟩ := S.pack
     rw [show wr.alloc (.cells #[.bool bx, .slice Ax nx cx, .bool dx, .slice Bx mx ex] 31) = W6 from eW] at hkA
     have HB6 := Lib.hid (HB.out.below hkA)
     rw [eW]
     clear eW g0 g1 g2 g3 x14 hkA HB
     refine wp_region_steps (m := 12) rfl (by kernel_rfl) (pt14Φ (.func (.func 113) #[] #[.pointer (some ⟨w.heap.size + 1, 0, none⟩)]) (.agg #[.bool bx, .slice Ax nx cx, .bool dx, .slice Bx mx ex]) (.slice (some ⟨By, oy, none⟩) s.sx.length d) (.agg #[.bool by', .slice Ay ny cy, .bool dy, .slice Bz my ey]) k W6.heap.size w.heap.size ⟨By, oy + k * 4, none⟩ IT FX FY) [] ?_ ?_ ?_
     ·intro i v w w' hi h hk
      match i, hi with
      | 0, _ | 1, _ | 2, _ | 3, _ | 4, _ | 5, _ | 6, _ | 7, _ | 8, _ | 9, _ | 10, _ => exact h
      | 11, _ => exact h.elim fun g ⟨h1, h2, h3⟩ => ⟨g, h1, h2, h3.below hk⟩
      | i + 12, hi => exact absurd hi (by omega)
     ·intro i hi vs wph3 hk3 hd
      have S3 := S.drew.below hk3
      obtain ⟨a0, a1, a2, a3⟩ := S3.cc4 0 rfl
      have a4 := S3.c 3 15 rfl rfl
      obtain ⟨y0, y1, y2, y3⟩ := HCY.out _ S3.k
      match i, hi with
      | 0, _ =>
       refine step_yes [] rfl (by kernel_rfl) fun K hK => ?_
       simp only [frD] at hK ⊢
       refine ⟨by rfl, ?_⟩
       go_simp
       exact hK _ _ ⟨Below.refl _ _, rfl, by simp⟩
      | 1, _ =>
       refine step_yes [] rfl (by kernel_rfl) fun K hK => ?_
       simp only [frD] at hK ⊢
       refine ⟨by rfl, ?_⟩
       go_simp
       exact hK _ _ ⟨Below.refl _ _, rfl, by simp⟩
      | 2, _ =>
       have e1 : vs 1 = .int .i64 (k : Nat) := hd 1 (List.contains_iff_mem.1 (by kernel_rfl))
       refine step_yes [(1, some 56)] rfl (by kernel_rfl) fun K hK => ?_
       simp only [frD, e1] at hK ⊢
       refine ⟨by rfl, ?_⟩
       go_simp
       refine ((HIT.out _ S3.k)).mono ?_
       rintro e wph4 ⟨rfl, hk4⟩
       exact hK _ _ ⟨hk4, rfl, by simp⟩
      | 3, _ =>
       refine step_yes [] rfl (by kernel_rfl) fun K hK => ?_
       simp only [frD] at hK ⊢
       refine ⟨by rfl, ?_⟩
       go_simp
       exact hK _ _ ⟨Below.refl _ _, rfl, by simp⟩
      | 4, _ =>
       have e2 : vs 2 = .string ⟨(IT).toArray⟩ := hd 2 (List.contains_iff_mem.1 (by kernel_rfl))
       have e3 : vs 3 = (.agg #[.bool bx, .slice Ax nx cx, .bool dx, .slice Bx mx ex]) := hd 3 (List.contains_iff_mem.1 (by kernel_rfl))
       refine step_yes [(2, some 57), (3, some 58)] rfl (by kernel_rfl) fun K hK => ?_
       simp only [frD, e2, e3] at hK ⊢
       refine ⟨by rfl, ?_⟩
       go_simp
       refine ((HFX.out _ S3.k)).mono ?_
       rintro e wph4 ⟨rfl, hk4⟩
       exact hK _ _ ⟨hk4, rfl, by simp⟩
      | 5, _ =>
       refine step_yes [] rfl (by kernel_rfl) fun K hK => ?_
       simp only [frD] at hK ⊢
       refine ⟨by rfl, ?_⟩
       go_simp
       exact hK _ _ ⟨Below.refl _ _, rfl, by simp⟩
      | 6, _ =>
       have e5 : vs 5 = .pointer (some ⟨w.heap.size, 15, none⟩) := hd 5 (List.contains_iff_mem.1 (by kernel_rfl))
       refine step_yes [(5, some 60)] rfl (by kernel_rfl) fun K hK => ?_
       simp only [frD, e5] at hK ⊢
       refine ⟨by rfl, ?_⟩
       go_simp
       exact hK _ _ ⟨Below.refl _ _, rfl, by simp⟩
      | 7, _ =>
       refine step_yes [] rfl (by kernel_rfl) fun K hK => ?_
       simp only [frD] at hK ⊢
       refine ⟨by rfl, ?_⟩
       go_simp
       exact hK _ _ ⟨Below.refl _ _, rfl, by simp⟩
      | 8, _ =>
       have e6 : vs 6 = (.slice (some ⟨By, oy, none⟩) s.sx.length d) := hd 6 (List.contains_iff_mem.1 (by kernel_rfl))
       have e7 : vs 7 = .int .i64 (k : Nat) := hd 7 (List.contains_iff_mem.1 (by kernel_rfl))
       refine step_yes [(6, some 61), (7, some 62)] rfl (by kernel_rfl) fun K hK => ?_
       simp only [frD, e6, e7] at hK ⊢
       refine ⟨by rfl, ?_⟩
       go_simp
       exact hK _ _ ⟨Below.refl _ _, rfl, by simp⟩
      | 9, _ =>
       have e8 : vs 8 = .pointer (some (⟨By, oy + k * 4, none⟩ : Addr)) := hd 8 (List.contains_iff_mem.1 (by kernel_rfl))
       refine step_yes [(8, some 63)] rfl (by kernel_rfl) fun K hK => ?_
       simp only [frD, e8] at hK ⊢
       refine ⟨by rfl, ?_⟩
       go_simp
       exact hK _ _ ⟨Below.refl _ _, rfl, by simp⟩
      | 10, _ =>
       have e4 : vs 4 = .string ⟨(FX).toArray⟩ := hd 4 (List.contains_iff_mem.1 (by kernel_rfl))
       have e9 : vs 9 = (.agg #[.bool by', .slice Ay ny cy, .bool dy, .slice Bz my ey]) := hd 9 (List.contains_iff_mem.1 (by kernel_rfl))
       refine step_yes [(4, some 59), (9, some 64)] rfl (by kernel_rfl) fun K hK => ?_
       simp only [frD, e4, e9] at hK ⊢
       refine ⟨by rfl, ?_⟩
       go_simp
       refine ((HFY.out _ S3.k)).mono ?_
       rintro e wph4 ⟨rfl, hk4⟩
       exact hK _ _ ⟨hk4, rfl, by simp⟩
      | 11, _ =>
       have e2 : vs 2 = .string ⟨(IT).toArray⟩ := hd 2 (List.contains_iff_mem.1 (by kernel_rfl))
       have e4 : vs 4 = .string ⟨(FX).toArray⟩ := hd 4 (List.contains_iff_mem.1 (by kernel_rfl))
       have e10 : vs 10 = .string ⟨(FY).toArray⟩ := hd 10 (List.contains_iff_mem.1 (by kernel_rfl))
       refine step_yes [(2, some 57), (4, some 59), (10, some 65)] rfl (by kernel_rfl) fun K hK => ?_
       simp only [frD, e2, e4, e10] at hK ⊢
       refine ⟨by rfl, ?_⟩
       go_simp
       exact hK _ _ ⟨bl.alloc (Nat.le_refl _) _, ⟨_, rfl, hk3.size, Own.new wph3 9 ([[114, 111, 119], IT, FX, FY].map strV)⟩, by simp⟩
      | i + 12, hi => exact absurd hi (by omega)
     ·intro vs wph3 hk3 hΦ _
      simp only [List.drop_succ_cons, List.drop_zero]
      rw [fr_frD, show (List.range 12).map _ = [(0, some 55), (1, some 56), (2, some 57), (3, some 58), (4, some 59), (5, some 60), (6, some 61), (7, some 62), (8, some 63), (9, some 64), (10, some 65), (11, some 66)] by kernel_rfl]
      have ph0 := hΦ 0 (by omega)
      have ph1 := hΦ 1 (by omega)
      have ph2 := hΦ 2 (by omega)
      have ph3 := hΦ 3 (by omega)
      have ph4 := hΦ 4 (by omega)
      have ph5 := hΦ 5 (by omega)
      have ph6 := hΦ 6 (by omega)
      have ph7 := hΦ 7 (by omega)
      have ph8 := hΦ 8 (by omega)
      have ph9 := hΦ 9 (by omega)
      have ph10 := hΦ 10 (by omega)
      have ph11 := hΦ 11 (by omega)
      simp only [pt14Φ] at ph0 ph1 ph2 ph3 ph4 ph5 ph6 ph7 ph8 ph9 ph10 ph11
      clear hΦ
      simp only [frD, ph0, ph1, ph2, ph3, ph4, ph5, ph6, ph7, ph8, ph9, ph10]
      simp only [Act.put, List.setIfInBounds_toArray, List.set_cons_zero, List.set_cons_succ]
      clear ph0
      clear ph1
      clear ph2
      clear ph3
      clear ph4
      clear ph5
      clear ph6
      clear ph7
      clear ph8
      clear ph9
      clear ph10
      generalize vs 11 = U11 at ph11 ⊢
      obtain ⟨gq, q11, l11, o11⟩ := ph11
      subst q11
      replace S := (S.drew.below hk3).dropb
      have hb := HB6.out.below ((Below.drew (Below.refl _ W6)).trans hk3)
      clear l11 hk3
      go_wp2_with fail
      refine (line_at (xs := [[114, 111, 119], IT, FX, FY]) HP.out hb o11 (by simp) (by rw [join4, List.length_append]; simp only [List.length_cons, List.length_nil]; omega)).mono ?_
      rintro e W8 ⟨rfl, hb5, h8⟩
      replace S := S.keep8 h8 hb5 HK0.out (HPB.out _)
      clear hb h8 o11 HB6
      go_wp2
      go_roundw
      case rel => exact ⟨k + 1, by omega, by go_num, by rw [HR1.out, ← List.append_assoc]; exact hb5, S⟩
      case measure => simp [intOf]; omega
    ·have hkI : ¬ (k : Int) < s.rd.length := by omega
     have t1 : decide ((k : Int) < (s.rd.length : Int)) = false := decide_eq_false hkI
     obtain rfl : k = s.rd.length := by omega
     have x16 := S.c 2 16 rfl rfl
     obtain ⟨w1', w2'⟩ := hwo
     have hl3 := Lib.itoa_length_le _ w1' w2'
     have hpt := HT.out.keep S.k
     have HST : Hid (topT s ++ rowsT s s.rd.length ++ lineT [[119, 111, 114, 115, 116], Lib.itoa s.wo] = sumT s) := Lib.hid rfl
     have HIW := Lib.hid (fun (u : World) (hu : PowTab u) => itoa8 s.wo w1' w2' hu)
     obtain ⟨IT, hIT⟩ : ∃ T, Lib.itoa s.wo = T := ⟨_, rfl⟩
     rw [hIT] at hl3 HST HIW
     have HB := Lib.hid hb
     clear hIT hb
     go_wp2_with fail
     refine (HIW.out _ hpt).mono ?_
     rintro e W6 ⟨rfl, hk3⟩
     replace S := S.below hk3
     have hb := HB.out.below hk3
     clear hk3 x16 hpt HB
     go_wp2_with fail
     (have hkA : Keeps W6 (W6.alloc (.cells ([[119, 111, 114, 115, 116], IT].map strV).toArray 9)) := box2 W6 _); (have hOA : Own (W6.alloc (.cells ([[119, 111, 114, 115, 116], IT].map strV).toArray 9)) W6.heap.size 9 ([[119, 111, 114, 115, 116], IT].map strV) := Own.new W6 _ _); (refine (line_at (xs := [[119, 111, 114, 115, 116], IT]) HP.out (hb.below hkA) hOA (by simp) (by rw [join2, List.length_append]; simp only [List.length_cons, List.length_nil]; omega)).mono ?_); rintro e W8 ⟨rfl, hb5, h8⟩; (replace S := (S.below hkA).keep8 h8 hb5 HK0.out (HPB.out _)); clear hkA hOA h8 hb
     rw [HST.out] at hb5
     go_wp2_with fail
     refine (bd_out_at HP.out hb5).mono ?_
     rintro e W9 ⟨rfl, hk9⟩
     go_wp2
     go_ret
     exact ⟨rfl, HK0.out.trans' hk9⟩
end Go.Proofs.YtgcigdahjabimaaGreatDoor
