/- fiduciallaw58.text: the walk. -/
import Derived.Test.YtgcigdahjabimaaGreatDoorPr45
import Derived.Test.YtgcigdahjabimaaGreatDoorPr44
namespace Go.Proofs.YtgcigdahjabimaaGreatDoor
open Go.RowKit Go.Shelf
theorem tline_at {w1 w : World} {l : List UInt8} {g P : Nat} {xs : List (List UInt8)} (hP : w1.heap.size = P) (hb : Bd w1 l w) (hO : Own w g 9 (xs.map strV)) (hn : xs.length ≤ 100) (hl : l.length + (Lib.join xs [32]).length ≤ 900000000) :
 Calls Tryz.prog 77 #[.slice (some ⟨g, 0, none⟩) xs.length xs.length, .pointer (some ⟨P, 0, none⟩)] w fun e w' => e = .returned (.tuple #[]) ∧ Bd w1 (l ++ lineT xs) w' ∧ Keep8 w1.heap.size w w' := by
 subst hP
 have HJ := Lib.hid (join_any hO hn (by omega))
 have HB := Lib.hid hb
 obtain ⟨T, hT⟩ : ∃ T, Lib.join xs [32] = T := ⟨_, rfl⟩
 have HT : Hid (l ++ lineT xs = l ++ (T ++ [10])) := Lib.hid (by unfold lineT; rw [hT])
 rw [hT] at HJ hl
 clear hO hb hT
 obtain ⟨T3, hT3⟩ : ∃ T3, T ++ [10] = T3 := ⟨_, rfl⟩
 have E3 : ByteArray.mk T.toArray ++ ByteArray.mk #[10] = ByteArray.mk T3.toArray := by rw [← hT3]; exact cat_str T [10]
 have v5 : (T.length : Int) ≤ 900000000 := by omega
 have v7 : T3.length ≤ 900000001 := by rw [← hT3, List.length_append, List.length_singleton]; omega
 have v8 : ¬ 9223372036854775807 < T.length + 1 := by omega
 rw [hT3] at HT
 clear hT3
 go_enter Tryz.func77, Tryz.ntmps77
 go_wp2_with fail
 refine HJ.out.mono ?_
 rintro e w2 ⟨rfl, hk⟩
 have hb2 := HB.out.below hk
 have HK := Lib.hid hk
 clear hk
 go_wp2_with fail
 refine (bd_string8 T3 hb2 (by omega) (by omega)).mono ?_
 rintro e w3 ⟨rfl, hb3, h83⟩
 go_wp2
 go_end0
 exact ⟨rfl, by rw [HT.out]; exact hb3, (Keep8.keeps HK.out).trans h83⟩
theorem gtx_t {w : World} {V1 : Value} {x : Rat} {T : List UInt8} (h1 : RatNum w V1 x) (hx : szR x ≤ 1000) (hT : fracT x = T) : Calls Tryz.prog 81 #[V1] w fun e w' => e = .returned (.string ⟨T.toArray⟩) ∧ Keeps w w' := by
 subst hT
 exact gtext_num h1 (by omega) rfl rfl rfl rfl
def wnL (s : Sm) : List Value := [strV [100, 105, 109], .int .i64 s.dim, strV [115, 116, 97, 116, 105, 111, 110, 115], .int .i64 s.st, strV [112, 111, 105, 110, 116, 115], .int .i64 s.pt, strV [114, 111, 119, 115], .int .i64 s.rw_, strV [102, 114, 101, 101], .int .i64 s.fr, strV [114, 97, 110, 107], .int .i64 s.rk]
theorem wn_at {s : Sm} {k : Nat} (hk : k < 6) : (wnL s)[k * 2]? = some (.string ⟨(wordsL.getD k []).toArray⟩) ∧ (wnL s)[k * 2 + 1]? = some (.int .i64 ((numsL s).getD k 0)) := by
 have : k = 0 ∨ k = 1 ∨ k = 2 ∨ k = 3 ∨ k = 4 ∨ k = 5 := by omega
 rcases this with rfl | rfl | rfl | rfl | rfl | rfl <;> exact ⟨rfl, rfl⟩
abbrev tB (w : World) (s : Sm) (g : Nat) (cs : List Value) : List Bx := [(g, 104, wnL s), (w.heap.size, 49, cs)]
theorem tB_ok {w : World} {s : Sm} {g P : Nat} {cs : List Value} (h1 : g ≠ P) (h3 : w.heap.size ≠ P) : ∀ p ∈ tB w s g cs, p.1 ≠ P ∧ p.2.1 ≠ 5 := by
 intro p hp
 simp only [List.mem_cons, List.not_mem_nil, or_false] at hp
 rcases hp with rfl | rfl
 ·exact ⟨h1, by show 104 ≠ 5; decide⟩
 ·exact ⟨h3, by show 49 ≠ 5; decide⟩
def lt6Φ (Vf : Value) (v0 : Int) (n0 b0 : Nat) (wd it : List UInt8) : Nat → Value → World → Prop
 | 0, v, _ => v = Vf
 | 1, v, _ => v = .pointer (some ⟨b0, 0, none⟩)
 | 2, v, _ => v = .string ⟨(wd).toArray⟩
 | 3, v, _ => v = .pointer (some ⟨b0, 1, none⟩)
 | 4, v, _ => v = .int .i64 v0
 | 5, v, _ => v = .string ⟨(it).toArray⟩
 | 6, v, w => ∃ g, v = .slice (some ⟨g, 0, none⟩) 2 2 ∧ n0 ≤ g ∧ Own w g 9 ([wd, it].map strV)
 | _, _, _ => True
def lt13Φ (Vf Vx Vs Vy Vr : Value) (k n0 b0 : Nat) (Pe Pr : Addr) (it f1 f2 : List UInt8) : Nat → Value → World → Prop
 | 0, v, _ => v = Vf
 | 1, v, _ => v = .int .i64 (k : Nat)
 | 2, v, _ => v = .string ⟨(it).toArray⟩
 | 3, v, _ => v = .pointer (some ⟨b0, 14, none⟩)
 | 4, v, _ => v = Vr
 | 5, v, _ => v = .int .i64 (k : Nat)
 | 6, v, _ => v = .pointer (some Pr)
 | 7, v, _ => v = Vx
 | 8, v, _ => v = .string ⟨(f1).toArray⟩
 | 9, v, _ => v = .pointer (some ⟨b0, 15, none⟩)
 | 10, v, _ => v = Vs
 | 11, v, _ => v = .int .i64 (k : Nat)
 | 12, v, _ => v = .pointer (some Pe)
 | 13, v, _ => v = Vy
 | 14, v, _ => v = .string ⟨(f2).toArray⟩
 | 15, v, w => ∃ g, v = .slice (some ⟨g, 0, none⟩) 4 4 ∧ n0 ≤ g ∧ Own w g 9 ([[114, 111, 119], it, f1, f2].map strV)
 | _, _, _ => True
set_option maxRecDepth 100000 in
set_option maxHeartbeats 2000000 in
theorem ltext_any {w : World} {V : Value} {s : Sm} (h : SmArg w V s) (ht : PowTab w) (hnm : Nums64 s) (hwo : -9223372036854775808 ≤ s.wo ∧ s.wo ≤ 9223372036854775807) (hl : s.rd.length ≤ 1100) (hls : s.rd.length ≤ s.sx.length)
 (z1 : szR s.ob.1 ≤ 1000) (z2 : szR s.sg.1 ≤ 1000) (z3 : ∀ x ∈ s.rd, szR x.1 ≤ 1000) (z4 : ∀ x ∈ s.sx, szR x.1 ≤ 1000) :
 Calls Tryz.prog 33 #[V] w fun e w' => e = .returned (.string ⟨(sumT s).toArray⟩) ∧ Keeps w w' := by
 obtain ⟨o0, o1, o2, o3, p0, p1, p2, p3, A, B, c, d, rfl, h1, h2, h3, h4, h5, h6⟩ := h
 obtain ⟨b3, A3, n3, c3, d3, B3, m3, e3, rfl, rfl, rfl, rfl⟩ := h1.open4
 obtain ⟨b4, A4, n4, c4, d4, B4, m4, e4, rfl, rfl, rfl, rfl⟩ := h2.open4
 obtain ⟨cs, hcs⟩ : ∃ cs, smL s (.bool b3) (.slice A3 n3 c3) (.bool d3) (.slice B3 m3 e3) (.bool b4) (.slice A4 n4 c4) (.bool d4) (.slice B4 m4 e4) A B c d = cs := ⟨_, rfl⟩
 have S := (St.start w).alloc 49 cs
 have hP : (w.alloc (.cells cs.toArray 49)).heap.size = w.heap.size + 1 := World.size_alloc ..
 obtain ⟨W0, hW0, S⟩ := S.pack
 rw [hW0] at hP
 have hb0 := Bd.new W0
 have S1 := S.below (box2 W0 (.cells #[.pointer none, .slice none 0 0] 101))
 have hk0 := S.k
 have hsz1 : (W0.alloc (.cells #[.pointer none, .slice none 0 0] 101)).heap.size = W0.heap.size + 1 := World.size_alloc ..
 obtain ⟨W1, hW1⟩ : ∃ W1, W0.alloc (.cells #[.pointer none, .slice none 0 0] 101) = W1 := ⟨_, rfl⟩
 rw [hW1] at hb0 S1 hsz1
 have H1 := Lib.hid h1
 have H2 := Lib.hid h2
 have H3 := Lib.hid h3
 have H4 := Lib.hid h4
 have HT := Lib.hid ht
 have HNM := Lib.hid hnm
 have HB0 := Lib.hid hb0
 have HK0 := Lib.hid hk0
 subst hcs
 clear h1 h2 h3 h4 ht hnm hb0 hk0 S
 go_enter Tryz.func33, Tryz.ntmps33
 have x0 := (S1.c 0 0 rfl rfl)
 have x1 := (S1.c 0 1 rfl rfl)
 have x2 := (S1.c 0 2 rfl rfl)
 have x3 := (S1.c 0 3 rfl rfl)
 have x4 := (S1.c 0 4 rfl rfl)
 have x5 := (S1.c 0 5 rfl rfl)
 go_wp2
 clear x0 x1 x2 x3 x4 x5
 have hkR := box2 W1 (.cells (wnL s).toArray 104)
 have S := S1.alloc 104 (wnL s)
 have hb := HB0.out.below hkR
 have HPB := Lib.hid (fun cs => tB_ok (w := w) (s := s) (g := W1.heap.size) (P := W0.heap.size) (cs := cs) (by omega) (by omega))
 have HP := Lib.hid hP
 rw [show W1.heap.size = w.heap.size + 1 + 1 by omega] at S HPB
 go_loopw [29] (fun i wr => ∃ k : Nat, k ≤ 6 ∧ i = .int .i64 (k : Nat) ∧ Bd W0 (headT s k) wr ∧ St w wr (tB w s (w.heap.size + 1 + 1) (smL s (.bool b3) (.slice A3 n3 c3) (.bool d3) (.slice B3 m3 e3) (.bool b4) (.slice A4 n4 c4) (.bool d4) (.slice B4 m4 e4) A B c d)) []) (fun i _ => 6 - (intOf i).toNat)
 case atStart => exact ⟨0, Nat.zero_le _, rfl, hb, S⟩
 case round =>
  clear S hb
  obtain ⟨k, hk, rfl, hb, S⟩ := hrel
  by_cases hlt : k < 6
  ·have hkI : (k : Int) < 6 := by omega
   have t1 : decide ((k : Int) < 6) = true := decide_eq_true hkI
   have y0 := S.c 0 (k * 2) rfl (wn_at hlt).1
   have y1 := S.c 0 (k * 2 + 1) rfl (wn_at hlt).2
   obtain ⟨n1, n2⟩ := HNM.out k hlt
   have hl1 := headT_len HNM.out k (by omega)
   have hl2 := words_le k
   have HNX := Lib.hid (headT_next s k)
   have hl3 := Lib.itoa_length_le _ n1 n2
   have HIT := Lib.hid (fun (u : World) (hu : Keeps w u) => itoa8 (w := u) ((numsL s).getD k 0) n1 n2 (HT.out.keep hu))
   generalize (numsL s).getD k 0 = vk at *
   generalize wordsL.getD k [] = wd at *
   obtain ⟨IT, hIT⟩ : ∃ T, Lib.itoa vk = T := ⟨_, rfl⟩
   rw [hIT] at HNX HIT hl3
   clear hIT n1 n2
   have HB := Lib.hid hb
   have HLT := Lib.hid hlt
   clear hb hlt
   go_upto_region 6 with fail
   replace S := S.alloc 104 [.string ⟨wd.toArray⟩, .int .i64 vk]
   have hkA := box2 wr (.cells #[.string ⟨wd.toArray⟩, .int .i64 vk] 104)
   obtain ⟨W6, eW, S⟩ := S.pack
   rw [show wr.alloc (.cells #[.string ⟨wd.toArray⟩, .int .i64 vk] 104) = W6 from eW] at hkA
   have HB6 := Lib.hid (HB.out.below hkA)
   rw [eW]
   obtain ⟨P6, hP6⟩ : ∃ P6, wr.heap.size = P6 := ⟨_, rfl⟩
   rw [hP6] at S ⊢
   clear eW y0 y1 hkA HB hP6
   refine wp_region_steps (m := 7) rfl (by kernel_rfl) (lt6Φ (.func (.func 77) #[] #[.pointer (some ⟨w.heap.size + 1, 0, none⟩)]) vk W6.heap.size P6 wd IT) [] ?_ ?_ ?_
   ·intro i v w w' hi h hk
    match i, hi with
    | 0, _ | 1, _ | 2, _ | 3, _ | 4, _ | 5, _ => exact h
    | 6, _ => exact h.elim fun g ⟨h1, h2, h3⟩ => ⟨g, h1, h2, h3.below hk⟩
    | i + 7, hi => exact absurd hi (by omega)
   ·intro i hi vs wph3 hk3 hd
    have S3 := S.drew.below hk3
    obtain ⟨a0, a1⟩ := S3.cc2 0 rfl
    match i, hi with
    | 0, _ =>
     refine step_yes [] rfl (by kernel_rfl) fun K hK => ?_
     simp only [frD] at hK ⊢
     refine ⟨by rfl, ?_⟩
     go_simp
     exact hK _ _ ⟨Below.refl _ _, rfl, by simp⟩
    | 1, _ =>
     refine step_yes [] rfl (by kernel_rfl) fun K hK => ?_
     simp only [frD] at hK ⊢
     refine ⟨by rfl, ?_⟩
     go_simp
     exact hK _ _ ⟨Below.refl _ _, rfl, by simp⟩
    | 2, _ =>
     have e1 : vs 1 = .pointer (some ⟨P6, 0, none⟩) := hd 1 (List.contains_iff_mem.1 (by kernel_rfl))
     refine step_yes [(1, some 34)] rfl (by kernel_rfl) fun K hK => ?_
     simp only [frD, e1] at hK ⊢
     refine ⟨by rfl, ?_⟩
     go_simp
     exact hK _ _ ⟨Below.refl _ _, rfl, by simp⟩
    | 3, _ =>
     refine step_yes [] rfl (by kernel_rfl) fun K hK => ?_
     simp only [frD] at hK ⊢
     refine ⟨by rfl, ?_⟩
     go_simp
     exact hK _ _ ⟨Below.refl _ _, rfl, by simp⟩
    | 4, _ =>
     have e3 : vs 3 = .pointer (some ⟨P6, 1, none⟩) := hd 3 (List.contains_iff_mem.1 (by kernel_rfl))
     refine step_yes [(3, some 36)] rfl (by kernel_rfl) fun K hK => ?_
     simp only [frD, e3] at hK ⊢
     refine ⟨by rfl, ?_⟩
     go_simp
     exact hK _ _ ⟨Below.refl _ _, rfl, by simp⟩
    | 5, _ =>
     have e4 : vs 4 = .int .i64 vk := hd 4 (List.contains_iff_mem.1 (by kernel_rfl))
     refine step_yes [(4, some 37)] rfl (by kernel_rfl) fun K hK => ?_
     simp only [frD, e4] at hK ⊢
     refine ⟨by rfl, ?_⟩
     go_simp
     refine ((HIT.out _ S3.k)).mono ?_
     rintro e wph4 ⟨rfl, hk4⟩
     exact hK _ _ ⟨hk4, rfl, by simp⟩
    | 6, _ =>
     have e2 : vs 2 = .string ⟨(wd).toArray⟩ := hd 2 (List.contains_iff_mem.1 (by kernel_rfl))
     have e5 : vs 5 = .string ⟨(IT).toArray⟩ := hd 5 (List.contains_iff_mem.1 (by kernel_rfl))
     refine step_yes [(2, some 35), (5, some 38)] rfl (by kernel_rfl) fun K hK => ?_
     simp only [frD, e2, e5] at hK ⊢
     refine ⟨by rfl, ?_⟩
     go_simp
     exact hK _ _ ⟨bl.alloc (Nat.le_refl _) _, ⟨_, rfl, hk3.size, Own.new wph3 9 ([wd, IT].map strV)⟩, by simp⟩
    | i + 7, hi => exact absurd hi (by omega)
   ·intro vs wph3 hk3 hΦ _
    simp only [List.drop_succ_cons, List.drop_zero]
    rw [fr_frD, show (List.range 7).map _ = [(0, some 33), (1, some 34), (2, some 35), (3, some 36), (4, some 37), (5, some 38), (6, some 39)] by kernel_rfl]
    have ph0 := hΦ 0 (by omega)
    have ph1 := hΦ 1 (by omega)
    have ph2 := hΦ 2 (by omega)
    have ph3 := hΦ 3 (by omega)
    have ph4 := hΦ 4 (by omega)
    have ph5 := hΦ 5 (by omega)
    have ph6 := hΦ 6 (by omega)
    simp only [lt6Φ] at ph0 ph1 ph2 ph3 ph4 ph5 ph6
    clear hΦ
    simp only [frD, ph0, ph1, ph2, ph3, ph4, ph5]
    simp only [Act.put, List.setIfInBounds_toArray, List.set_cons_zero, List.set_cons_succ]
    clear ph0
    clear ph1
    clear ph2
    clear ph3
    clear ph4
    clear ph5
    generalize vs 6 = U6 at ph6 ⊢
    obtain ⟨gq, q11, l11, o11⟩ := ph6
    subst q11
    replace S := (S.drew.below hk3).dropb
    have hb := HB6.out.below ((Below.drew (Below.refl _ W6)).trans hk3)
    clear l11 hk3
    go_wp2_with fail
    refine (tline_at (xs := [wd, IT]) HP.out hb o11 (by simp) (by rw [join2]; omega)).mono ?_
    rintro e W8 ⟨rfl, hb5, h8⟩
    replace S := S.keep8 h8 hb5 HK0.out (HPB.out _)
    clear hb h8 o11 HB6
    go_wp2
    go_roundw
    case rel => exact ⟨k + 1, by have := HLT.out; omega, by go_num, by rw [HNX.out]; exact hb5, S⟩
    case measure => have := HLT.out; simp [intOf]; omega
  ·have hkI : ¬ (k : Int) < 6 := by omega
   have t1 : decide ((k : Int) < 6) = false := decide_eq_false hkI
   obtain rfl : k = 6 := by omega
   have hl0 := headT_len HNM.out 6 (by omega)
   have q1 := fracT_le z1
   have q2 := fracT_le z2
   have HTP : Hid (headT s 6 ++ lineT [[111, 98, 106, 101, 99, 116, 105, 118, 101], fracT s.ob.1] ++ lineT [[115, 105, 103, 109, 97, 50], fracT s.sg.1] = topT s) := Lib.hid rfl
   have htl : (topT s).length ≤ 100000 := by
    rw [← HTP.out, List.length_append, List.length_append, lineT2, lineT2]
    simp only [List.length_cons, List.length_nil]
    omega
   have e1 : fracT s.ob.1 = fracT s.ob.1 := rfl
   generalize headT s 6 = T0 at *
   have HX1 := Lib.hid (fun (u : World) (hk : Keeps w u) => gtx_t ((lasts_v _ _ _ _ hk H1.out).num') z1 rfl)
   have HX2 := Lib.hid (fun (u : World) (hk : Keeps w u) => gtx_t ((lasts_v _ _ _ _ hk H2.out).num') z2 rfl)
   generalize fracT s.ob.1 = F1 at *
   generalize fracT s.sg.1 = F2 at *
   clear e1
   have x6 := S.c 1 6 rfl rfl
   have x7 := S.c 1 7 rfl rfl
   have x8 := S.c 1 8 rfl rfl
   have x9 := S.c 1 9 rfl rfl
   have HB := Lib.hid hb
   clear hb
   go_wp2_with fail
   refine (HX1.out _ S.k).mono ?_
   rintro e W3 ⟨rfl, hk3⟩
   replace S := S.below hk3
   have hb := HB.out.below hk3
   clear hk3 x6 x7 x8 x9 HB
   go_wp2_with fail
   (have hkA : Keeps W3 (W3.alloc (.cells ([[111, 98, 106, 101, 99, 116, 105, 118, 101], F1].map strV).toArray 9)) := box2 W3 _); (have hOA : Own (W3.alloc (.cells ([[111, 98, 106, 101, 99, 116, 105, 118, 101], F1].map strV).toArray 9)) W3.heap.size 9 ([[111, 98, 106, 101, 99, 116, 105, 118, 101], F1].map strV) := Own.new W3 _ _); (refine (tline_at (xs := [[111, 98, 106, 101, 99, 116, 105, 118, 101], F1]) HP.out (hb.below hkA) hOA (by simp) (by rw [join2]; (try simp only [List.length_cons, List.length_nil]); omega)).mono ?_); rintro e W5 ⟨rfl, hb5, h8⟩; (replace S := (S.below hkA).keep8 h8 hb5 HK0.out (HPB.out _)); clear hkA hOA h8 hb
   have x10 := S.c 1 10 rfl rfl
   have x11 := S.c 1 11 rfl rfl
   have x12 := S.c 1 12 rfl rfl
   have x13 := S.c 1 13 rfl rfl
   have HB := Lib.hid hb5
   clear hb5
   go_wp2_with fail
   refine (HX2.out _ S.k).mono ?_
   rintro e W6 ⟨rfl, hk3⟩
   replace S := S.below hk3
   have hb := HB.out.below hk3
   clear hk3 x10 x11 x12 x13 HB
   go_wp2_with fail
   (have hkA : Keeps W6 (W6.alloc (.cells ([[115, 105, 103, 109, 97, 50], F2].map strV).toArray 9)) := box2 W6 _); (have hOA : Own (W6.alloc (.cells ([[115, 105, 103, 109, 97, 50], F2].map strV).toArray 9)) W6.heap.size 9 ([[115, 105, 103, 109, 97, 50], F2].map strV) := Own.new W6 _ _); (refine (tline_at (xs := [[115, 105, 103, 109, 97, 50], F2]) HP.out (hb.below hkA) hOA (by simp) (by rw [join2, List.length_append, lineT2]; simp only [List.length_cons, List.length_nil]; omega)).mono ?_); rintro e W8 ⟨rfl, hb5, h8⟩; (replace S := (S.below hkA).keep8 h8 hb5 HK0.out (HPB.out _)); clear hkA hOA h8 hb
   rw [HTP.out] at hb5
   have x14 := S.c 1 14 rfl rfl
   have HB5 := Lib.hid hb5
   clear hb5
   have hlI : (s.rd.length : Int) ≤ 1100 := by omega
   go_wp2
   clear x14
   go_loopw [57] (fun i wr => ∃ k : Nat, k ≤ s.rd.length ∧ i = .int .i64 (k : Nat) ∧ Bd W0 (topT s ++ rowsT s k) wr ∧ St w wr (tB w s (w.heap.size + 1 + 1) (smL s (.bool b3) (.slice A3 n3 c3) (.bool d3) (.slice B3 m3 e3) (.bool b4) (.slice A4 n4 c4) (.bool d4) (.slice B4 m4 e4) A B c d)) []) (fun i _ => s.rd.length - (intOf i).toNat)
   case atStart => exact ⟨0, Nat.zero_le _, rfl, by simpa [rowsT] using HB5.out, S⟩
   case round =>
    clear S HB5
    obtain ⟨k, hk, rfl, hb, S⟩ := hrel
    have hrl := rowsT_len z3 z4 k (by omega)
    by_cases hlt : k < s.rd.length
    ·have hkI : (k : Int) < s.rd.length := by omega
     have t1 : decide ((k : Int) < (s.rd.length : Int)) = true := decide_eq_true hkI
     obtain ⟨⟨q, vb⟩, hq⟩ : ∃ x, s.rd[k]? = some x := ⟨_, List.getElem?_eq_getElem hlt⟩
     obtain ⟨⟨q', vb'⟩, hq'⟩ : ∃ x, s.sx[k]? = some x := ⟨_, List.getElem?_eq_getElem (by omega)⟩
     obtain ⟨B', o, u0, u1, u2, u3, rfl, hc, hx⟩ := H3.out.get lasts_v hq
     obtain ⟨By, oy, v0, v1, v2, v3, rfl, hc', hx'⟩ := H4.out.get lasts_v hq'
     obtain ⟨bx, Ax, nx, cx, dx, Bx, mx, ex, rfl, rfl, rfl, rfl⟩ := (hx w bl).open4
     obtain ⟨by', Ay, ny, cy, dy, Bz, my, ey, rfl, rfl, rfl, rfl⟩ := (hx' w bl).open4
     have HIT := Lib.hid (fun (u : World) (hk : Keeps w u) => itoa8 (k : Int) (by omega) (by omega) (HT.out.keep hk))
     have HFX := Lib.hid (fun (u : World) (hk : Keeps w u) => gtx_t (hx u hk).num' (z3 _ (List.mem_of_getElem? hq)) rfl)
     have HFY := Lib.hid (fun (u : World) (hk : Keeps w u) => gtx_t (hx' u hk).num' (z4 _ (List.mem_of_getElem? hq')) rfl)
     have HCY := Lib.hid hc'
     have hr1 := rowsT_next s k
     have hr2 : rowLn s k = lineT [[114, 111, 119], Lib.itoa (k : Int), fracT q, fracT q'] := by
      unfold rowLn
      simp only [List.getD, hq, hq', Option.getD_some]
     have hi1 := Lib.itoa_length_le (k : Int) (by omega) (by omega)
     have hf1 := fracT_le (z3 _ (List.mem_of_getElem? hq))
     have hf2 := fracT_le (z4 _ (List.mem_of_getElem? hq'))
     rw [hr2] at hr1
     simp only at hf1 hf2 HFX HFY
     have HCX := Lib.hid hc
     generalize Lib.itoa (k : Int) = IT at *
     generalize fracT q = FX at *
     generalize fracT q' = FY at *
     have HR1 := Lib.hid hr1
     have HB := Lib.hid hb
     have hkx : (k : Int) < s.sx.length := by omega
     have hkn : k < s.sx.length := by omega
     clear hr1 hr2 hq hq' hc hc' hx hx' hb
     go_upto_region 13 with fail
     obtain ⟨W6, rfl⟩ : ∃ W : World, W = wr := ⟨_, rfl⟩
     have HB6 := HB
     clear HB
     refine wp_region_steps (m := 16) rfl (by kernel_rfl) (lt13Φ (.func (.func 77) #[] #[.pointer (some ⟨w.heap.size + 1, 0, none⟩)]) (.agg #[.bool bx, .slice Ax nx cx, .bool dx, .slice Bx mx ex]) (.slice (some ⟨By, oy, none⟩) s.sx.length d) (.agg #[.bool by', .slice Ay ny cy, .bool dy, .slice Bz my ey]) (.slice (some ⟨B', o, none⟩) s.rd.length c) k W6.heap.size w.heap.size ⟨By, oy + k * 4, none⟩ ⟨B', o + k * 4, none⟩ IT FX FY) [] ?_ ?_ ?_
     ·intro i v w w' hi h hk
      match i, hi with
      | 0, _ | 1, _ | 2, _ | 3, _ | 4, _ | 5, _ | 6, _ | 7, _ | 8, _ | 9, _ | 10, _ | 11, _ | 12, _ | 13, _ | 14, _ => exact h
      | 15, _ => exact h.elim fun g ⟨h1, h2, h3⟩ => ⟨g, h1, h2, h3.below hk⟩
      | i + 16, hi => exact absurd hi (by omega)
     ·intro i hi vs wph3 hk3 hd
      have S3 := S.drew.below hk3
      obtain ⟨g0, g1, g2, g3⟩ := HCX.out _ S3.k
      have a3 := S3.c 1 14 rfl rfl
      have a4 := S3.c 1 15 rfl rfl
      obtain ⟨y0, y1, y2, y3⟩ := HCY.out _ S3.k
      match i, hi with
      | 0, _ =>
       refine step_yes [] rfl (by kernel_rfl) fun K hK => ?_
       simp only [frD] at hK ⊢
       refine ⟨by rfl, ?_⟩
       go_simp
       exact hK _ _ ⟨Below.refl _ _, rfl, by simp⟩
      | 1, _ =>
       refine step_yes [] rfl (by kernel_rfl) fun K hK => ?_
       simp only [frD] at hK ⊢
       refine ⟨by rfl, ?_⟩
       go_simp
       exact hK _ _ ⟨Below.refl _ _, rfl, by simp⟩
      | 2, _ =>
       have e1 : vs 1 = .int .i64 (k : Nat) := hd 1 (List.contains_iff_mem.1 (by kernel_rfl))
       refine step_yes [(1, some 61)] rfl (by kernel_rfl) fun K hK => ?_
       simp only [frD, e1] at hK ⊢
       refine ⟨by rfl, ?_⟩
       go_simp
       refine ((HIT.out _ S3.k)).mono ?_
       rintro e wph4 ⟨rfl, hk4⟩
       exact hK _ _ ⟨hk4, rfl, by simp⟩
      | 3, _ =>
       refine step_yes [] rfl (by kernel_rfl) fun K hK => ?_
       simp only [frD] at hK ⊢
       refine ⟨by rfl, ?_⟩
       go_simp
       exact hK _ _ ⟨Below.refl _ _, rfl, by simp⟩
      | 4, _ =>
       have e3 : vs 3 = .pointer (some ⟨w.heap.size, 14, none⟩) := hd 3 (List.contains_iff_mem.1 (by kernel_rfl))
       refine step_yes [(3, some 63)] rfl (by kernel_rfl) fun K hK => ?_
       simp only [frD, e3] at hK ⊢
       refine ⟨by rfl, ?_⟩
       go_simp
       exact hK _ _ ⟨Below.refl _ _, rfl, by simp⟩
      | 5, _ =>
       refine step_yes [] rfl (by kernel_rfl) fun K hK => ?_
       simp only [frD] at hK ⊢
       refine ⟨by rfl, ?_⟩
       go_simp
       exact hK _ _ ⟨Below.refl _ _, rfl, by simp⟩
      | 6, _ =>
       have e4 : vs 4 = (.slice (some ⟨B', o, none⟩) s.rd.length c) := hd 4 (List.contains_iff_mem.1 (by kernel_rfl))
       have e5 : vs 5 = .int .i64 (k : Nat) := hd 5 (List.contains_iff_mem.1 (by kernel_rfl))
       refine step_yes [(4, some 64), (5, some 65)] rfl (by kernel_rfl) fun K hK => ?_
       simp only [frD, e4, e5] at hK ⊢
       refine ⟨by rfl, ?_⟩
       go_simp
       exact hK _ _ ⟨Below.refl _ _, rfl, by simp⟩
      | 7, _ =>
       have e6 : vs 6 = .pointer (some (⟨B', o + k * 4, none⟩ : Addr)) := hd 6 (List.contains_iff_mem.1 (by kernel_rfl))
       refine step_yes [(6, some 66)] rfl (by kernel_rfl) fun K hK => ?_
       simp only [frD, e6] at hK ⊢
       refine ⟨by rfl, ?_⟩
       go_simp
       exact hK _ _ ⟨Below.refl _ _, rfl, by simp⟩
      | 8, _ =>
       have e2 : vs 2 = .string ⟨(IT).toArray⟩ := hd 2 (List.contains_iff_mem.1 (by kernel_rfl))
       have e7 : vs 7 = (.agg #[.bool bx, .slice Ax nx cx, .bool dx, .slice Bx mx ex]) := hd 7 (List.contains_iff_mem.1 (by kernel_rfl))
       refine step_yes [(2, some 62), (7, some 67)] rfl (by kernel_rfl) fun K hK => ?_
       simp only [frD, e2, e7] at hK ⊢
       refine ⟨by rfl, ?_⟩
       go_simp
       refine ((HFX.out _ S3.k)).mono ?_
       rintro e wph4 ⟨rfl, hk4⟩
       exact hK _ _ ⟨hk4, rfl, by simp⟩
      | 9, _ =>
       refine step_yes [] rfl (by kernel_rfl) fun K hK => ?_
       simp only [frD] at hK ⊢
       refine ⟨by rfl, ?_⟩
       go_simp
       exact hK _ _ ⟨Below.refl _ _, rfl, by simp⟩
      | 10, _ =>
       have e9 : vs 9 = .pointer (some ⟨w.heap.size, 15, none⟩) := hd 9 (List.contains_iff_mem.1 (by kernel_rfl))
       refine step_yes [(9, some 69)] rfl (by kernel_rfl) fun K hK => ?_
       simp only [frD, e9] at hK ⊢
       refine ⟨by rfl, ?_⟩
       go_simp
       exact hK _ _ ⟨Below.refl _ _, rfl, by simp⟩
      | 11, _ =>
       refine step_yes [] rfl (by kernel_rfl) fun K hK => ?_
       simp only [frD] at hK ⊢
       refine ⟨by rfl, ?_⟩
       go_simp
       exact hK _ _ ⟨Below.refl _ _, rfl, by simp⟩
      | 12, _ =>
       have e10 : vs 10 = (.slice (some ⟨By, oy, none⟩) s.sx.length d) := hd 10 (List.contains_iff_mem.1 (by kernel_rfl))
       have e11 : vs 11 = .int .i64 (k : Nat) := hd 11 (List.contains_iff_mem.1 (by kernel_rfl))
       refine step_yes [(10, some 70), (11, some 71)] rfl (by kernel_rfl) fun K hK => ?_
       simp only [frD, e10, e11] at hK ⊢
       refine ⟨by rfl, ?_⟩
       go_simp
       exact hK _ _ ⟨Below.refl _ _, rfl, by simp⟩
      | 13, _ =>
       have e12 : vs 12 = .pointer (some (⟨By, oy + k * 4, none⟩ : Addr)) := hd 12 (List.contains_iff_mem.1 (by kernel_rfl))
       refine step_yes [(12, some 72)] rfl (by kernel_rfl) fun K hK => ?_
       simp only [frD, e12] at hK ⊢
       refine ⟨by rfl, ?_⟩
       go_simp
       exact hK _ _ ⟨Below.refl _ _, rfl, by simp⟩
      | 14, _ =>
       have e8 : vs 8 = .string ⟨(FX).toArray⟩ := hd 8 (List.contains_iff_mem.1 (by kernel_rfl))
       have e13 : vs 13 = (.agg #[.bool by', .slice Ay ny cy, .bool dy, .slice Bz my ey]) := hd 13 (List.contains_iff_mem.1 (by kernel_rfl))
       refine step_yes [(8, some 68), (13, some 73)] rfl (by kernel_rfl) fun K hK => ?_
       simp only [frD, e8, e13] at hK ⊢
       refine ⟨by rfl, ?_⟩
       go_simp
       refine ((HFY.out _ S3.k)).mono ?_
       rintro e wph4 ⟨rfl, hk4⟩
       exact hK _ _ ⟨hk4, rfl, by simp⟩
      | 15, _ =>
       have e2 : vs 2 = .string ⟨(IT).toArray⟩ := hd 2 (List.contains_iff_mem.1 (by kernel_rfl))
       have e8 : vs 8 = .string ⟨(FX).toArray⟩ := hd 8 (List.contains_iff_mem.1 (by kernel_rfl))
       have e14 : vs 14 = .string ⟨(FY).toArray⟩ := hd 14 (List.contains_iff_mem.1 (by kernel_rfl))
       refine step_yes [(2, some 62), (8, some 68), (14, some 74)] rfl (by kernel_rfl) fun K hK => ?_
       simp only [frD, e2, e8, e14] at hK ⊢
       refine ⟨by rfl, ?_⟩
       go_simp
       exact hK _ _ ⟨bl.alloc (Nat.le_refl _) _, ⟨_, rfl, hk3.size, Own.new wph3 9 ([[114, 111, 119], IT, FX, FY].map strV)⟩, by simp⟩
      | i + 16, hi => exact absurd hi (by omega)
     ·intro vs wph3 hk3 hΦ _
      simp only [List.drop_succ_cons, List.drop_zero]
      rw [fr_frD, show (List.range 16).map _ = [(0, some 60), (1, some 61), (2, some 62), (3, some 63), (4, some 64), (5, some 65), (6, some 66), (7, some 67), (8, some 68), (9, some 69), (10, some 70), (11, some 71), (12, some 72), (13, some 73), (14, some 74), (15, some 75)] by kernel_rfl]
      have ph0 := hΦ 0 (by omega)
      have ph1 := hΦ 1 (by omega)
      have ph2 := hΦ 2 (by omega)
      have ph3 := hΦ 3 (by omega)
      have ph4 := hΦ 4 (by omega)
      have ph5 := hΦ 5 (by omega)
      have ph6 := hΦ 6 (by omega)
      have ph7 := hΦ 7 (by omega)
      have ph8 := hΦ 8 (by omega)
      have ph9 := hΦ 9 (by omega)
      have ph10 := hΦ 10 (by omega)
      have ph11 := hΦ 11 (by omega)
      have ph12 := hΦ 12 (by omega)
      have ph13 := hΦ 13 (by omega)
      have ph14 := hΦ 14 (by omega)
      have ph15 := hΦ 15 (by omega)
      simp only [lt13Φ] at ph0 ph1 ph2 ph3 ph4 ph5 ph6 ph7 ph8 ph9 ph10 ph11 ph12 ph13 ph14 ph15
      clear hΦ
      simp only [frD, ph0, ph1, ph2, ph3, ph4, ph5, ph6, ph7, ph8, ph9, ph10, ph11, ph12, ph13, ph14]
      simp only [Act.put, List.setIfInBounds_toArray, List.set_cons_zero, List.set_cons_succ]
      clear ph0
      clear ph1
      clear ph2
      clear ph3
      clear ph4
      clear ph5
      clear ph6
      clear ph7
      clear ph8
      clear ph9
      clear ph10
      clear ph11
      clear ph12
      clear ph13
      clear ph14
      generalize vs 15 = U15 at ph15 ⊢
      obtain ⟨gq, q11, l11, o11⟩ := ph15
      subst q11
      replace S := S.drew.below hk3
      have hb := HB6.out.below ((Below.drew (Below.refl _ W6)).trans hk3)
      clear l11 hk3
      go_wp2_with fail
      refine (tline_at (xs := [[114, 111, 119], IT, FX, FY]) HP.out hb o11 (by simp) (by rw [join4, List.length_append]; simp only [List.length_cons, List.length_nil]; omega)).mono ?_
      rintro e W8 ⟨rfl, hb5, h8⟩
      replace S := S.keep8 h8 hb5 HK0.out (HPB.out _)
      clear hb h8 o11 HB6
      go_wp2
      go_roundw
      case rel => exact ⟨k + 1, by omega, by go_num, by rw [HR1.out, ← List.append_assoc]; exact hb5, S⟩
      case measure => simp [intOf]; omega
    ·have hkI : ¬ (k : Int) < s.rd.length := by omega
     have t1 : decide ((k : Int) < (s.rd.length : Int)) = false := decide_eq_false hkI
     obtain rfl : k = s.rd.length := by omega
     have x16 := S.c 1 16 rfl rfl
     obtain ⟨w1', w2'⟩ := hwo
     have hl3 := Lib.itoa_length_le _ w1' w2'
     have hpt := HT.out.keep S.k
     have HST : Hid (topT s ++ rowsT s s.rd.length ++ lineT [[119, 111, 114, 115, 116], Lib.itoa s.wo] = sumT s) := Lib.hid rfl
     have HIW := Lib.hid (fun (u : World) (hu : PowTab u) => itoa8 s.wo w1' w2' hu)
     obtain ⟨IT, hIT⟩ : ∃ T, Lib.itoa s.wo = T := ⟨_, rfl⟩
     rw [hIT] at hl3 HST HIW
     have HB := Lib.hid hb
     clear hIT hb
     go_wp2_with fail
     refine (HIW.out _ hpt).mono ?_
     rintro e W6 ⟨rfl, hk3⟩
     replace S := S.below hk3
     have hb := HB.out.below hk3
     clear hk3 x16 hpt HB
     go_wp2_with fail
     (have hkA : Keeps W6 (W6.alloc (.cells ([[119, 111, 114, 115, 116], IT].map strV).toArray 9)) := box2 W6 _); (have hOA : Own (W6.alloc (.cells ([[119, 111, 114, 115, 116], IT].map strV).toArray 9)) W6.heap.size 9 ([[119, 111, 114, 115, 116], IT].map strV) := Own.new W6 _ _); (refine (tline_at (xs := [[119, 111, 114, 115, 116], IT]) HP.out (hb.below hkA) hOA (by simp) (by rw [join2, List.length_append]; simp only [List.length_cons, List.length_nil]; omega)).mono ?_); rintro e W8 ⟨rfl, hb5, h8⟩; (replace S := (S.below hkA).keep8 h8 hb5 HK0.out (HPB.out _)); clear hkA hOA h8 hb
     rw [HST.out] at hb5
     go_wp2_with fail
     refine (bd_out_at HP.out hb5).mono ?_
     rintro e W9 ⟨rfl, hk9⟩
     go_wp2
     go_ret
     exact ⟨rfl, HK0.out.trans' hk9⟩
end Go.Proofs.YtgcigdahjabimaaGreatDoor
