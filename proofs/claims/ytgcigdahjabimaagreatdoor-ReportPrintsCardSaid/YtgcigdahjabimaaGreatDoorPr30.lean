/- report.printed's lines, heads: the walks. -/
import Derived.Test.YtgcigdahjabimaaGreatDoorPr28
import Derived.Test.YtgcigdahjabimaaGreatDoorPr9
import Derived.Test.YtgcigdahjabimaaGreatDoorPr29
namespace Go.Proofs.YtgcigdahjabimaaGreatDoor
open Go.RowKit Go.Shelf
abbrev strV (x : List UInt8) : Value := .string ⟨x.toArray⟩
def lineT (xs : List (List UInt8)) : List UInt8 := Lib.join xs [32] ++ [10]
theorem join_any {w : World} {g : Nat} {xs : List (List UInt8)} (hO : Own w g 9 (xs.map strV)) (hn : xs.length ≤ 100) (hl : (Lib.join xs [32]).length ≤ 1000000000) :
 Calls Tryz.prog 79 #[.slice (some ⟨g, 0, none⟩) xs.length xs.length, .string ⟨#[32]⟩] w fun e w' => e = .returned (.string ⟨(Lib.join xs [32]).toArray⟩) ∧ Keeps w w' := by
 have e1 : (xs.map fun x => (⟨x.toArray⟩ : ByteArray)).map (·.data.toList) = xs := by rw [List.map_map]; simp [Function.comp_def]
 have h := Tryz.strings_Join g 0 xs.length (xs.map fun x => (⟨x.toArray⟩ : ByteArray)) ⟨#[32]⟩ w (fun j x hj => by
  rw [Nat.zero_add, hO.cell]
  rw [List.getElem?_map] at hj ⊢
  obtain ⟨y, hy, rfl⟩ := Option.map_eq_some_iff.1 hj
  rw [hy]
  rfl) hO.lt (by rw [List.length_map]; omega) (by rw [List.length_map]; exact Nat.le_refl _) (by rw [e1]; exact Nat.le_trans hl (by omega))
 rw [e1, List.length_map] at h
 exact h
set_option maxRecDepth 100000 in
theorem line_any {w1 w : World} {l : List UInt8} {g : Nat} {xs : List (List UInt8)} (hb : Bd w1 l w) (hO : Own w g 9 (xs.map strV)) (hn : xs.length ≤ 100) (hl : l.length + (Lib.join xs [32]).length ≤ 900000000) :
 Calls Tryz.prog 113 #[.slice (some ⟨g, 0, none⟩) xs.length xs.length, .pointer (some ⟨w1.heap.size, 0, none⟩)] w fun e w' => e = .returned (.tuple #[]) ∧ Bd w1 (l ++ lineT xs) w' ∧ Keep8 w1.heap.size w w' := by
 have HJ := Lib.hid (join_any hO hn (by omega))
 have HB := Lib.hid hb
 obtain ⟨T, hT⟩ : ∃ T, Lib.join xs [32] = T := ⟨_, rfl⟩
 have HT : Hid (l ++ lineT xs = l ++ T ++ [10]) := Lib.hid (by unfold lineT; rw [hT, List.append_assoc])
 rw [hT] at HJ hl
 clear hO hb hT
 go_enter Tryz.func113, Tryz.ntmps113
 go_wp2_with fail
 refine HJ.out.mono ?_
 rintro e w2 ⟨rfl, hk⟩
 have hb2 := HB.out.below hk
 have HK := Lib.hid hk
 clear hk
 go_wp2_with fail
 refine (bd_string8 T hb2 (by omega) (by omega)).mono ?_
 rintro e w3 ⟨rfl, hb3, h83⟩
 have H83 := Lib.hid h83
 clear h83 hb2
 go_wp2_with fail
 refine (bd_byte8 10 hb3 (by rw [List.length_append]; omega)).mono ?_
 rintro e w4 ⟨rfl, hb4, h84⟩
 go_wp2
 go_end0
 exact ⟨rfl, by rw [HT.out]; exact hb4, ((Keep8.keeps HK.out).trans H83.out).trans h84⟩
def wordsL : List (List UInt8) := [[100, 105, 109], [115, 116, 97, 116, 105, 111, 110, 115], [112, 111, 105, 110, 116, 115], [114, 111, 119, 115], [102, 114, 101, 101], [114, 97, 110, 107]]
def ptrL (b : Nat) : List Value := [.pointer (some ⟨b, 0, none⟩), .pointer (some ⟨b, 1, none⟩), .pointer (some ⟨b, 2, none⟩), .pointer (some ⟨b, 3, none⟩), .pointer (some ⟨b, 4, none⟩), .pointer (some ⟨b, 5, none⟩)]
def hd1Φ (b n0 : Nat) : Nat → Value → World → Prop
 | 0, v, w => ∃ g, v = .slice (some ⟨g, 0, none⟩) 6 6 ∧ n0 ≤ g ∧ Own w g 9 (wordsL.map strV)
 | 1, v, _ => v = .pointer (some ⟨b, 0, none⟩)
 | 2, v, _ => v = .pointer (some ⟨b, 0, none⟩)
 | 3, v, _ => v = .pointer (some ⟨b, 0, none⟩)
 | 4, v, _ => v = .pointer (some ⟨b, 0, none⟩)
 | 5, v, _ => v = .pointer (some ⟨b, 0, none⟩)
 | 6, v, _ => v = .pointer (some ⟨b, 1, none⟩)
 | 7, v, _ => v = .pointer (some ⟨b, 0, none⟩)
 | 8, v, _ => v = .pointer (some ⟨b, 0, none⟩)
 | 9, v, _ => v = .pointer (some ⟨b, 2, none⟩)
 | 10, v, _ => v = .pointer (some ⟨b, 0, none⟩)
 | 11, v, _ => v = .pointer (some ⟨b, 0, none⟩)
 | 12, v, _ => v = .pointer (some ⟨b, 3, none⟩)
 | 13, v, _ => v = .pointer (some ⟨b, 0, none⟩)
 | 14, v, _ => v = .pointer (some ⟨b, 0, none⟩)
 | 15, v, _ => v = .pointer (some ⟨b, 4, none⟩)
 | 16, v, _ => v = .pointer (some ⟨b, 0, none⟩)
 | 17, v, _ => v = .pointer (some ⟨b, 0, none⟩)
 | 18, v, _ => v = .pointer (some ⟨b, 5, none⟩)
 | 19, v, w => ∃ g, v = .slice (some ⟨g, 0, none⟩) 6 6 ∧ n0 ≤ g ∧ Own w g 92 (ptrL b)
 | 20, v, w => ∃ g, v = .slice (some ⟨g, 0, none⟩) 6 6 ∧ n0 ≤ g ∧ Own w g 9 (wordsL.map strV)
 | _, _, _ => True
set_option maxRecDepth 100000 in
set_option maxHeartbeats 1000000 in
theorem heads_any {w : World} {b : Nat} :
 Calls Tryz.prog 74 #[.pointer (some ⟨b, 0, none⟩)] w fun e w' => ∃ g h, e = .returned (.tuple #[.slice (some ⟨g, 0, none⟩) 6 6, .slice (some ⟨h, 0, none⟩) 6 6]) ∧ w.heap.size ≤ g ∧ w.heap.size ≤ h ∧ g ≠ h ∧ Own w' g 9 (wordsL.map strV) ∧ Own w' h 92 (ptrL b) ∧ Keeps w w' := by
 go_enter Tryz.func74, Tryz.ntmps74
 go_upto_region 1 with fail
 refine wp_region_steps (m := 21) rfl (by kernel_rfl) (hd1Φ b w.heap.size) [] ?_ ?_ ?_
 ·intro i v w w' hi h hk
  match i, hi with
  | 1, _ | 2, _ | 3, _ | 4, _ | 5, _ | 6, _ | 7, _ | 8, _ | 9, _ | 10, _ | 11, _ | 12, _ | 13, _ | 14, _ | 15, _ | 16, _ | 17, _ | 18, _ => exact h
  | 0, _ => exact h.elim fun g ⟨h1, h2, h3⟩ => ⟨g, h1, h2, h3.below hk⟩
  | 19, _ => exact h.elim fun g ⟨h1, h2, h3⟩ => ⟨g, h1, h2, h3.below hk⟩
  | 20, _ => exact h.elim fun g ⟨h1, h2, h3⟩ => ⟨g, h1, h2, h3.below hk⟩
  | i + 21, hi => exact absurd hi (by omega)
 ·intro i hi vs wph3 hk3 hd
  match i, hi with
  | 0, _ =>
   refine step_yes [] rfl (by kernel_rfl) fun K hK => ?_
   simp only [frD] at hK ⊢
   refine ⟨by rfl, ?_⟩
   go_simp
   exact hK _ _ ⟨bl.alloc (Nat.le_refl _) _, ⟨_, rfl, hk3.size, Own.new wph3 9 (wordsL.map strV)⟩, by simp⟩
  | 1, _ =>
   refine step_yes [] rfl (by kernel_rfl) fun K hK => ?_
   simp only [frD] at hK ⊢
   refine ⟨by rfl, ?_⟩
   go_simp
   exact hK _ _ ⟨Below.refl _ _, rfl, by simp⟩
  | 2, _ =>
   have e1 : vs 1 = .pointer (some ⟨b, 0, none⟩) := hd 1 (List.contains_iff_mem.1 (by kernel_rfl))
   refine step_yes [(1, some 5)] rfl (by kernel_rfl) fun K hK => ?_
   simp only [frD, e1] at hK ⊢
   refine ⟨by rfl, ?_⟩
   go_simp
   exact hK _ _ ⟨Below.refl _ _, rfl, by simp⟩
  | 3, _ =>
   have e2 : vs 2 = .pointer (some ⟨b, 0, none⟩) := hd 2 (List.contains_iff_mem.1 (by kernel_rfl))
   refine step_yes [(2, some 6)] rfl (by kernel_rfl) fun K hK => ?_
   simp only [frD, e2] at hK ⊢
   refine ⟨by rfl, ?_⟩
   go_simp
   exact hK _ _ ⟨Below.refl _ _, rfl, by simp⟩
  | 4, _ =>
   refine step_yes [] rfl (by kernel_rfl) fun K hK => ?_
   simp only [frD] at hK ⊢
   refine ⟨by rfl, ?_⟩
   go_simp
   exact hK _ _ ⟨Below.refl _ _, rfl, by simp⟩
  | 5, _ =>
   have e4 : vs 4 = .pointer (some ⟨b, 0, none⟩) := hd 4 (List.contains_iff_mem.1 (by kernel_rfl))
   refine step_yes [(4, some 8)] rfl (by kernel_rfl) fun K hK => ?_
   simp only [frD, e4] at hK ⊢
   refine ⟨by rfl, ?_⟩
   go_simp
   exact hK _ _ ⟨Below.refl _ _, rfl, by simp⟩
  | 6, _ =>
   have e5 : vs 5 = .pointer (some ⟨b, 0, none⟩) := hd 5 (List.contains_iff_mem.1 (by kernel_rfl))
   refine step_yes [(5, some 9)] rfl (by kernel_rfl) fun K hK => ?_
   simp only [frD, e5] at hK ⊢
   refine ⟨by rfl, ?_⟩
   go_simp
   exact hK _ _ ⟨Below.refl _ _, rfl, by simp⟩
  | 7, _ =>
   refine step_yes [] rfl (by kernel_rfl) fun K hK => ?_
   simp only [frD] at hK ⊢
   refine ⟨by rfl, ?_⟩
   go_simp
   exact hK _ _ ⟨Below.refl _ _, rfl, by simp⟩
  | 8, _ =>
   have e7 : vs 7 = .pointer (some ⟨b, 0, none⟩) := hd 7 (List.contains_iff_mem.1 (by kernel_rfl))
   refine step_yes [(7, some 11)] rfl (by kernel_rfl) fun K hK => ?_
   simp only [frD, e7] at hK ⊢
   refine ⟨by rfl, ?_⟩
   go_simp
   exact hK _ _ ⟨Below.refl _ _, rfl, by simp⟩
  | 9, _ =>
   have e8 : vs 8 = .pointer (some ⟨b, 0, none⟩) := hd 8 (List.contains_iff_mem.1 (by kernel_rfl))
   refine step_yes [(8, some 12)] rfl (by kernel_rfl) fun K hK => ?_
   simp only [frD, e8] at hK ⊢
   refine ⟨by rfl, ?_⟩
   go_simp
   exact hK _ _ ⟨Below.refl _ _, rfl, by simp⟩
  | 10, _ =>
   refine step_yes [] rfl (by kernel_rfl) fun K hK => ?_
   simp only [frD] at hK ⊢
   refine ⟨by rfl, ?_⟩
   go_simp
   exact hK _ _ ⟨Below.refl _ _, rfl, by simp⟩
  | 11, _ =>
   have e10 : vs 10 = .pointer (some ⟨b, 0, none⟩) := hd 10 (List.contains_iff_mem.1 (by kernel_rfl))
   refine step_yes [(10, some 14)] rfl (by kernel_rfl) fun K hK => ?_
   simp only [frD, e10] at hK ⊢
   refine ⟨by rfl, ?_⟩
   go_simp
   exact hK _ _ ⟨Below.refl _ _, rfl, by simp⟩
  | 12, _ =>
   have e11 : vs 11 = .pointer (some ⟨b, 0, none⟩) := hd 11 (List.contains_iff_mem.1 (by kernel_rfl))
   refine step_yes [(11, some 15)] rfl (by kernel_rfl) fun K hK => ?_
   simp only [frD, e11] at hK ⊢
   refine ⟨by rfl, ?_⟩
   go_simp
   exact hK _ _ ⟨Below.refl _ _, rfl, by simp⟩
  | 13, _ =>
   refine step_yes [] rfl (by kernel_rfl) fun K hK => ?_
   simp only [frD] at hK ⊢
   refine ⟨by rfl, ?_⟩
   go_simp
   exact hK _ _ ⟨Below.refl _ _, rfl, by simp⟩
  | 14, _ =>
   have e13 : vs 13 = .pointer (some ⟨b, 0, none⟩) := hd 13 (List.contains_iff_mem.1 (by kernel_rfl))
   refine step_yes [(13, some 17)] rfl (by kernel_rfl) fun K hK => ?_
   simp only [frD, e13] at hK ⊢
   refine ⟨by rfl, ?_⟩
   go_simp
   exact hK _ _ ⟨Below.refl _ _, rfl, by simp⟩
  | 15, _ =>
   have e14 : vs 14 = .pointer (some ⟨b, 0, none⟩) := hd 14 (List.contains_iff_mem.1 (by kernel_rfl))
   refine step_yes [(14, some 18)] rfl (by kernel_rfl) fun K hK => ?_
   simp only [frD, e14] at hK ⊢
   refine ⟨by rfl, ?_⟩
   go_simp
   exact hK _ _ ⟨Below.refl _ _, rfl, by simp⟩
  | 16, _ =>
   refine step_yes [] rfl (by kernel_rfl) fun K hK => ?_
   simp only [frD] at hK ⊢
   refine ⟨by rfl, ?_⟩
   go_simp
   exact hK _ _ ⟨Below.refl _ _, rfl, by simp⟩
  | 17, _ =>
   have e16 : vs 16 = .pointer (some ⟨b, 0, none⟩) := hd 16 (List.contains_iff_mem.1 (by kernel_rfl))
   refine step_yes [(16, some 20)] rfl (by kernel_rfl) fun K hK => ?_
   simp only [frD, e16] at hK ⊢
   refine ⟨by rfl, ?_⟩
   go_simp
   exact hK _ _ ⟨Below.refl _ _, rfl, by simp⟩
  | 18, _ =>
   have e17 : vs 17 = .pointer (some ⟨b, 0, none⟩) := hd 17 (List.contains_iff_mem.1 (by kernel_rfl))
   refine step_yes [(17, some 21)] rfl (by kernel_rfl) fun K hK => ?_
   simp only [frD, e17] at hK ⊢
   refine ⟨by rfl, ?_⟩
   go_simp
   exact hK _ _ ⟨Below.refl _ _, rfl, by simp⟩
  | 19, _ =>
   have e3 : vs 3 = .pointer (some ⟨b, 0, none⟩) := hd 3 (List.contains_iff_mem.1 (by kernel_rfl))
   have e6 : vs 6 = .pointer (some ⟨b, 1, none⟩) := hd 6 (List.contains_iff_mem.1 (by kernel_rfl))
   have e9 : vs 9 = .pointer (some ⟨b, 2, none⟩) := hd 9 (List.contains_iff_mem.1 (by kernel_rfl))
   have e12 : vs 12 = .pointer (some ⟨b, 3, none⟩) := hd 12 (List.contains_iff_mem.1 (by kernel_rfl))
   have e15 : vs 15 = .pointer (some ⟨b, 4, none⟩) := hd 15 (List.contains_iff_mem.1 (by kernel_rfl))
   have e18 : vs 18 = .pointer (some ⟨b, 5, none⟩) := hd 18 (List.contains_iff_mem.1 (by kernel_rfl))
   refine step_yes [(3, some 7), (6, some 10), (9, some 13), (12, some 16), (15, some 19), (18, some 22)] rfl (by kernel_rfl) fun K hK => ?_
   simp only [frD, e3, e6, e9, e12, e15, e18] at hK ⊢
   refine ⟨by rfl, ?_⟩
   go_simp
   exact hK _ _ ⟨bl.alloc (Nat.le_refl _) _, ⟨_, rfl, hk3.size, Own.new wph3 92 (ptrL b)⟩, by simp⟩
  | 20, _ =>
   have h0 : ∃ g, (vs 0) = .slice (some ⟨g, 0, none⟩) 6 6 ∧ w.heap.size ≤ g ∧ Own wph3 g 9 (wordsL.map strV) := hd 0 (List.contains_iff_mem.1 (by kernel_rfl))
   obtain ⟨g9, q9, l9, o9⟩ := h0
   refine step_yes [(0, some 4)] rfl (by kernel_rfl) fun K hK => ?_
   simp only [frD, q9] at hK ⊢
   refine ⟨by rfl, ?_⟩
   go_simp
   exact hK _ _ ⟨Below.refl _ _, ⟨_, rfl, l9, o9⟩, by simp⟩
  | i + 21, hi => exact absurd hi (by omega)
 ·intro vs wph3 hk3 hΦ _
  simp only [List.drop_succ_cons, List.drop_zero]
  rw [fr_frD, show (List.range 21).map _ = [(0, some 4), (1, some 5), (2, some 6), (3, some 7), (4, some 8), (5, some 9), (6, some 10), (7, some 11), (8, some 12), (9, some 13), (10, some 14), (11, some 15), (12, some 16), (13, some 17), (14, some 18), (15, some 19), (16, some 20), (17, some 21), (18, some 22), (19, some 23), (20, some 2)] by kernel_rfl]
  have ph0 := hΦ 0 (by omega)
  have ph1 := hΦ 1 (by omega)
  have ph2 := hΦ 2 (by omega)
  have ph3 := hΦ 3 (by omega)
  have ph4 := hΦ 4 (by omega)
  have ph5 := hΦ 5 (by omega)
  have ph6 := hΦ 6 (by omega)
  have ph7 := hΦ 7 (by omega)
  have ph8 := hΦ 8 (by omega)
  have ph9 := hΦ 9 (by omega)
  have ph10 := hΦ 10 (by omega)
  have ph11 := hΦ 11 (by omega)
  have ph12 := hΦ 12 (by omega)
  have ph13 := hΦ 13 (by omega)
  have ph14 := hΦ 14 (by omega)
  have ph15 := hΦ 15 (by omega)
  have ph16 := hΦ 16 (by omega)
  have ph17 := hΦ 17 (by omega)
  have ph18 := hΦ 18 (by omega)
  have ph19 := hΦ 19 (by omega)
  have ph20 := hΦ 20 (by omega)
  simp only [hd1Φ] at ph0 ph1 ph2 ph3 ph4 ph5 ph6 ph7 ph8 ph9 ph10 ph11 ph12 ph13 ph14 ph15 ph16 ph17 ph18 ph19 ph20
  clear hΦ
  simp only [frD, ph1, ph2, ph3, ph4, ph5, ph6, ph7, ph8, ph9, ph10, ph11, ph12, ph13, ph14, ph15, ph16, ph17, ph18]
  simp only [Act.put, List.setIfInBounds_toArray, List.set_cons_zero, List.set_cons_succ]
  generalize vs 0 = U0 at ph0 ⊢
  clear ph1
  clear ph2
  clear ph3
  clear ph4
  clear ph5
  clear ph6
  clear ph7
  clear ph8
  clear ph9
  clear ph10
  clear ph11
  clear ph12
  clear ph13
  clear ph14
  clear ph15
  clear ph16
  clear ph17
  clear ph18
  generalize vs 19 = U19 at ph19 ⊢
  generalize vs 20 = U20 at ph20 ⊢
  obtain ⟨h, q19, l19, o19⟩ := ph19
  obtain ⟨g, q20, l20, o20⟩ := ph20
  subst q19 q20
  go_wp2
  go_ret2
  refine ⟨g, h, rfl, l20, l19, ?_, o20, o19, (Below.drew bl).trans hk3⟩
  rintro rfl
  have h1 : wph3.heap[g]? = some (.cells (wordsL.map strV).toArray 9 (0, 0)) := o20
  have h2 : wph3.heap[g]? = some (.cells (ptrL b).toArray 92 (0, 0)) := o19
  rw [h1] at h2
  simp only [Option.some.injEq, Obj.cells.injEq] at h2
  exact absurd h2.2.1 (by decide)
end Go.Proofs.YtgcigdahjabimaaGreatDoor
