/- The walks of strings.Builder's copyCheck, WriteByte, WriteString: as the shelf's proofs go, at this dump (its panic branch is refused by the loader, so the shelf does not lay them). The walk of fraction.Decimal. The walk of fraction.Root. The walks of fiducialref02.reduced, New, Of. The walks of fiducialref02.New, Of. -/
import Derived.Test.YtgcigdahjabimaaGreatDoorPr3
import Derived.Test.YtgcigdahjabimaaGreatDoorPr4
import Derived.Test.YtgcigdahjabimaaGreatDoorPr1
import Derived.Test.YtgcigdahjabimaaGreatDoorPr9
import Derived.Shelf.Strings.Builder1
import Derived.Test.YtgcigdahjabimaaGreatDoorPr21
import Derived.Test.YtgcigdahjabimaaGreatDoorPr22
import Derived.Test.YtgcigdahjabimaaGreatDoorPr23
namespace Go.Proofs.YtgcigdahjabimaaGreatDoor
open Go.RowKit Go.Shelf

theorem info_bld : (Tryz.prog.info? 101).map (·.size) = some 2 := by kernel_rfl
theorem lies_bld : liesAt Tryz.prog Tryz.prog.depth 101 (2 / Tryz.prog.cellsOf 101) 0 101 1 = true := by kernel_rfl
theorem info_u8 : (Tryz.prog.info? 5).map (fun i => (i.zero, i.size, i.bytes)) = some (some (.int .u8 0), 1, 1) := by kernel_rfl
set_option maxHeartbeats 1000000 in
set_option maxRecDepth 100000 in
theorem bcheck_used (b : Nat) (w : World) (h0 : w.cell? ⟨b, 0, none⟩ = some (.pointer (some ⟨b, 0, none⟩))) :
 Calls Tryz.prog 121 #[.pointer (some ⟨b, 0, none⟩)] w fun e w' => e = .returned (.tuple #[]) ∧ w' = w := by
 obtain ⟨j, hj, -⟩ := Option.map_eq_some_iff.1 info_bld
 go_enter Tryz.func121, Tryz.ntmps121
 go_wp2
 rw [Lib.run_neq_ptr_same w _ Tryz.underlying98 hj]
 go_wp2
 go_end0
 exact ⟨rfl, rfl⟩
set_option maxHeartbeats 1000000 in
set_option maxRecDepth 100000 in
theorem bcheck_fresh (b : Nat) (w : World) (h0 : w.cell? ⟨b, 0, none⟩ = some (.pointer none)) (hsh : w.shape? b = some (101, 2)) (hfz : w.frozen? ⟨b, 0, none⟩ = false) :
 Calls Tryz.prog 121 #[.pointer (some ⟨b, 0, none⟩)] w fun e w' => e = .returned (.tuple #[]) ∧ w' = w.setCell ⟨b, 0, none⟩ (.pointer (some ⟨b, 0, none⟩)) := by
 obtain ⟨j, hj, hjs⟩ := Option.map_eq_some_iff.1 info_bld
 go_enter Tryz.func121, Tryz.ntmps121
 go_wp2
 rw [Lib.run_to_unsafe w ⟨b, 0, none⟩ Tryz.underlying98 Tryz.underlying164 hj (by rw [hjs]; decide) hsh (Nat.zero_lt_succ 1)]
 simp only [Result.andThen]
 rw [Oper.upon_value]
 go_wp2
 rw [run_callFunc_extern Tryz.func162 (by kernel_rfl) (by kernel_rfl) (by kernel_rfl) (e := Extern.AbiNoEscape.same) (by kernel_rfl)]
 rw [Lib.run_noEscape]
 simp only [Result.andThen]
 rw [Oper.upon_value]
 go_wp2
 rw [Lib.run_from_unsafe w ⟨b, 0, none⟩ Tryz.underlying164 Tryz.underlying98 hj hsh lies_bld]
 simp only [Result.andThen]
 rw [Oper.upon_value]
 go_wp2
 go_end0
 exact ⟨rfl, rfl⟩
structure Bd (w1 : World) (l : List UInt8) (w : World) : Prop where
 h : Lib.IsBuilder 101 5 w1.heap.size w1.heap.size (Lib.byteCells l) w
 k : Keeps w1 w
theorem Bd.new (w1 : World) : Bd w1 [] (w1.alloc (.cells #[.pointer none, .slice none 0 0] 101)) := by
 refine ⟨.inl ⟨Nat.le_refl _, _, Own.new w1 _ [.pointer none, .slice none 0 0], ⟨by simp [Lib.byteCells], .inl ⟨rfl, rfl⟩⟩, by simp [Value.ownBlock]⟩, ?_⟩
 exact bl.alloc (Nat.le_refl _) _
theorem bd_owns_keep {w w' : World} {base : Nat} {t : TypeId} {x : Value} {L : Nat} {xs : List Value} (h : w.ownsRow base t 1 x L xs) (hb : Keeps w w') : w'.ownsRow base t 1 x L xs := by
 refine ⟨h.1, h.2.imp id ?_⟩
 rintro ⟨g, cap, cur, e, h1, h2, h3⟩
 exact ⟨g, cap, cur, e, h1, (hb.block g ((Array.getElem?_eq_some_iff.1 h2).1)).trans h2, h3⟩
theorem Bd.below {w1 w w' : World} {l : List UInt8} (h : Bd w1 l w) (hk : Keeps w w') : Bd w1 l w' := by
 have go : ∀ p, Lib.BuilderAt 101 5 w1.heap.size w1.heap.size p (Lib.byteCells l) w → Lib.BuilderAt 101 5 w1.heap.size w1.heap.size p (Lib.byteCells l) w' := by
  rintro p ⟨hB, v, hb, ho, hn⟩
  exact ⟨hB, v, (hk.block _ ((Array.getElem?_eq_some_iff.1 hb).1)).trans hb, bd_owns_keep ho hk, hn⟩
 exact ⟨h.h.imp (go _) (go _), h.k.trans' hk⟩
theorem bd_out {w1 w : World} {l : List UInt8} (h : Bd w1 l w) :
 Calls Tryz.prog 82 #[.pointer (some ⟨w1.heap.size, 0, none⟩)] w fun e w' => e = .returned (.string ⟨l.toArray⟩) ∧ Keeps w1 w' := by
 refine (Tryz.Builder_String_any w1.heap.size w1.heap.size l w h.h h.k.size).mono ?_
 rintro e w' ⟨rfl, hk⟩
 exact ⟨rfl, h.k.trans hk⟩
section
variable {w0 w w' : World} {bs : List Bx} {ps : List (World → Prop)}
theorem IntNum4.map {V : Value} {z : Int} (h : IntNum4 w V z) (hs : Same32 w w') : IntNum4 w' V z := by
 obtain ⟨neg, xs, h, e, l⟩ := h
 exact ⟨neg, xs, h.map hs, e, l⟩
theorem IntNum4.below {V : Value} {z : Int} (h : IntNum4 w V z) (hk : Keeps w w') : IntNum4 w' V z := h.map hk.same32
theorem IntNum4.num {V : Value} {z : Int} (h : IntNum4 w V z) : IntNum w V z := by
 obtain ⟨neg, xs, h, e, l⟩ := h
 exact ⟨neg, xs, h, e, by omega⟩
theorem IntNum4.len {V : Value} {z : Int} (h : IntNum4 w V z) : lenI z ≤ 400000 := by
 obtain ⟨n, xs, -, rfl, l⟩ := h
 have := lenI_cnt n xs
 omega
theorem IntRep.num4 {V : Value} {z : Int} (h : IntRep w V z) (hl : lenI z ≤ 400000) : IntNum4 w V z := ⟨_, _, h.arg, cnt_rep z, hl⟩
theorem St.addM (S : St w0 w bs ps) {V : Value} {z : Int} (h : IntNum4 w V z) : St w0 w bs ((fun w => IntNum4 w V z) :: ps) := S.add (fun _ _ hs h => h.map hs) h
theorem St.mi (S : St w0 w bs ps) (i : Nat) {V : Value} {z : Int} (h : ps[i]? = some (fun w => IntNum4 w V z)) : IntNum4 w V z := S.p.get h
end
theorem gcd_ne' {a b : Int} (h : b ≠ 0) : ((Int.gcd a b : Nat) : Int) ≠ 0 := by
 have := Int.gcd_pos_of_ne_zero_right a h
 omega
theorem lenI_gcd' {a b : Int} (h : b ≠ 0) : lenI (Int.gcd a b : Nat) ≤ lenI b := by
 have := Int.gcd_le_natAbs_right (a := a) (b := b) h
 exact lenR_mono (by omega)
set_option maxRecDepth 100000 in
set_option maxHeartbeats 2000000 in
theorem greduced_num {w : World} {V1 V2 : Value} {a b : Int} (h1 : IntNum4 w V1 a) (h2 : IntNum4 w V2 b) (hb : b ≠ 0) : Calls Tryz.prog 52 #[V1, V2] w (RGives (Rat.divInt a b) w) := by
 have lb := h2.len
 obtain ⟨b1, A1, n1, c1, rfl⟩ := h1.num.open_
 obtain ⟨b2, A2, n2, c2, rfl⟩ := h2.num.open_
 have S := (((St.start w).alloc 29 [.bool b1, .slice A1 n1 c1]).alloc 29 [.bool b2, .slice A2 n2 c2]).alloc 31 [.bool false, .slice none 0 0, .bool false, .slice none 0 0]
 simp only [World.size_alloc] at S
 have hg0 := gcd_ne' (a := a) hb
 have lg := lenI_gcd' (a := a) hb
 have lg2 := lenI_neg (Int.gcd a b : Nat)
 have HGG := Lib.hid hg0
 clear hg0
 go_enter Tryz.func52, Tryz.ntmps52
 go_wp2_with fail
 generalize ((w.alloc (.cells #[.bool b1, .slice A1 n1 c1] 29)).alloc (.cells #[.bool b2, .slice A2 n2 c2] 29)).alloc (.cells #[.bool false, .slice none 0 0, .bool false, .slice none 0 0] 31) = W at *
 refine (rgcd_num (h1.num.below S.k) (h2.num.below S.k)).mono ?_
 rintro e W2 ⟨U, rfl, hg, hk⟩
 obtain ⟨bg, Ag, ng, cg, rfl⟩ := hg.open3
 have lt2 : w.heap.size + 1 + 1 < W2.heap.size := ((S.below hk).o 0 rfl).lt
 replace S := ((S.below hk).addM (hg.num4 (by omega))).alloc 29 [.bool bg, .slice Ag ng cg]
 clear hk hg
 go_upto_region 2 with fail
 generalize hB : W2.heap.size = B at *
 generalize hW : W2.alloc (.cells #[.bool bg, .slice Ag ng cg] 29) = W3 at *
 clear hW hB
 obtain ⟨r2_0, r2_1⟩ := S.cc2 2 rfl
 go_wp2_with fail
 rcases Int.lt_or_gt_of_ne hb with hb0 | hb0
 ·have HE1 := Lib.hid (red_ref (a := a) hb0).1
  have HE2 := Lib.hid (red_ref (a := a) hb0).2
  have HG0 := Lib.hid (show -((Int.gcd a b : Nat) : Int) ≠ 0 by have := HGG.out; omega)
  refine (rsign_s (h2.num.below S.k) (Int.sign_eq_neg_one_of_neg hb0)).mono ?_
  clear hb hb0
  rintro e W4 ⟨rfl, hk⟩
  replace S := S.below hk
  clear hk r2_0 r2_1
  obtain ⟨r0_0, r0_1⟩ := S.cc2 0 rfl
  go_wp2_with fail
  refine (rneg_num (S.mi 0 rfl).num).mono ?_
  rintro e W5 ⟨U, rfl, hg, hk⟩
  obtain ⟨bh, Ah, nh, ch, rfl⟩ := hg.open3
  replace S := (S.below hk).addM (hg.num4 (by omega))
  clear hk hg r0_0 r0_1
  obtain ⟨r0_0, r0_1⟩ := S.cc2 0 rfl
  obtain ⟨f0_0, f0_1⟩ := S.ff2 0 rfl
  go_upto_region 4 with fail
  replace S := S.put2 0 rfl rfl rfl (x' := .bool bh) (y' := .slice Ah nh ch)
  generalize (W5.setCell ⟨B, 0, none⟩ (.bool bh)).setCell ⟨B, 1, none⟩ (.slice Ah nh ch) = W6 at S ⊢
  clear r0_0 r0_1 f0_0 f0_1
  obtain ⟨r3_0, r3_1⟩ := S.cc2 3 rfl
  obtain ⟨r0_0, r0_1⟩ := S.cc2 0 rfl
  go_wp2_with fail
  refine (rdivide_num (h1.below S.k) (S.mi 0 rfl) HG0.out HE1.out).mono ?_
  rintro e W5 ⟨Q, R, rfl, hq, hr, hk⟩
  obtain ⟨bq, Aq, nq, cq, rfl⟩ := hq.open3
  obtain ⟨br, Ar, nr, cr, rfl⟩ := hr.open3
  replace S := (((S.below hk).addI hq).alloc 29 [.bool bq, .slice Aq nq cq]).alloc 29 [.bool br, .slice Ar nr cr]
  simp only [World.size_alloc] at S
  clear hk hq hr r3_0 r3_1 r0_0 r0_1
  go_upto_region 5 with fail
  generalize hB2 : W5.heap.size = B2 at *
  generalize hW : (W5.alloc (.cells #[.bool bq, .slice Aq nq cq] 29)).alloc (.cells #[.bool br, .slice Ar nr cr] 29) = W6 at *
  clear hB2 hW
  obtain ⟨r4_0, r4_1⟩ := S.cc2 4 rfl
  obtain ⟨r2_0, r2_1⟩ := S.cc2 2 rfl
  go_wp2_with fail
  refine (rdivide_num (h2.below S.k) (S.mi 1 rfl) HG0.out HE2.out).mono ?_
  rintro e W7 ⟨Q, R, rfl, hq, hr, hk⟩
  obtain ⟨bd, Ad, nd, cd, rfl⟩ := hq.open3
  obtain ⟨be, Ae, ne, ce, rfl⟩ := hr.open3
  replace S := (((S.below hk).addI hq).alloc 29 [.bool bd, .slice Ad nd cd]).alloc 29 [.bool be, .slice Ae ne ce]
  simp only [World.size_alloc] at S
  clear hk hq hr r4_0 r4_1 r2_0 r2_1
  go_upto_region 6 with fail
  generalize hB3 : W7.heap.size = B3 at *
  generalize hW : (W7.alloc (.cells #[.bool bd, .slice Ad nd cd] 29)).alloc (.cells #[.bool be, .slice Ae ne ce] 29) = W8 at *
  clear hB3 hW h1 h2
  obtain ⟨r3_0, r3_1⟩ := S.cc2 3 rfl
  obtain ⟨r1_0, r1_1⟩ := S.cc2 1 rfl
  obtain ⟨r5_0, r5_1, r5_2, r5_3⟩ := S.cc4 5 rfl
  obtain ⟨f5_0, f5_1, f5_2, f5_3⟩ := S.ff4 5 rfl
  go_wp2
  replace S := S.put4 5 rfl rfl rfl (x' := .bool bq) (y' := .slice Aq nq cq) (z' := .bool bd) (u' := .slice Ad nd cd)
  refine bodyPost_ret (v := .agg #[.bool bq, .slice Aq nq cq, .bool bd, .slice Ad nd cd]) (by simp [results, Tryz.results52, go_sem, S.c 5 0 rfl rfl, S.c 5 1 rfl rfl, S.c 5 2 rfl rfl, S.c 5 3 rfl rfl]) rfl ?_
  exact ⟨_, rfl, RatRep.mk (S.ii 1 rfl) (S.ii 0 rfl) rfl rfl, S.k⟩
 ·have HE1 := Lib.hid (red_pos (a := a) hb0).1
  have HE2 := Lib.hid (red_pos (a := a) hb0).2
  have HG0 := Lib.hid HGG.out
  refine (rsign_s (h2.num.below S.k) (Int.sign_eq_one_of_pos hb0)).mono ?_
  clear hb hb0
  rintro e W4 ⟨rfl, hk⟩
  replace S := S.below hk
  clear hk r2_0 r2_1
  obtain ⟨r3_0, r3_1⟩ := S.cc2 3 rfl
  obtain ⟨r0_0, r0_1⟩ := S.cc2 0 rfl
  go_wp2_with fail
  refine (rdivide_num (h1.below S.k) (S.mi 0 rfl) HG0.out HE1.out).mono ?_
  rintro e W5 ⟨Q, R, rfl, hq, hr, hk⟩
  obtain ⟨bq, Aq, nq, cq, rfl⟩ := hq.open3
  obtain ⟨br, Ar, nr, cr, rfl⟩ := hr.open3
  replace S := (((S.below hk).addI hq).alloc 29 [.bool bq, .slice Aq nq cq]).alloc 29 [.bool br, .slice Ar nr cr]
  simp only [World.size_alloc] at S
  clear hk hq hr r3_0 r3_1 r0_0 r0_1
  go_upto_region 5 with fail
  generalize hB2 : W5.heap.size = B2 at *
  generalize hW : (W5.alloc (.cells #[.bool bq, .slice Aq nq cq] 29)).alloc (.cells #[.bool br, .slice Ar nr cr] 29) = W6 at *
  clear hB2 hW
  obtain ⟨r4_0, r4_1⟩ := S.cc2 4 rfl
  obtain ⟨r2_0, r2_1⟩ := S.cc2 2 rfl
  go_wp2_with fail
  refine (rdivide_num (h2.below S.k) (S.mi 1 rfl) HG0.out HE2.out).mono ?_
  rintro e W7 ⟨Q, R, rfl, hq, hr, hk⟩
  obtain ⟨bd, Ad, nd, cd, rfl⟩ := hq.open3
  obtain ⟨be, Ae, ne, ce, rfl⟩ := hr.open3
  replace S := (((S.below hk).addI hq).alloc 29 [.bool bd, .slice Ad nd cd]).alloc 29 [.bool be, .slice Ae ne ce]
  simp only [World.size_alloc] at S
  clear hk hq hr r4_0 r4_1 r2_0 r2_1
  go_upto_region 6 with fail
  generalize hB3 : W7.heap.size = B3 at *
  generalize hW : (W7.alloc (.cells #[.bool bd, .slice Ad nd cd] 29)).alloc (.cells #[.bool be, .slice Ae ne ce] 29) = W8 at *
  clear hB3 hW h1 h2
  obtain ⟨r3_0, r3_1⟩ := S.cc2 3 rfl
  obtain ⟨r1_0, r1_1⟩ := S.cc2 1 rfl
  obtain ⟨r5_0, r5_1, r5_2, r5_3⟩ := S.cc4 5 rfl
  obtain ⟨f5_0, f5_1, f5_2, f5_3⟩ := S.ff4 5 rfl
  go_wp2
  replace S := S.put4 5 rfl rfl rfl (x' := .bool bq) (y' := .slice Aq nq cq) (z' := .bool bd) (u' := .slice Ad nd cd)
  refine bodyPost_ret (v := .agg #[.bool bq, .slice Aq nq cq, .bool bd, .slice Ad nd cd]) (by simp [results, Tryz.results52, go_sem, S.c 5 0 rfl rfl, S.c 5 1 rfl rfl, S.c 5 2 rfl rfl, S.c 5 3 rfl rfl]) rfl ?_
  exact ⟨_, rfl, RatRep.mk (S.ii 1 rfl) (S.ii 0 rfl) rfl rfl, S.k⟩
set_option maxRecDepth 100000 in
set_option maxHeartbeats 1000000 in
theorem gnew_num {w : World} {V1 V2 : Value} {a b : Int} (h1 : IntNum4 w V1 a) (h2 : IntNum4 w V2 b) : Calls Tryz.prog 83 #[V1, V2] w (RCode (newC b) (Rat.divInt a b) w) := by
 obtain ⟨b1, A1, n1, c1, rfl⟩ := h1.num.open_
 obtain ⟨b2, A2, n2, c2, rfl⟩ := h2.num.open_
 have S := (((St.start w).alloc 29 [.bool b1, .slice A1 n1 c1]).alloc 29 [.bool b2, .slice A2 n2 c2]).alloc 31 [.bool false, .slice none 0 0, .bool false, .slice none 0 0]
 simp only [World.size_alloc] at S
 go_enter Tryz.func83, Tryz.ntmps83
 go_wp2_with fail
 generalize ((w.alloc (.cells #[.bool b1, .slice A1 n1 c1] 29)).alloc (.cells #[.bool b2, .slice A2 n2 c2] 29)).alloc (.cells #[.bool false, .slice none 0 0, .bool false, .slice none 0 0] 31) = W at *
 by_cases hb0 : b = 0
 ·have hs : b.sign = 0 := by rw [hb0]; rfl
  have HC := Lib.hid (show newC b = 14 from if_pos hb0)
  clear hb0
  refine (rsign_s (h2.num.below S.k) hs).mono ?_
  rintro e W5 ⟨rfl, hk⟩
  replace S := S.below hk
  clear hk hs h1 h2
  obtain ⟨r0_0, r0_1, r0_2, r0_3⟩ := S.cc4 0 rfl
  obtain ⟨f0_0, f0_1, f0_2, f0_3⟩ := S.ff4 0 rfl
  go_wp2
  replace S := S.put4 0 rfl rfl rfl (x' := .bool false) (y' := .slice none 0 0) (z' := .bool false) (u' := .slice none 0 0)
  refine bodyPost_ret (v := .tuple #[.agg #[.bool false, .slice none 0 0, .bool false, .slice none 0 0], .int .i64 14]) (by simp [results, Tryz.results83, go_sem, S.c 0 0 rfl rfl, S.c 0 1 rfl rfl, S.c 0 2 rfl rfl, S.c 0 3 rfl rfl]) rfl ?_
  exact ⟨_, by rw [HC.out], by rw [HC.out, if_neg (by decide)]; rfl, S.k⟩
 ·obtain ⟨s, hs⟩ : ∃ s, b.sign = s := ⟨_, rfl⟩
  have hs0 : s ≠ 0 := by
   intro e
   rw [← hs, Int.sign_eq_zero_iff_zero] at e
   exact hb0 e
  have hsb : (s == 0) = false := by simpa using hs0
  have HC := Lib.hid (show newC b = 0 from if_neg hb0)
  have HB := Lib.hid hb0
  clear hb0
  refine (rsign_s (h2.num.below S.k) hs).mono ?_
  rintro e W5 ⟨rfl, hk⟩
  replace S := S.below hk
  clear hk hs hs0
  obtain ⟨r1_0, r1_1⟩ := S.cc2 1 rfl
  obtain ⟨r2_0, r2_1⟩ := S.cc2 2 rfl
  go_wp2_with fail
  refine (greduced_num (h1.below S.k) (h2.below S.k) HB.out).mono ?_
  rintro e W6 ⟨U, rfl, hp, hk⟩
  obtain ⟨b5, A5, n5, c5, d5, B5, m5, e5, rfl⟩ := hp.open_
  replace S := (S.below hk).addQ hp
  clear hk hp r1_0 r1_1 r2_0 r2_1 h1 h2
  obtain ⟨r0_0, r0_1, r0_2, r0_3⟩ := S.cc4 0 rfl
  obtain ⟨f0_0, f0_1, f0_2, f0_3⟩ := S.ff4 0 rfl
  go_wp2
  replace S := S.put4 0 rfl rfl rfl (x' := .bool b5) (y' := .slice A5 n5 c5) (z' := .bool d5) (u' := .slice B5 m5 e5)
  refine bodyPost_ret (v := .tuple #[.agg #[.bool b5, .slice A5 n5 c5, .bool d5, .slice B5 m5 e5], .int .i64 0]) (by simp [results, Tryz.results83, go_sem, S.c 0 0 rfl rfl, S.c 0 1 rfl rfl, S.c 0 2 rfl rfl, S.c 0 3 rfl rfl]) rfl ?_
  exact ⟨_, by rw [HC.out], by rw [HC.out, if_pos rfl]; exact S.qi 0 rfl, S.k⟩
set_option maxRecDepth 100000 in
set_option maxHeartbeats 1000000 in
theorem gof_num {w : World} (n d : Int) (h1 : -9223372036854775808 ≤ n) (h2 : n ≤ 9223372036854775807) (h3 : -9223372036854775808 ≤ d) (h4 : d ≤ 9223372036854775807) :
 Calls Tryz.prog 37 #[.int .i64 n, .int .i64 d] w (RCode (newC d) (Rat.divInt n d) w) := by
 have S := (St.start w).alloc 31 [.bool false, .slice none 0 0, .bool false, .slice none 0 0]
 have ln : lenI n ≤ 3 := dig_length_le (by omega)
 have ld : lenI d ≤ 3 := dig_length_le (by omega)
 go_enter Tryz.func37, Tryz.ntmps37
 go_wp2_with fail
 generalize w.alloc (.cells #[.bool false, .slice none 0 0, .bool false, .slice none 0 0] 31) = W at *
 refine (whole_int n h1 h2).mono ?_
 rintro e W1 ⟨U1, rfl, hp, hk⟩
 replace S := (S.below hk).addM (hp.num4 (by omega))
 clear hk hp
 go_wp2_with fail
 refine (whole_int d h3 h4).mono ?_
 rintro e W2 ⟨U2, rfl, hp, hk⟩
 replace S := (S.below hk).addM (hp.num4 (by omega))
 clear hk hp
 go_wp2_with fail
 obtain ⟨c, hc⟩ : ∃ c, newC d = c := ⟨_, rfl⟩
 have hn := gnew_num (S.mi 1 rfl) (S.mi 0 rfl)
 have HCC := Lib.hid hc
 rw [hc] at hn
 refine hn.mono ?_
 clear hn hc
 rintro e W3 ⟨U3, rfl, hq, hk⟩
 by_cases h0 : c = 0
 ·rw [if_pos h0] at hq
  obtain ⟨b5, A5, n5, c5, d5, B5, m5, e5, rfl⟩ := hq.open_
  have HC := Lib.hid h0
  replace S := (S.below hk).addQ hq
  clear hk hq h0
  obtain ⟨r0_0, r0_1, r0_2, r0_3⟩ := S.cc4 0 rfl
  obtain ⟨f0_0, f0_1, f0_2, f0_3⟩ := S.ff4 0 rfl
  go_wp2
  replace S := S.put4 0 rfl rfl rfl (x' := .bool b5) (y' := .slice A5 n5 c5) (z' := .bool d5) (u' := .slice B5 m5 e5)
  refine bodyPost_ret (v := .tuple #[.agg #[.bool b5, .slice A5 n5 c5, .bool d5, .slice B5 m5 e5], .int .i64 c]) (by simp [results, Tryz.results37, go_sem, S.c 0 0 rfl rfl, S.c 0 1 rfl rfl, S.c 0 2 rfl rfl, S.c 0 3 rfl rfl]) rfl ?_
  exact ⟨_, by rw [HCC.out], by rw [HCC.out, if_pos HC.out]; exact S.qi 0 rfl, S.k⟩
 ·rw [if_neg h0] at hq
  unfold zeroRat at hq
  subst hq
  have HC := Lib.hid h0
  replace S := S.below hk
  clear hk h0
  obtain ⟨r0_0, r0_1, r0_2, r0_3⟩ := S.cc4 0 rfl
  obtain ⟨f0_0, f0_1, f0_2, f0_3⟩ := S.ff4 0 rfl
  go_wp2
  replace S := S.put4 0 rfl rfl rfl (x' := .bool false) (y' := .slice none 0 0) (z' := .bool false) (u' := .slice none 0 0)
  refine bodyPost_ret (v := .tuple #[.agg #[.bool false, .slice none 0 0, .bool false, .slice none 0 0], .int .i64 c]) (by simp [results, Tryz.results37, go_sem, S.c 0 0 rfl rfl, S.c 0 1 rfl rfl, S.c 0 2 rfl rfl, S.c 0 3 rfl rfl]) rfl ?_
  exact ⟨_, by rw [HCC.out], by rw [HCC.out, if_neg HC.out]; rfl, S.k⟩
end Go.Proofs.YtgcigdahjabimaaGreatDoor
