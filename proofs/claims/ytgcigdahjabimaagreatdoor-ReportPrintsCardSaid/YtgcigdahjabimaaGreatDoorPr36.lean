/- report.Above: the walk. -/
import Derived.Test.YtgcigdahjabimaaGreatDoorPr35
namespace Go.Proofs.YtgcigdahjabimaaGreatDoor
open Go.RowKit Go.Shelf
def abvC (s : Sm) (b : Bool) : Int := if formB s then (if b then 0 else 1) else 1
def abvB (s : Sm) (cr : Rat) (i : Nat) : Bool := decide (0 < (s.rd.getD i (0, false)).1) && decide (cr < (s.sx.getD i (0, false)).1)
def abvK (s : Sm) (cr : Rat) (k : Nat) : List Int := ((List.range k).filter (abvB s cr)).map fun (i : Nat) => (i : Int)
theorem abvK_next (s : Sm) (cr : Rat) (k : Nat) : abvK s cr (k + 1) = abvK s cr k ++ if abvB s cr k then [(k : Int)] else [] := by
 unfold abvK
 rw [List.range_succ, List.filter_append, List.map_append]
 congr 1
 by_cases h : abvB s cr k = true
 ·simp [h]
 ·simp [h]
theorem abvK_len (s : Sm) (cr : Rat) : ∀ k, (abvK s cr k).length ≤ k
 | 0 => by simp [abvK]
 | k + 1 => by
  rw [abvK_next, List.length_append]
  have := abvK_len s cr k
  split <;> simp <;> omega
theorem abvK_mem (s : Sm) (cr : Rat) (k : Nat) : ∀ x ∈ abvK s cr k, ∃ i, i < k ∧ x = ((i : Nat) : Int) := fun x hx => by
 unfold abvK at hx
 obtain ⟨i, hi, rfl⟩ := List.mem_map.1 hx
 exact ⟨i, List.mem_range.1 (List.mem_filter.1 hi).1, rfl⟩
def abvL (s : Sm) (cr : Rat) : List Int := srtI (abvF s) (abvK s cr s.sx.length).length (abvK s cr s.sx.length)
def AbvP (w : World) (s : Sm) (cr : QV) (e : Ending) (w' : World) : Prop := ∃ V, e = .returned (.tuple #[V, .int .i64 (abvC s cr.2)]) ∧ Keeps w w' ∧ (abvC s cr.2 ≠ 0 → V = .slice none 0 0) ∧
 (abvC s cr.2 = 0 → ∃ A c, V = .slice A (abvL s cr.1).length c ∧ IRow w' A (abvL s cr.1))
theorem AbvP.bad {w w' : World} {s : Sm} {cr : QV} {z : Int} (h : abvC s cr.2 = z) (hz : z ≠ 0) (hk : Keeps w w') : AbvP w s cr (.returned (.tuple #[.slice none 0 0, .int .i64 z])) w' :=
 ⟨_, by rw [h], hk, fun _ => rfl, fun h0 => absurd (h.symm.trans h0) hz⟩
theorem St.grownB {w0 w w' : World} {bs : List Bx} {ps : List (World → Prop)} {v : Value} {base : Nat} (S : St w0 w bs ps) (hg : w.grownBy w' v.ownBlock) (hb : ∀ b, v.ownBlock = some b → base ≤ b) (hlo : w0.heap.size ≤ base) (hbs : ∀ p ∈ bs, p.1 < base) : St w0 w' bs [] :=
 ⟨S.k.grown hg S.k.size fun k e => Nat.le_trans hlo (hb k e), Bxs.map (fun p hp h => h.turn (Turn.of_grown hg) fun hm => by
  have h1 : v.ownBlock = some p.1 := by
   unfold blkOf at hm
   cases hv : v.ownBlock with
   | none => rw [hv] at hm; simp at hm
   | some b => rw [hv] at hm; simp at hm; rw [hm]
  have := hb _ h1
  have := hbs _ hp
  omega) S.b, S.lo, S.d, trivial⟩
theorem RowI.irow {w : World} {g : Nat} {l : List Int} {rest : List Value} (h : RowI w g l rest) : IRow w (some ⟨g, 0, none⟩) l := fun _ => ⟨g, 0, rfl, Own.lt h, fun j hj => by
 rw [Nat.zero_add]
 exact h.c hj⟩
set_option maxRecDepth 100000 in
set_option maxHeartbeats 2000000 in
theorem above_any {w : World} {V : Value} {s : Sm} (h : SmArg w V s) {Vc : Value} {cr : QV} (hcr : RatV2 w Vc cr) (hz : SmSz s) (h12 : s.sx.length ≤ 12) :
 Calls Tryz.prog 23 #[V, Vc] w (AbvP w s cr) := by
 have HC := Lib.hid (fun (u : World) (hk : Keeps w u) => check_any (h.below hk) hz.2.2.1)
 obtain ⟨n1, xs, n2, ys, ⟨a0, a1, a2, a3, rfl, -⟩, -⟩ := hcr.num'
 obtain ⟨b7, A7, n7, c7, d7, B7, m7, e7, rfl, rfl, rfl, rfl⟩ := hcr.open4
 obtain ⟨qc, vc⟩ := cr
 have HCV : Hid (∀ u, Keeps w u → RatV u (.agg #[.bool b7, .slice A7 n7 c7, .bool d7, .slice B7 m7 e7]) qc vc) := Lib.hid fun u hk => hcr.map hk.same32
 have hHC : abvC s vc = if formB s then (if vc then 0 else 1) else 1 := rfl
 obtain ⟨fb, hfb⟩ : ∃ b, formB s = b := ⟨_, rfl⟩
 rw [hfb] at HC hHC
 have HHC := Lib.hid hHC
 have HFB := Lib.hid hfb
 have HKN := Lib.hid (abvK_next s qc)
 have HKL := Lib.hid (abvK_len s qc)
 obtain ⟨o0, o1, o2, o3, p0, p1, p2, p3, AA, B, cc, d, rfl, h1, h2, h3, h4, h5, h6⟩ := h
 have S := ((St.start w).alloc 49 (smL s o0 o1 o2 o3 p0 p1 p2 p3 AA B cc d)).alloc 31 [.bool b7, .slice A7 n7 c7, .bool d7, .slice B7 m7 e7]
 simp only [World.size_alloc] at S
 obtain ⟨W0, hW0, S⟩ := S.pack
 have H3 := Lib.hid h3
 have H4 := Lib.hid h4
 clear hz hHC hfb h1 h2 h3 h4 h5 h6 hcr
 obtain ⟨i0, hi, hz0, hz1, hz2⟩ := info_parts info_i64
 have x0 := S.c 1 0 rfl rfl
 have x1 := S.c 1 1 rfl rfl
 have x2 := S.c 1 2 rfl rfl
 have x3 := S.c 1 3 rfl rfl
 have x4 := S.c 1 4 rfl rfl
 have x5 := S.c 1 5 rfl rfl
 have x6 := S.c 1 6 rfl rfl
 have x7 := S.c 1 7 rfl rfl
 have x8 := S.c 1 8 rfl rfl
 have x9 := S.c 1 9 rfl rfl
 have x10 := S.c 1 10 rfl rfl
 have x11 := S.c 1 11 rfl rfl
 have x12 := S.c 1 12 rfl rfl
 have x13 := S.c 1 13 rfl rfl
 have x14 := S.c 1 14 rfl rfl
 have x15 := S.c 1 15 rfl rfl
 have x16 := S.c 1 16 rfl rfl
 go_enter Tryz.func23, Tryz.ntmps23
 go_wp2_with fail
 refine (HC.out _ S.k).mono ?_
 rintro e W1 ⟨rfl, hk1⟩
 replace S := S.below hk1
 clear hk1 hW0
 clear x0 x1 x2 x3 x4 x5 x6 x7 x8 x9 x10 x11 x12 x13 x14 x15 x16
 cases fb with
 | false =>
  have HE1 := Lib.hid (AbvP.bad (w := w) (cr := (qc, vc)) (s := s) (z := 1) (by rw [HHC.out]; rfl) (by decide) S.k)
  go_wp2
  go_ret2
  exact HE1.out
 | true =>
  obtain ⟨r0, r1, r2, r3⟩ := S.cc4 0 rfl
  go_wp2_with fail
  refine (fvalid_v (HCV.out _ S.k)).mono ?_
  rintro e W2 ⟨rfl, hk2⟩
  replace S := S.below hk2
  clear hk2 r0 r1 r2 r3
  cases vc with
  | false =>
   have HE1 := Lib.hid (AbvP.bad (w := w) (cr := (qc, false)) (s := s) (z := 1) (by rw [HHC.out]; rfl) (by decide) S.k)
   go_wp2
   go_ret2
   exact HE1.out
  | true =>
   have HH0 : Hid (abvC s true = 0) := Lib.hid (by rw [HHC.out]; rfl)
   have x15 := S.c 1 15 rfl rfl
   have hnI : (s.sx.length : Int) ≤ 12 := by omega
   go_wp2
   clear x15
   go_loopw [7, 21] (fun v i wr => ∃ k : Nat, k ≤ s.sx.length ∧ i = .int .i64 (k : Nat) ∧ Hid (wr.ownsRow (w.heap.size + 2) 3 1 v (abvK s qc k).length (i64s (abvK s qc k))) ∧
    St w wr [(w.heap.size + 1, 31, [.bool b7, .slice A7 n7 c7, .bool d7, .slice B7 m7 e7]), (w.heap.size, 49, smL s o0 o1 o2 o3 p0 p1 p2 p3 AA B cc d)] []) (fun _ i _ => s.sx.length - (intOf i).toNat)
   case atStart => exact ⟨0, Nat.zero_le _, rfl, Lib.hid ⟨rfl, .inl ⟨rfl, rfl⟩⟩, S⟩
   case round =>
    clear S
    obtain ⟨k, hk, rfl, HRW, S⟩ := hrel
    by_cases hlt : k < s.sx.length
    ·have hfo := form_ok HFB.out
     have hlr : k < s.rd.length := by omega
     obtain ⟨⟨qt, vbt⟩, hqt⟩ : ∃ x, s.sx[k]? = some x := ⟨_, List.getElem?_eq_getElem hlt⟩
     obtain ⟨⟨qr, vbr⟩, hqr⟩ : ∃ x, s.rd[k]? = some x := ⟨_, List.getElem?_eq_getElem hlr⟩
     have hab : abvB s qc k = (decide (0 < qr) && decide (qc < qt)) := by
      unfold abvB
      simp only [List.getD, hqr, hqt, Option.getD_some]
     have HAB := Lib.hid hab
     obtain ⟨Bs, os, u0, u1, u2, u3, rfl, hc1, hx1⟩ := H4.out.get lasts_v hqt
     obtain ⟨Br, or', v0, v1, v2, v3, rfl, hc2, hx2⟩ := H3.out.get lasts_v hqr
     obtain ⟨bt, At, nt, ct, dt, Bt, mt, et, rfl, rfl, rfl, rfl⟩ := (hx1 w bl).open4
     obtain ⟨br, Ar, nr, cr, dr, Bq, mr, er, rfl, rfl, rfl, rfl⟩ := (hx2 w bl).open4
     have HX1 : Hid (∀ W, Keeps w W → RatNum W (.agg #[.bool bt, .slice At nt ct, .bool dt, .slice Bt mt et]) qt) := Lib.hid fun W hk => (hx1 W hk).num'
     have HX2 : Hid (∀ W, Keeps w W → RatNum W (.agg #[.bool br, .slice Ar nr cr, .bool dr, .slice Bq mr er]) qr) := Lib.hid fun W hk => (hx2 W hk).num'
     have HC2 := Lib.hid hc2
     have hkI2 : (k : Int) < (s.sx.length : Int) := by omega
     have hkI3 : (k : Int) < (s.rd.length : Int) := by omega
     have t3 : decide ((k : Int) < (s.sx.length : Int)) = true := decide_eq_true hkI2
     obtain ⟨g0, g1, g2, g3⟩ := hc1 wr S.k
     clear hfo hqt hqr hc1 hc2 hx1 hx2 hab
     go_upto_region 10 with fail
     replace S := S.alloc 31 [.bool bt, .slice At nt ct, .bool dt, .slice Bt mt et]
     have HRW2 := Lib.hid (HRW.out.alloc (.cells #[.bool bt, .slice At nt ct, .bool dt, .slice Bt mt et] 31))
     obtain ⟨W7, eW, S⟩ := S.pack
     rw [eW] at HRW2 ⊢
     clear eW g0 g1 g2 g3 HRW
     generalize wr.heap.size = P8 at *
     obtain ⟨y0, y1, y2, y3⟩ := HC2.out _ S.k
     have x14 := S.c 2 14 rfl rfl
     obtain ⟨sg, hsg⟩ : ∃ s, qr.num.sign = s := ⟨_, rfl⟩
     have HSG := Lib.hid hsg
     have hs0 : Hid (0 < sg ↔ 0 < qr) := Lib.hid (by rw [← hsg]; exact rsgn_pos qr)
     clear hsg
     go_wp2_with fail
     refine (fsign_s (HX2.out _ S.k) HSG.out).mono ?_
     rintro e W8 ⟨rfl, hk8⟩
     replace S := S.below hk8
     have HRW3 := Lib.hid (HRW2.out.keeps hk8)
     clear hk8 y0 y1 y2 y3 x14 HRW2
     by_cases hsz : 0 < sg
     ·have t4 : decide (0 < sg) = true := decide_eq_true hsz
      obtain ⟨r0, r1, r2, r3⟩ := S.cc4 0 rfl
      obtain ⟨q0, q1, q2, q3⟩ := S.cc4 1 rfl
      obtain ⟨s1, hs1⟩ : ∃ s, cmpR qt qc = s := ⟨_, rfl⟩
      have HS1 := Lib.hid hs1
      have hs2 : Hid (0 < s1 ↔ qc < qt) := Lib.hid (by rw [← hs1]; exact cmpR_pos qt qc)
      clear hs1
      go_wp2_with fail
      refine (fcompare_s (HX1.out _ S.k) (HCV.out _ S.k).num HS1.out).mono ?_
      rintro e W9 ⟨rfl, hk9⟩
      replace S := (S.below hk9).dropb
      have HRW4 := Lib.hid (HRW3.out.keeps hk9)
      clear hk9 HRW3 r0 r1 r2 r3 q0 q1 q2 q3
      by_cases hs3 : 0 < s1
      ·have t5 : decide (0 < s1) = true := decide_eq_true hs3
       have HN : Hid (abvK s qc (k + 1) = abvK s qc k ++ [(k : Int)]) := Lib.hid (by rw [HKN.out, HAB.out, if_pos (by simp [hs0.out.1 hsz, hs2.out.1 hs3])])
       have hlk := HKL.out k
       have HS := Lib.hid S
       have hown1 := HRW4.out.alloc (.cells #[.int .i64 (k : Nat)] 3)
       have hsz9 : w.heap.size + 2 ≤ (W9.alloc (.cells #[.int .i64 (k : Nat)] 3)).heap.size := by
        rw [World.size_alloc]
        have := (S.o 0 rfl).lt
        simp only at this
        omega
       obtain ⟨N, hN⟩ : ∃ N, (abvK s qc k).length = N := ⟨_, rfl⟩
       have HNN := Lib.hid hN
       rw [hN] at hlk hown1
       have HOW := Lib.hid hown1
       clear hs0 hs2 hsz hs3 HRW4 hN hown1 S
       go_wp2_with (at_builtin; refine wpList_append_own _ rfl _ _ 43 rfl (w.heap.size + 2) 3 i0 (.int .i64 0) 1 8 Tryz.underlying43 hi hz0 hz1 hz2 rfl (by decide) _ _ _ rfl HOW.out ⟨W9.heap.size, 0, none⟩ 1 1 [.int .i64 (k : Nat)] rfl rfl (cell_one_new _ _ _) (by simp [Value.oneCell']) (by simp only [maxLen]; omega) (by omega) hsz9 ?_; intro v' w3 hown3 hgrow hnil)
       have S := (HS.out.below (box2 W9 (.cells #[.int .i64 (k : Nat)] 3))).grownB (base := w.heap.size + 2) hgrow (fun b e => (HOW.out.lt b e).1) (by omega) (by simp)
       have HR5 : Hid (w3.ownsRow (w.heap.size + 2) 3 1 v' (abvK s qc (k + 1)).length (i64s (abvK s qc (k + 1)))) := Lib.hid (by
        rw [HN.out, i64s_snoc, List.length_append, HNN.out]
        exact hown3)
       clear hown3 hgrow hnil HS
       go_wp2
       go_roundw
       case rel => exact ⟨k + 1, by omega, by go_num, HR5, S⟩
       case measure => simp [intOf]; omega
      ·have t5 : decide (0 < s1) = false := decide_eq_false hs3
       have hKE : abvK s qc (k + 1) = abvK s qc k := by rw [HKN.out, HAB.out, if_neg (by rw [Bool.and_eq_true]; exact fun h => hs3 (hs2.out.2 (of_decide_eq_true h.2))), List.append_nil]
       have HR5 := HRW4
       rw [← hKE] at HR5
       clear hKE
       clear hs0 hs2 hsz hs3
       go_wp2
       go_roundw
       case rel => exact ⟨k + 1, by omega, by go_num, HR5, S⟩
       case measure => simp [intOf]; omega
     ·have t4 : decide (0 < sg) = false := decide_eq_false hsz
      have hKE : abvK s qc (k + 1) = abvK s qc k := by rw [HKN.out, HAB.out, if_neg (by rw [Bool.and_eq_true]; exact fun h => hsz (hs0.out.2 (of_decide_eq_true h.1))), List.append_nil]
      have HR5 := HRW3
      rw [← hKE] at HR5
      clear hKE
      clear hs0 hsz
      go_wp2
      all_goals
       go_roundw
       case rel => exact ⟨k + 1, by omega, by go_num, HR5, S.dropb⟩
       case measure => simp [intOf]; omega
    ·have hkI2 : ¬ (k : Int) < (s.sx.length : Int) := by omega
     have t3 : decide ((k : Int) < (s.sx.length : Int)) = false := decide_eq_false hkI2
     obtain rfl : k = s.sx.length := by omega
     have hlk := HKL.out s.sx.length
     have HMM := Lib.hid (abvK_mem s qc s.sx.length)
     have HLL : Hid (abvL s qc = srtI (abvF s) (abvK s qc s.sx.length).length (abvK s qc s.sx.length)) := Lib.hid rfl
     obtain ⟨L, hL⟩ : ∃ L, abvK s qc s.sx.length = L := ⟨_, rfl⟩
     rw [hL] at HRW hlk HMM HLL
     clear hL
     rcases HRW.out.2 with ⟨rfl, h0⟩ | ⟨g, cap, cur, rfl, hgb, hg, hgc, hgm, hgs, hgt⟩
     ·obtain rfl := List.length_eq_zero_iff.1 h0
      have HSO := Lib.hid (fun F => sortI_any (w := wr) (A := none) (c := 0) (F := F) (n := 0) (R := fun w' => w' = wr) (by omega) (insI_nil wr _ F 0 0 (by omega) (by omega)))
      clear HRW
      go_wp2_with fail
      refine (HSO.out _).mono ?_
      rintro e W9 ⟨rfl, rfl⟩
      go_wp2
      go_ret2
      exact ⟨_, by rw [HH0.out]; rfl, S.k, fun h => absurd HH0.out h, fun _ => ⟨none, 0, by rw [HLL.out]; rfl, by rw [HLL.out]; exact fun h => absurd h (by simp [srtI])⟩⟩
     ·have hR : RowI wr g L (cur.toList.drop L.length) := by
       unfold RowI Own
       rw [hg, ← hgt, Nat.mul_one, List.take_append_drop]
      have HGB := Lib.hid hgb
      have HKU : Hid (∀ u, Turn [g] wr u → Keeps w u) := Lib.hid fun u ht => S.k.trans (ht.below (fun k hk => by rw [List.mem_singleton.1 hk]; omega) S.k.size)
      have HCM : Hid (∀ u, Turn [g] wr u → ∀ x y : Int, (∃ i, i < s.sx.length ∧ x = ((i : Nat) : Int)) → (∃ i, i < s.sx.length ∧ y = ((i : Nat) : Int)) → Calls Tryz.prog 61 #[.int .i64 x, .int .i64 y, .pointer (some ⟨w.heap.size, 0, none⟩)] u fun e u' => e = .returned (.int .i64 (abvF s x y)) ∧ Keeps u u') := Lib.hid (by
       rintro u ht x y ⟨i, hi, rfl⟩ ⟨j, hj, rfl⟩
       exact abvcmp_any ((S.o 1 rfl).turn ht (by simp; omega)) (H4.out.below lasts_v (HKU.out u ht)) (by omega) hi hj)
      have HSO := Lib.hid (sortI_any (w := wr) (A := some ⟨g, 0, none⟩) (c := cap) (n := L.length) (R := fun w' => RowI w' g (srtI (abvF s) L.length L) (cur.toList.drop L.length) ∧ Turn [g] wr w') (by omega) (abv_ins (abvF s) _ hR rfl (Nat.le_refl _) (by omega) HMM.out HCM.out))
      clear HRW hR hgb hg hgt HCM
      go_wp2_with fail
      refine HSO.out.mono ?_
      rintro e W9 ⟨rfl, hr9, ht9⟩
      have HR9 := Lib.hid hr9
      have HK9 := Lib.hid (HKU.out _ ht9)
      clear hr9 ht9
      go_wp2
      go_ret2
      exact ⟨_, by rw [HH0.out]; rfl, HK9.out, fun h => absurd HH0.out h, fun _ => ⟨some ⟨g, 0, none⟩, cap, by rw [HLL.out, srtI_length]; rfl, by rw [HLL.out]; exact HR9.out.irow⟩⟩
end Go.Proofs.YtgcigdahjabimaaGreatDoor
