/- controlled: the walk. fiducialref02.Brief and Short: the walks. -/
import Derived.Test.YtgcigdahjabimaaGreatDoorPc44
import Derived.Test.YtgcigdahjabimaaGreatDoorPc33
import Derived.Test.YtgcigdahjabimaaGreatDoorPc45
import Derived.Test.YtgcigdahjabimaaGreatDoorPc34
namespace Go.Proofs.YtgcigdahjabimaaGreatDoor
open Go.RowKit Go.Shelf
def ctlB (s : Sm) (i : Nat) : Bool := decide (0 < (s.rd.getD i (0, false)).1)
def ctlK (s : Sm) (k : Nat) : List Int := ((List.range k).filter (ctlB s)).map fun (i : Nat) => (i : Int)
theorem ctlK_next (s : Sm) (k : Nat) : ctlK s (k + 1) = ctlK s k ++ if ctlB s k then [(k : Int)] else [] := by
 unfold ctlK
 rw [List.range_succ, List.filter_append, List.map_append]
 congr 1
 by_cases h : ctlB s k = true
 ·simp [h]
 ·simp [h]
theorem ctlK_len (s : Sm) : ∀ k, (ctlK s k).length ≤ k
 | 0 => by simp [ctlK]
 | k + 1 => by
  rw [ctlK_next, List.length_append]
  have := ctlK_len s k
  split <;> simp <;> omega
def CtlP (s : Sm) (w : World) (e : Ending) (w' : World) : Prop := ∃ A c, e = .returned (.slice A (ctlK s s.rd.length).length c) ∧ w'.ownsRow w.heap.size 3 1 (.slice A (ctlK s s.rd.length).length c) (ctlK s s.rd.length).length (i64s (ctlK s s.rd.length)) ∧ Keeps w w'
set_option maxRecDepth 100000 in
set_option maxHeartbeats 2000000 in
theorem ctl_any {w : World} {V : Value} {s : Sm} (h : SmArg w V s) (h12 : s.rd.length ≤ 12) : Calls Tryz.prog 25 #[V] w (CtlP s w) := by
 have HKN := Lib.hid (ctlK_next s)
 have HKL := Lib.hid (ctlK_len s)
 obtain ⟨o0, o1, o2, o3, p0, p1, p2, p3, AA, B, cc, d, rfl, h1, h2, h3, h4, h5, h6⟩ := h
 have S := (St.start w).alloc 49 (smL s o0 o1 o2 o3 p0 p1 p2 p3 AA B cc d)
 obtain ⟨W0, hW0, S⟩ := S.pack
 have H3 := Lib.hid h3
 clear h1 h2 h3 h4 h5 h6
 obtain ⟨i0, hi, hz0, hz1, hz2⟩ := info_parts info_i64
 have hnI : (s.rd.length : Int) ≤ 12 := by omega
 have x14 := S.c 0 14 rfl rfl
 go_enter Tryz.func25, Tryz.ntmps25
 go_wp2
 clear x14 hW0
 go_loopw [3, 9] (fun v i wr => ∃ k : Nat, k ≤ s.rd.length ∧ i = .int .i64 (k : Nat) ∧ Hid (wr.ownsRow (w.heap.size + 1) 3 1 v (ctlK s k).length (i64s (ctlK s k))) ∧
  St w wr [(w.heap.size, 49, smL s o0 o1 o2 o3 p0 p1 p2 p3 AA B cc d)] []) (fun _ i _ => s.rd.length - (intOf i).toNat)
 case atStart => exact ⟨0, Nat.zero_le _, rfl, Lib.hid ⟨rfl, .inl ⟨rfl, rfl⟩⟩, S⟩
 case round =>
  clear S
  obtain ⟨k, hk, rfl, HRW, S⟩ := hrel
  by_cases hlt : k < s.rd.length
  ·obtain ⟨⟨qr, vbr⟩, hqr⟩ : ∃ x, s.rd[k]? = some x := ⟨_, List.getElem?_eq_getElem hlt⟩
   have hab : ctlB s k = decide (0 < qr) := by
    unfold ctlB
    simp only [List.getD, hqr, Option.getD_some]
   have HAB := Lib.hid hab
   obtain ⟨Br, or', v0, v1, v2, v3, rfl, hc2, hx2⟩ := H3.out.get lasts_v hqr
   obtain ⟨br, Ar, nr, cr, dr, Bq, mr, er, rfl, rfl, rfl, rfl⟩ := (hx2 w bl).open4
   have HX2 : Hid (∀ W, Keeps w W → RatNum W (.agg #[.bool br, .slice Ar nr cr, .bool dr, .slice Bq mr er]) qr) := Lib.hid fun W hk => (hx2 W hk).num'
   have hkI3 : (k : Int) < (s.rd.length : Int) := by omega
   have t3 : decide ((k : Int) < (s.rd.length : Int)) = true := decide_eq_true hkI3
   obtain ⟨g0, g1, g2, g3⟩ := hc2 wr S.k
   clear hqr hc2 hx2 hab
   go_upto_region 5 with fail
   replace S := S.alloc 31 [.bool br, .slice Ar nr cr, .bool dr, .slice Bq mr er]
   have HRW2 := Lib.hid (HRW.out.alloc (.cells #[.bool br, .slice Ar nr cr, .bool dr, .slice Bq mr er] 31))
   obtain ⟨W7, eW, S⟩ := S.pack
   rw [eW] at HRW2 ⊢
   clear eW g0 g1 g2 g3 HRW
   generalize wr.heap.size = P8 at *
   obtain ⟨r0, r1, r2, r3⟩ := S.cc4 0 rfl
   obtain ⟨sg, hsg⟩ : ∃ s, qr.num.sign = s := ⟨_, rfl⟩
   have HSG := Lib.hid hsg
   have hs0 : Hid (0 < sg ↔ 0 < qr) := Lib.hid (by rw [← hsg]; exact rsgn_pos qr)
   clear hsg
   go_wp2_with fail
   refine (gsign_s (HX2.out _ S.k) HSG.out).mono ?_
   rintro e W8 ⟨rfl, hk8⟩
   replace S := (S.below hk8).dropb
   have HRW3 := Lib.hid (HRW2.out.keeps hk8)
   clear hk8 r0 r1 r2 r3 HRW2
   by_cases hsz : 0 < sg
   ·have t4 : decide (0 < sg) = true := decide_eq_true hsz
    have HN : Hid (ctlK s (k + 1) = ctlK s k ++ [(k : Int)]) := Lib.hid (by rw [HKN.out, HAB.out, if_pos (decide_eq_true (hs0.out.1 hsz))])
    have hlk := HKL.out k
    have HS := Lib.hid S
    have hown1 := HRW3.out.alloc (.cells #[.int .i64 (k : Nat)] 3)
    have hsz9 : w.heap.size + 1 ≤ (W8.alloc (.cells #[.int .i64 (k : Nat)] 3)).heap.size := by
     rw [World.size_alloc]
     have := (S.o 0 rfl).lt
     simp only at this
     omega
    obtain ⟨N, hN⟩ : ∃ N, (ctlK s k).length = N := ⟨_, rfl⟩
    have HNN := Lib.hid hN
    rw [hN] at hlk hown1
    have HOW := Lib.hid hown1
    clear hs0 hsz HRW3 hN hown1 S
    go_wp2_with (at_builtin; refine wpList_append_own _ rfl _ _ 43 rfl (w.heap.size + 1) 3 i0 (.int .i64 0) 1 8 Tryz.underlying43 hi hz0 hz1 hz2 rfl (by decide) _ _ _ rfl HOW.out ⟨W8.heap.size, 0, none⟩ 1 1 [.int .i64 (k : Nat)] rfl rfl (cell_one_new _ _ _) (by simp [Value.oneCell']) (by simp only [maxLen]; omega) (by omega) hsz9 ?_; intro v' w3 hown3 hgrow hnil)
    have S := (HS.out.below (box2 W8 (.cells #[.int .i64 (k : Nat)] 3))).grownB (base := w.heap.size + 1) hgrow (fun b e => (HOW.out.lt b e).1) (by omega) (by simp)
    have HR5 : Hid (w3.ownsRow (w.heap.size + 1) 3 1 v' (ctlK s (k + 1)).length (i64s (ctlK s (k + 1)))) := Lib.hid (by
     rw [HN.out, i64s_snoc, List.length_append, HNN.out]
     exact hown3)
    clear hown3 hgrow hnil HS
    go_wp2
    go_roundw
    case rel => exact ⟨k + 1, by omega, by go_num, HR5, S⟩
    case measure => simp [intOf]; omega
   ·have t4 : decide (0 < sg) = false := decide_eq_false hsz
    have hKE : ctlK s (k + 1) = ctlK s k := by rw [HKN.out, HAB.out, if_neg (fun h => hsz (hs0.out.2 (of_decide_eq_true h))), List.append_nil]
    have HR5 := HRW3
    rw [← hKE] at HR5
    clear hs0 hsz hKE
    go_wp2
    go_roundw
    case rel => exact ⟨k + 1, by omega, by go_num, HR5, S⟩
    case measure => simp [intOf]; omega
  ·have hkI2 : ¬ (k : Int) < (s.rd.length : Int) := by omega
   have t3 : decide ((k : Int) < (s.rd.length : Int)) = false := decide_eq_false hkI2
   obtain rfl : k = s.rd.length := by omega
   obtain ⟨A9, c9, rfl, -⟩ := HRW.out.sl
   have HIR := Lib.hid (HRW.out.down (base' := w.heap.size) (by omega))
   go_wp2
   go_ret
   exact ⟨A9, c9, rfl, HIR.out, S.k⟩
abbrev RA := Bool × List Nat × Bool × List Nat
def RatA (w : World) (V : Value) (x : RA) : Prop := RatArg w V x.1 x.2.1 x.2.2.1 x.2.2.2 ∧ x.2.1.length ≤ 35184372088832 ∧ x.2.2.2.length ≤ 35184372088832
def raQ (x : RA) : QV := (rcnt x.1 x.2.1 x.2.2.1 x.2.2.2, rvalidB x.1 x.2.1 x.2.2.1 x.2.2.2)
def raD (x : RA) : Nat := x.2.1.length + x.2.2.2.length
theorem lasts_ra : Lasts RatA := fun _ _ _ _ hk h => ⟨h.1.map hk.same32, h.2⟩
theorem RatA.v2 {w : World} {V : Value} {x : RA} (h : RatA w V x) (hd : raD x ≤ 100000) : RatV2 w V (raQ x) := by
 unfold raD at hd
 exact ⟨_, _, _, _, h.1, rfl, rfl, by omega, by omega⟩
theorem raQ_sz (x : RA) : szR (raQ x).1 ≤ raD x + 1 := by
 have := szR_rcnt (n1 := x.1) (xs := x.2.1) (n2 := x.2.2.1) (ys := x.2.2.2)
 unfold raD raQ
 simp only
 omega
theorem Row4.v2 {w : World} {A : Option Addr} {l : List RA} (h : Row4 RatA w A l) (hd : ∀ x ∈ l, raD x ≤ 100000) : Row4 RatV2 w A (l.map raQ) := fun j x hj => by
 rw [List.getElem?_map] at hj
 obtain ⟨y, hy, rfl⟩ := Option.map_eq_some_iff.1 hj
 obtain ⟨B, o, c0, c1, c2, c3, e, hc, hx⟩ := h j y hy
 exact ⟨B, o, c0, c1, c2, c3, e, hc, hx.v2 (hd y (List.mem_of_getElem? hy))⟩
theorem RatA.open4 {w : World} {c0 c1 c2 c3 : Value} {x : RA} (h : RatA w (.agg #[c0, c1, c2, c3]) x) : ∃ A c B d, c0 = .bool x.1 ∧ c1 = .slice A x.2.1.length c ∧ c2 = .bool x.2.2.1 ∧ c3 = .slice B x.2.2.2.length d := by
 obtain ⟨A, c, B, d, e⟩ := h.1.open2
 simp only [Value.agg.injEq, Array.mk.injEq, List.cons.injEq, and_true] at e
 exact ⟨A, c, B, d, e⟩
def briefB (x : RA) : Bool := decide (x.2.1.length ≤ 1) && decide (x.2.2.2.length ≤ 1) && (decide (x.2.1.length = 0) || decide ((ix x.2.1 0 : Int) < 100000)) && (decide (x.2.2.2.length = 0) || decide ((ix x.2.2.2 0 : Int) ≤ 100))
def shB (M G : Nat) (l : List RA) : Bool := decide (l.length ≤ M) && l.all fun x => decide (raD x ≤ G) && briefB x
theorem shB_of {M G : Nat} {l : List RA} (h : shB M G l = true) : l.length ≤ M ∧ ∀ x ∈ l, raD x ≤ G := by
 unfold shB at h
 simp only [Bool.and_eq_true, decide_eq_true_eq, List.all_eq_true] at h
 exact ⟨h.1, fun x hx => (h.2 x hx).1⟩
theorem all_snocA {p : RA → Bool} {l : List RA} {k : Nat} {x : RA} (hq : l[k]? = some x) (h : (l.take k).all p = true) (hx : p x = true) : (l.take (k + 1)).all p = true := by
 rw [List.take_add_one, List.all_append, h, hq]
 simpa using hx
theorem all_notA {p : RA → Bool} {l : List RA} {k : Nat} {x : RA} (hq : l[k]? = some x) (hx : p x = false) : l.all p = false := by
 rw [List.all_eq_false]
 exact ⟨x, List.mem_of_getElem? hq, by rw [hx]; simp⟩
theorem U32.first {w : World} {A : Option Addr} {n c : Nat} {xs : List Nat} (h : U32 w (.slice A n c) xs) (hn : n = 1) : ∃ B o, A = some ⟨B, o, none⟩ ∧ ∀ W, Keeps w W → W.cell? ⟨B, o, none⟩ = some (.int .u32 (ix xs 0 : Nat)) := by
 obtain ⟨A', c', e, h1, h2, h3, h4⟩ := h
 simp only [Value.slice.injEq] at e
 obtain ⟨rfl, e2, rfl⟩ := e
 obtain ⟨b, o, rfl, hb, hc⟩ := h4 (by omega)
 refine ⟨b, o, rfl, fun W hk => ?_⟩
 have h0 := hc 0 (by omega)
 rw [Nat.add_zero] at h0
 exact cell_keep h0 hk
set_option maxRecDepth 100000 in
set_option maxHeartbeats 1000000 in
theorem gbrief_any {w : World} {V : Value} {x : RA} (h : RatA w V x) : Calls Tryz.prog 38 #[V] w fun e w' => e = .returned (.bool (briefB x)) ∧ Keeps w w' := by
 obtain ⟨n1, xs, n2, ys⟩ := x
 obtain ⟨h, l1, l2⟩ := h
 simp only at h l1 l2
 obtain ⟨A, c, B, d, rfl⟩ := h.open2
 obtain ⟨x, v, y, u, e, ⟨v1, e1, h1⟩, ⟨v2, e2, h2⟩⟩ := h
 simp only [Value.agg.injEq, Array.mk.injEq, List.cons.injEq, and_true] at e e1 e2
 obtain ⟨rfl, rfl, rfl, rfl⟩ := e
 obtain ⟨-, rfl⟩ := e1
 obtain ⟨-, rfl⟩ := e2
 have S := (St.start w).alloc 31 [.bool n1, .slice A xs.length c, .bool n2, .slice B ys.length d]
 obtain ⟨W0, hW0, S⟩ := S.pack
 have H1 := Lib.hid (fun e => U32.first h1 e)
 have H2 := Lib.hid (fun e => U32.first h2 e)
 have hb : briefB (n1, xs, n2, ys) = (decide (xs.length ≤ 1) && decide (ys.length ≤ 1) && (decide (xs.length = 0) || decide ((ix xs 0 : Int) < 100000)) && (decide (ys.length = 0) || decide ((ix ys 0 : Int) ≤ 100))) := rfl
 obtain ⟨n, hn⟩ : ∃ n, xs.length = n := ⟨_, rfl⟩
 obtain ⟨m, hm⟩ : ∃ n, ys.length = n := ⟨_, rfl⟩
 rw [hn] at H1 S hW0 ⊢
 rw [hm] at H2 S hW0 ⊢
 clear h1 h2
 rw [hn] at l1
 rw [hm] at l2
 rw [hn, hm] at hb
 have HB := Lib.hid hb
 generalize ix xs 0 = x1 at *
 generalize ix ys 0 = x2 at *
 clear hb
 clear hn hm
 have hnI : (n : Int) ≤ 35184372088832 := by omega
 have hmI : (m : Int) ≤ 35184372088832 := by omega
 go_enter Tryz.func38, Tryz.ntmps38
 go_upto_region 1 with fail
 refine wp_region_steps (m := 7) rfl (by kernel_rfl) (fun iF vF wF => (List.getD [ve (.pointer (some ⟨w.heap.size, 0, none⟩)), ve (.pointer (some ⟨w.heap.size, 1, none⟩)), ve (.slice A n c), ve (.pointer (some ⟨w.heap.size, 2, none⟩)), ve (.pointer (some ⟨w.heap.size, 3, none⟩)), ve (.slice B m d), ve (.slice A n c)] iF (fun _ _ => True)) vF wF) [] ?_ ?_ ?_
 ·intro i v w w' _ h hk
  refine stabL_get ?_ i v w w' h hk
  exact stab_cons st_e (stab_cons st_e (stab_cons st_e (stab_cons st_e (stab_cons st_e (stab_cons st_e (stab_cons st_e stab_nil))))))
 ·intro i hi vs w3 hk3 hd
  have S3 := S.drew.below hk3
  obtain ⟨a0, a1, a2, a3⟩ := S3.cc4 0 rfl
  match i, hi with
  | 0, _ =>
   refine sv0 [] (ve (.pointer (some ⟨w.heap.size, 0, none⟩))) rfl fun K hK => ?_; clear hd; simp only [frD] at hK ⊢; go_simp
   exact hK _ _ bl rfl
  | 1, _ =>
   have qe0 : (vs 0) = .pointer (some ⟨w.heap.size, 0, none⟩) := hdk hd 0
   refine sv0 [(0, some 5)] (ve (.pointer (some ⟨w.heap.size, 1, none⟩))) rfl fun K hK => ?_; clear hd; simp only [frD, qe0] at hK ⊢; go_simp
   exact hK _ _ bl rfl
  | 2, _ =>
   have qe1 : (vs 1) = .pointer (some ⟨w.heap.size, 1, none⟩) := hdk hd 1
   refine sv0 [(1, some 6)] (ve (.slice A n c)) rfl fun K hK => ?_; clear hd; simp only [frD, qe1] at hK ⊢; go_simp
   exact hK _ _ bl rfl
  | 3, _ =>
   refine sv0 [] (ve (.pointer (some ⟨w.heap.size, 2, none⟩))) rfl fun K hK => ?_; clear hd; simp only [frD] at hK ⊢; go_simp
   exact hK _ _ bl rfl
  | 4, _ =>
   have qe3 : (vs 3) = .pointer (some ⟨w.heap.size, 2, none⟩) := hdk hd 3
   refine sv0 [(3, some 8)] (ve (.pointer (some ⟨w.heap.size, 3, none⟩))) rfl fun K hK => ?_; clear hd; simp only [frD, qe3] at hK ⊢; go_simp
   exact hK _ _ bl rfl
  | 5, _ =>
   have qe4 : (vs 4) = .pointer (some ⟨w.heap.size, 3, none⟩) := hdk hd 4
   refine sv0 [(4, some 9)] (ve (.slice B m d)) rfl fun K hK => ?_; clear hd; simp only [frD, qe4] at hK ⊢; go_simp
   exact hK _ _ bl rfl
  | 6, _ =>
   have qe0 : (vs 0) = .pointer (some ⟨w.heap.size, 0, none⟩) := hdk hd 0; have qe1 : (vs 1) = .pointer (some ⟨w.heap.size, 1, none⟩) := hdk hd 1; have qe2 : (vs 2) = .slice A n c := hdk hd 2
   refine sv0 [(0, some 5), (1, some 6), (2, some 7)] (ve (.slice A n c)) rfl fun K hK => ?_; clear hd; simp only [frD, qe0, qe1, qe2] at hK ⊢; go_simp
   exact hK _ _ bl rfl
  | i + 7, hi => exact absurd hi (by omega)
 ·intro vs W21 hk3 hΦ _
  simp only [List.drop_succ_cons, List.drop_zero]
  rw [fr_frD, show (List.range 7).map _ = [(0, some 5), (1, some 6), (2, some 7), (3, some 8), (4, some 9), (5, some 10), (6, some 3)] by kernel_rfl]
  have pd0 : (vs 0) = .pointer (some ⟨w.heap.size, 0, none⟩) := hΦ 0 (by decide)
  have pd1 : (vs 1) = .pointer (some ⟨w.heap.size, 1, none⟩) := hΦ 1 (by decide)
  have pd2 : (vs 2) = .slice A n c := hΦ 2 (by decide)
  have pd3 : (vs 3) = .pointer (some ⟨w.heap.size, 2, none⟩) := hΦ 3 (by decide)
  have pd4 : (vs 4) = .pointer (some ⟨w.heap.size, 3, none⟩) := hΦ 4 (by decide)
  have pd5 : (vs 5) = .slice B m d := hΦ 5 (by decide)
  have pd6 : (vs 6) = .slice A n c := hΦ 6 (by decide)
  clear hΦ
  simp only [frD, pd0, pd1, pd2, pd3, pd4, pd5, pd6]
  simp only [Act.put, List.setIfInBounds_toArray, List.set_cons_zero, List.set_cons_succ]
  clear pd0 pd1 pd2 pd3 pd4 pd5 pd6
  replace S := S.drew.below hk3
  clear hk3
  clear hW0
  by_cases hn2 : 1 < n
  ·have t1 : decide ((1 : Int) < (n : Int)) = true := decide_eq_true (by omega)
   go_wp2
   go_ret
   exact ⟨by rw [HB.out]; rw [decide_eq_false (by omega : ¬ n ≤ 1)]; rfl, S.k⟩
  ·have t1 : decide ((1 : Int) < (n : Int)) = false := decide_eq_false (by omega)
   by_cases hm2 : 1 < m
   ·have t2 : decide ((1 : Int) < (m : Int)) = true := decide_eq_true (by omega)
    go_wp2
    go_ret
    exact ⟨by rw [HB.out]; rw [decide_eq_true (by omega : n ≤ 1), decide_eq_false (by omega : ¬ m ≤ 1)]; rfl, S.k⟩
   ·have t2 : decide ((1 : Int) < (m : Int)) = false := decide_eq_false (by omega)
    have hn01 : n = 0 ∨ n = 1 := by omega
    have hm01 : m = 0 ∨ m = 1 := by omega
    clear l1 l2 hnI hmI hn2 hm2
    rcases hn01 with rfl | rfl
    ·rcases hm01 with rfl | rfl
     ·go_wp2
      go_ret
      exact ⟨by rw [HB.out]; rfl, S.k⟩
     ·obtain ⟨B2, o2, rfl, hc2⟩ := H2.out rfl
      have g2 := hc2 _ S.k
      clear hc2
      obtain ⟨b2, hb2⟩ : ∃ b, decide ((x2 : Int) ≤ 100) = b := ⟨_, rfl⟩
      go_wp2
      go_ret
      exact ⟨by rw [HB.out]; rw [hb2]; rfl, S.k⟩
    ·obtain ⟨B1, o1, rfl, hc1⟩ := H1.out rfl
     have g1 := hc1 _ S.k
     clear hc1
     obtain ⟨b1, hb1⟩ : ∃ b, decide ((x1 : Int) < 100000) = b := ⟨_, rfl⟩
     cases b1 with
     | false =>
      go_wp2
      go_ret
      exact ⟨by rw [HB.out]; rw [hb1]; simp only [show decide ((1 : Nat) = 0) = false from rfl, Bool.or_false, Bool.and_false, Bool.false_and]; rfl, S.k⟩
     | true =>
      rcases hm01 with rfl | rfl
      ·go_wp2
       go_ret
       exact ⟨by rw [HB.out]; rw [hb1]; rfl, S.k⟩
      ·obtain ⟨B2, o2, rfl, hc2⟩ := H2.out rfl
       have g2 := hc2 _ S.k
       clear hc2
       obtain ⟨b2, hb2⟩ : ∃ b, decide ((x2 : Int) ≤ 100) = b := ⟨_, rfl⟩
       go_wp2
       go_ret
       exact ⟨by rw [HB.out]; rw [hb1, hb2]; rfl, S.k⟩
set_option maxRecDepth 100000 in
set_option maxHeartbeats 1000000 in
theorem gsh_any {w : World} {A : Option Addr} {n c : Nat} {l : List RA} (hr : Row4 RatA w A l) (hn : l.length = n) (hl : n ≤ maxLen) (M G : Nat) (hM : M ≤ 1000) (hG : G ≤ 6) :
 Calls Tryz.prog 8 #[.slice A n c, .int .i64 (M : Nat), .int .i64 (G : Nat)] w fun e w' => e = .returned (.bool (shB M G l)) ∧ Keeps w w' := by
 have HR := Lib.hid hr
 have HN := Lib.hid hn
 have hnI : (n : Int) ≤ 9223372036854775807 := by simp only [maxLen] at hl; omega
 have hMI : (M : Int) ≤ 1000 := by omega
 have hGI : (G : Int) ≤ 6 := by omega
 have tg : decide ((G : Int) ≤ 6) = true := decide_eq_true hGI
 have S := St.start w
 have HSB : Hid (shB M G l = (decide (n ≤ M) && l.all fun x => decide (raD x ≤ G) && briefB x)) := Lib.hid (by rw [← hn]; rfl)
 clear hr hn hl
 go_enter Tryz.func8, Tryz.ntmps8
 by_cases hnm : M < n
 ·have t0 : decide ((M : Int) < (n : Int)) = true := decide_eq_true (by omega)
  go_wp2
  go_ret
  exact ⟨by rw [HSB.out, decide_eq_false (by omega : ¬ n ≤ M)]; rfl, S.k⟩
 ·have t0 : decide ((M : Int) < (n : Int)) = false := decide_eq_false (by omega)
  have HM : Hid (n ≤ M) := Lib.hid (by omega)

  go_wp2
  go_loopw [7] (fun i wr => ∃ k : Nat, k ≤ n ∧ i = .int .i64 (k : Nat) ∧ Hid ((l.take k).all (fun x => decide (raD x ≤ G) && briefB x) = true) ∧ St w wr [] []) (fun i _ => n - (intOf i).toNat)
  case atStart => exact ⟨0, Nat.zero_le _, rfl, Lib.hid rfl, S⟩
  case round =>
   clear S
   obtain ⟨k, hk, rfl, HA, S⟩ := hrel
   by_cases hlt : k < n
   ·have hkI : (k : Int) < (n : Int) := by omega
    have t1 : decide ((k : Int) < (n : Int)) = true := decide_eq_true hkI
    obtain ⟨x, hq⟩ : ∃ x, l[k]? = some x := ⟨_, List.getElem?_eq_getElem (by rw [HN.out]; exact hlt)⟩
    obtain ⟨B, o, x0, x1, x2, x3, rfl, hc, hx⟩ := HR.out.get lasts_ra hq
    obtain ⟨A1, c1, B1, d1, rfl, rfl, rfl, rfl⟩ := (hx w bl).open4
    have HX := Lib.hid hx
    obtain ⟨l1, l2⟩ := (hx w bl).2
    have HS : Hid (raD x ≤ G → briefB x = true → (l.take (k + 1)).all (fun x => decide (raD x ≤ G) && briefB x) = true) := Lib.hid fun h h2 => all_snocA hq HA.out (by rw [decide_eq_true h, h2]; rfl)
    have HF : Hid (¬ (raD x ≤ G ∧ briefB x = true) → shB M G l = false) := Lib.hid fun h => by
     rw [HSB.out, all_notA hq (by
      simp only [Bool.and_eq_false_iff, decide_eq_false_iff_not]
      by_cases h3 : raD x ≤ G
      ·exact .inr (by cases h4 : briefB x <;> simp_all)
      ·exact .inl h3), Bool.and_false]
    have HC := Lib.hid hc
    obtain ⟨y1, y2, y3, y4⟩ := x
    simp only at HC HX l1 l2
    obtain ⟨nx, hnx⟩ : ∃ n, y2.length = n := ⟨_, rfl⟩
    obtain ⟨mx, hmx⟩ : ∃ n, y4.length = n := ⟨_, rfl⟩
    have HD : Hid (raD (y1, y2, y3, y4) = nx + mx) := Lib.hid (by unfold raD; rw [← hnx, ← hmx])
    rw [hnx] at HC HX l1
    rw [hmx] at HC HX l2
    obtain ⟨g0, g1, g2, g3⟩ := HC.out wr S.k
    have hnxI : (nx : Int) ≤ 35184372088832 := by omega
    have hmxI : (mx : Int) ≤ 35184372088832 := by omega
    clear hc hx hq hnx hmx
    go_wp2_with fail
    refine (rdigs_any l1 l2).mono ?_
    rintro e W2 ⟨rfl, hk2⟩
    replace S := S.below hk2
    clear hk2 g0 g1 g2 g3
    by_cases hgt : G < nx + mx
    ·have t2 : decide ((G : Int) < (nx : Int) + (mx : Int)) = true := decide_eq_true (by omega)

     have HE := Lib.hid (HF.out fun h => absurd h.1 (by rw [HD.out]; omega))
     go_wp2
     go_ret
     exact ⟨by rw [HE.out]; rfl, S.k⟩
    ·have t2 : decide ((G : Int) < (nx : Int) + (mx : Int)) = false := decide_eq_false (by omega)
     have HN2 := Lib.hid (HS.out (by rw [HD.out]; omega))
     obtain ⟨bb, hbb⟩ : ∃ b, briefB (y1, y2, y3, y4) = b := ⟨_, rfl⟩
     have HBR := Lib.hid (gbrief_any (HX.out _ S.k))
     rw [hbb] at HBR HN2 HF
     clear hbb
     obtain ⟨g0, g1, g2, g3⟩ := HC.out _ S.k

     go_wp2_with fail
     refine HBR.out.mono ?_
     rintro e W3 ⟨rfl, hk3⟩
     replace S := S.below hk3
     clear hk3 g0 g1 g2 g3
     cases bb with
     | false =>
      have HE := Lib.hid (HF.out fun h => by cases h.2)
      go_wp2
      go_ret
      exact ⟨by rw [HE.out]; rfl, S.k⟩
     | true =>
      have HN3 := Lib.hid (HN2.out rfl)
      go_wp2
      go_roundw
      case rel => exact ⟨k + 1, by omega, by go_num, HN3, S⟩
      case measure => simp [intOf]; omega
   ·have hkI : ¬ (k : Int) < (n : Int) := by omega
    have t1 : decide ((k : Int) < (n : Int)) = false := decide_eq_false hkI
    obtain rfl : k = n := by omega
    have HE : Hid (l.all (fun x => decide (raD x ≤ G) && briefB x) = true) := Lib.hid (by have := HA.out; rwa [List.take_of_length_le (by rw [HN.out]; exact Nat.le_refl _)] at this)
    go_wp2
    go_ret
    exact ⟨by rw [HSB.out, HE.out, decide_eq_true HM.out]; rfl, S.k⟩
end Go.Proofs.YtgcigdahjabimaaGreatDoor
