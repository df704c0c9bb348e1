/- The walk of long: the long division. -/
import Derived.Test.YtgcigdahjabimaaGreatDoorPr11
import Derived.Deep.DeepCutAuto
import Derived.Deep.CutBlock
namespace Go.Proofs.YtgcigdahjabimaaGreatDoor
open Go.RowKit Go.Shelf

structure LMem (w0 w : World) (g gv bq : Nat) (us V qs : List Nat) : Prop where
 u : OwnP w g 109 us
 v : OwnP w gv 109 V
 q : Own w bq 109 (u32s qs)
 k : Keeps w0 w
theorem LMem.drewN {w0 w : World} {g gv bq : Nat} {us V qs : List Nat} (h : LMem w0 w g gv bq us V qs) (n : Nat) : LMem w0 (w.drewN n) g gv bq us V qs := ⟨h.u, h.v, h.q, below_drewN h.k n⟩
theorem at_z (A : Option Addr) (n c : Nat) (xs : List Nat) (i : Nat) (z : Int) (w : World) (ez : z = (i : Nat)) (e : xs.length = n) (h : Row w A n (u32 xs)) (hm : n ≤ 1000000000) (hi : i ≤ 1000000000) :
 Calls Tryz.prog 196 #[.slice A n c, .int .i64 z] w fun e w' => e = .returned (.int .u32 (ix xs i : Nat)) ∧ w' = w := by
 subst ez
 exact (at_n A n c xs i w e h hm hi).mono fun _ _ ⟨h1, h2⟩ => ⟨h1, h2.symm⟩
theorem long_scale {bt : Nat} (h0 : bt ≠ 0) (h1 : bt < 1000000000) : 0 < 1000000000 / (bt + 1) ∧ 1000000000 / (bt + 1) < 1000000000 := by
 constructor
 ·exact Nat.div_pos (by omega) (by omega)
 ·rw [Nat.div_lt_iff_lt_mul (by omega)]; omega

set_option maxRecDepth 100000 in
set_option maxHeartbeats 4000000 in
theorem long_any (v1 v2 : Value) (a b : Nat) (w : World) (h1 : U32 w v1 (dig a)) (h2 : U32 w v2 (dig b)) (hl1 : (dig a).length ≤ 900000) (hb2 : 2 ≤ (dig b).length) (hba : b ≤ a) :
 Calls Tryz.prog 170 #[v1, v2] w fun e w' => ∃ q r, e = .returned (.tuple #[q, r]) ∧ U32 w' q (dig (a / b)) ∧ U32 w' r (dig (a % b)) ∧ Keeps w w' := by
 obtain ⟨i0, hi, hz0, hz1, hz2⟩ := info_parts info_u32
 obtain ⟨A1, m1, c1, rfl, e1, -, -, -, r1⟩ := h1.open_
 obtain ⟨A2, m2, c2, rfl, e2, -, -, -, r2⟩ := h2.open_
 have hb0 : b ≠ 0 := by intro e; rw [e, dig_zero] at hb2; simp at hb2
 have hlab := dig_length_mono hba
 have hbt0 := dig_last hb0
 have hbt1 := (AllB.dig b).ix ((dig b).length - 1)
 rw [e2] at hbt0 hbt1 hlab hb2
 obtain ⟨k1, rfl⟩ : ∃ k1, m2 = k1 + 1 := ⟨m2 - 1, by omega⟩
 rw [show k1 + 1 - 1 = k1 by omega] at hbt0 hbt1
 obtain ⟨b2, o2, hA2, hlt2, hcell2⟩ := r2 (by omega)
 subst hA2
 have hx := hcell2 k1 (by omega)
 clear hcell2
 unfold u32 at hx
 generalize ix (dig b) k1 = bt at *
 have hsc := long_scale hbt0 hbt1
 have hbI : (bt : Int) < 1000000000 := by omega
 obtain ⟨sc, hsc0⟩ : ∃ sc, 1000000000 / (bt + 1) = sc := ⟨_, rfl⟩
 rw [hsc0] at hsc
 have hdv : (1000000000 : Int) / ((bt : Int) + 1) = (sc : Int) := by rw [← hsc0]; exact (Int.natCast_ediv 1000000000 (bt + 1)).symm
 have hq1 : (0 : Int) ≤ (k1 : Int) := by omega
 have hq2 : (k1 : Int) < (k1 : Int) + 1 := by omega
 have hsI : (sc : Int) < 1000000000 := by omega
 have hm1 : m1 ≤ 900000 := by omega
 have HE1 := Lib.hid e1
 have HE2 := Lib.hid e2
 have HS := Lib.hid hsc
 clear e1 e2 hsc0
 go_enter Tryz.func170, Tryz.ntmps170
 go_wp2_with fail
 have hds : dig sc = [sc] := dig_small (by omega) (by omega)
 have ho1 := Own.new w 109 (u32s [sc])
 have hk1 := box2 w (.cells (u32s [sc]).toArray 109)
 have hus : U32 (w.alloc (.cells (u32s [sc]).toArray 109)) (.slice (some ⟨w.heap.size, 0, none⟩) 1 1) (dig sc) := by rw [hds]; exact U32.mk (c := 1) ho1.row (by simp) (by simp [maxLen]) (by intro e; cases e)
 refine (times_any _ _ a sc _ (h1.below hk1) hus (by omega) (by rw [hds]; simp)).mono ?_
 rintro e w3 ⟨v3, rfl, hv3, hk3⟩
 have kw3 := hk1.trans' hk3
 go_wp2_with fail
 have ho2 := Own.new w3 109 (u32s [sc])
 have hk4 := box2 w3 (.cells (u32s [sc]).toArray 109)
 have hus2 : U32 (w3.alloc (.cells (u32s [sc]).toArray 109)) (.slice (some ⟨w3.heap.size, 0, none⟩) 1 1) (dig sc) := by rw [hds]; exact U32.mk (c := 1) ho2.row (by simp) (by simp [maxLen]) (by intro e; cases e)
 refine (times_any _ _ b sc _ ((h2.below kw3).below hk4) hus2 (by have := HE2.out; omega) (by rw [hds]; simp)).mono ?_
 rintro e w5 ⟨v5, rfl, hv5, hk5⟩
 have kw35 := hk4.trans' hk5
 have hX0 : a ≤ a * sc := Nat.le_mul_of_pos_right _ hsc.1
 have hY0 : b ≤ b * sc := Nat.le_mul_of_pos_right _ hsc.1
 have hXY : b * sc ≤ a * sc := Nat.mul_le_mul_right _ hba
 have hLX := dig_length_mono hX0
 have hLY := dig_length_mono hY0
 have hLXY := dig_length_mono hXY
 have hLB := dig_length_mul a sc
 rw [hds, HE1.out] at hLB
 rw [HE1.out] at hLX
 rw [HE2.out] at hLY
 simp only [List.length_cons, List.length_nil] at hLB
 obtain ⟨X, hX⟩ : ∃ X, a * sc = X := ⟨_, rfl⟩
 obtain ⟨Y, hY⟩ : ∃ Y, b * sc = Y := ⟨_, rfl⟩
 rw [hX] at hv3 hXY hLX hLXY hLB hX0
 rw [hY] at hv5 hXY hLY hLXY hY0
 obtain ⟨L, hL⟩ : ∃ L, (dig X).length = L := ⟨_, rfl⟩
 obtain ⟨n, hn⟩ : ∃ n, (dig Y).length = n := ⟨_, rfl⟩
 obtain ⟨g0, cap0, rfl, hg0, hc0, hcm0, hp0⟩ := OwnP.of_owns hv3 (by omega)
 obtain ⟨gv, capv, rfl, hgv, hcv, hcmv, hpv⟩ := OwnP.of_owns hv5 (by omega)
 rw [hL] at hLX hLXY hLB hv3 hc0
 rw [hn] at hLY hLXY hv5 hcv
 have hg0lt := hp0.lt
 have hgvlt := hpv.lt
 have hv3' := owns_keep hv3 kw35
 have HX := Lib.hid hX
 have HY := Lib.hid hY
 have HL := Lib.hid hL
 have HN := Lib.hid hn
 simp only [World.size_alloc] at hgv hg0 hv3'
 have kw5 := kw3.trans' kw35
 have hs35 := kw35.size
 clear hX hY hL hn hds ho1 hk1 hus ho2 hk4 hus2 hk3 hk5 hv3 hv5 hba hX0 hsc hdv hx
 have HC0 := Lib.hid hcm0
 have HCV := Lib.hid hcmv
 clear hcm0 hcmv hbt0 hbt1 hbI hq1 hq2
 have HLU := Lib.hid (show (dig X ++ [0]).length = L + 1 by simp [HL.out])
 rw [HL.out, HN.out]
 go_upto_region 6 with (at_builtin; refine wpList_append_own_at _ rfl _ _ 27 rfl (w.heap.size + 1) 109 i0 (.int .u32 0) 1 4 Tryz.underlying27 hi hz0 hz1 hz2 rfl (by decide) _ _ _ rfl (hv3'.alloc _) ⟨w5.heap.size, 0, none⟩ 1 1 [.int .u32 0] rfl rfl (newcell _ _ _) (by simp [Value.oneCell']) (by simp only [maxLen]; omega) (by omega) (by simp; omega) ?_; intro v' w6 hown' hgrow _ hat; rw [show u32s (dig X) ++ [Value.int IntKind.u32 0] = u32s (dig X ++ [0]) from u32s_snoc (dig X) 0 rfl] at hown'; obtain ⟨g, cap, rfl, hg, hcap, hcm, hpu⟩ := OwnP.of_owns hown' (by simp); rw [HLU.out] at hcap hat ⊢; have HC := Lib.hid hcm; clear hcm)
 replace hgrow : World.grownBy _ w6 (some g0) := hgrow
 replace hat : some g = some g0 ∨ some g = some (w5.alloc (.cells #[.int .u32 0] 109)).heap.size := hat
 have hpv6 := (hpv.below (box2 w5 (.cells #[.int .u32 0] 109))).grown hgrow (by intro e; cases e; omega)
 have hgg : gv ≠ g := by
  simp only [Option.some.injEq, World.size_alloc] at hat
  omega
 have kw6 : Keeps w w6 := (kw5.alloc kw5.size _).grown hgrow (by have := kw5.size; simp; omega) (fun k e => by cases e; omega)
 obtain ⟨M, hM⟩ : ∃ M, L + 1 - n = M := ⟨_, rfl⟩
 have hmk := make_u32 ((L : Int) + 1 - (n : Int)) M (by omega) (by omega)
 have hd7 : decide ((L : Int) + 1 ≤ (m1 : Int)) = false := decide_eq_false (by omega)
 have HM := Lib.hid hM
 have HGG := Lib.hid hgg
 clear hM hgrow hat hown' hpv hv3' hp0 hgg
 have hV1 := dig_last (n := Y) (by omega)
 have hVl := HN.out
 have hAX : AllB (dig X ++ [0]) := (AllB.dig X).append (AllB.single (by omega))
 have hX1 : val (dig X ++ [0]) = X := by rw [val_snoc, val_dig]; omega
 have hYn : Y < 1000000000 ^ n := by have := dig_lt Y; rwa [HN.out] at this
 have hY9 : 1000000000 ^ (n - 1) ≤ Y := by have := dig_ge (n := Y) (by omega); rwa [HN.out] at this
 have hdrop : val ((dig X ++ [0]).drop M) < Y := by
  have hl : ((dig X ++ [0]).drop M).length = n := by rw [List.length_drop, HLU.out]; have := HM.out; omega
  have h9 : (dig X ++ [0]).drop M = (dig X).drop M ++ [0] := by rw [List.drop_append_of_le_length (by rw [HL.out]; have := HM.out; omega)]
  rw [h9, val_snoc]
  have h10 := val_lt ((AllB.dig X).drop M)
  rw [List.length_drop, HL.out, show L - M = n - 1 by have := HM.out; omega] at h10
  omega
 have HD := Lib.hid hdrop
 have HYN := Lib.hid hYn
 have HX1 := Lib.hid hX1
 have hYp : 0 < Y := by omega
 have HV1 := Lib.hid hV1
 rw [HN.out] at HV1
 have hML : M + n = L + 1 := by have := HM.out; omega
 have hL9 : L ≤ 900001 := by omega
 have hn2 : 2 ≤ n := by omega
 have hmem : LMem w (w6.alloc (.cells (u32s (List.replicate M 0)).toArray 109)) g gv w6.heap.size (dig X ++ [0]) (dig Y) (List.replicate M 0) :=
  ⟨hpu.below (box2 _ _), hpv6.below (box2 _ _), Own.new w6 _ _, kw6.alloc kw6.size _⟩
 have hgq : g ≠ w6.heap.size := by have := hpu.lt; omega
 have hgvq : gv ≠ w6.heap.size := by have := hpv6.lt; omega
 have hgw : w.heap.size ≤ g := by omega
 have hqw := kw6.size
 clear hdrop hYn hX1 hV1 hVl hY9 hpu hpv6 kw6 kw5 kw3 kw35 hLX hLXY hLB hXY hY0 hlab r1 r2 h1 h2 hlt2 hgvlt hg0lt hs35 hgv hg0 hcv hc0
 go_wp2
 clear hd7 hmk
 go_loopw [10] (fun i wr => ∃ (t : Nat) (us qs : List Nat), t ≤ M ∧ i = .int .i64 ((t : Int) - 1) ∧ us.length = L + 1 ∧ AllB us ∧ qs.length = M ∧ AllB qs ∧ (∀ k, k < t → ix qs k = 0) ∧ X = val qs * Y + val us ∧ val (us.drop t) < Y ∧ LMem w wr g gv w6.heap.size us (dig Y) qs)
  (fun i _ => (intOf i + 1).toNat)
 case atStart => exact ⟨M, dig X ++ [0], List.replicate M 0, Nat.le_refl _, by congr 1; omega, HLU.out, hAX, by simp, AllB.replicate M, fun k _ => by simp [ix, List.getElem?_replicate]; split <;> rfl, by rw [HX1.out, val_replicate]; omega, HD.out, hmem⟩
 case round =>
  obtain ⟨t, us, qs, ht, rfl, hul, hub, hql, hqb', hqz, hXe, hdr, hm⟩ := hrel
  clear hmem hAX
  have HUL := Lib.hid hul
  have HQL := Lib.hid hql
  have HQZ := Lib.hid hqz
  have HXE := Lib.hid hXe
  have HDR := Lib.hid hdr
  clear hul hql hqz hXe hdr
  by_cases ht0 : 0 < t
  ·obtain ⟨j, rfl⟩ : ∃ j, t = j + 1 := ⟨t - 1, by omega⟩
   obtain ⟨s, hs⟩ : ∃ s, j + n = s := ⟨_, rfl⟩
   have hsL : s ≤ L := by omega
   have hu0 := hub.ix s
   have hu1 := hub.ix (s - 1)
   have hcu := hm.u.cell (i := s - 1) (by rw [HUL.out]; omega)
   have hat := fun (nq : Nat) (z : Int) (ez : z = (s : Nat)) => at_z (some ⟨g, 0, none⟩) (L + 1) cap us s z (wr.drewN nq) ez HUL.out (by have := (hm.drewN nq).u.row; rwa [HUL.out] at this) (by omega) (by omega)
   have HAT := Lib.hid hat
   clear hat
   generalize hu0e : ix us s = u0 at *
   generalize hu1e : ix us (s - 1) = u1 at *
   have HU0 := Lib.hid hu0e
   have HU1 := Lib.hid hu1e
   clear hu0e hu1e
   have hI0 : (u0 : Int) < 1000000000 := by omega
   have hI1 : (u1 : Int) < 1000000000 := by omega
   have b0 : (0 : Int) ≤ ((s - 1 : Nat) : Int) := by omega
   have b1 : ((s - 1 : Nat) : Int) < (L : Int) + 1 := by omega
   have g0 : IntKind.i64.wrap (s : Int) = (s : Int) := IntWalk.i64_in _ (by omega)
   have g1 : IntKind.i64.wrap ((s - 1 : Nat) : Int) = ((s - 1 : Nat) : Int) := IntWalk.i64_in _ (by omega)
   have g2 : IntKind.u64.wrap ((u0 : Int) * 1000000000) = (u0 : Int) * 1000000000 := IntWalk.u64_in _ (by omega)
   have g3 : IntKind.u64.wrap ((u0 : Int) * 1000000000 + (u1 : Int)) = (u0 : Int) * 1000000000 + (u1 : Int) := IntWalk.u64_in _ (by omega)
   have e1 : ((s : Int)) - 1 = ((s - 1 : Nat) : Int) := by omega
   have e0 : (j : Int) + (n : Int) = (s : Int) := by omega
   rw [show ((j + 1 : Nat) : Int) - 1 = (j : Int) by omega]
   go_wp2_with fail
   go_quiet ((go_at_call 196; exact Calls.quiet_of_same (HAT.out _ _ rfl)))
   have hm1 := hm.drewN nq
   obtain ⟨W1, hW1⟩ : ∃ W, wr.drewN nq = W := ⟨_, rfl⟩
   rw [hW1] at hm1 ⊢
   clear hW1 hm HAT
   obtain ⟨T, hT⟩ : ∃ T, u0 * 1000000000 + u1 = T := ⟨_, rfl⟩
   rw [show (u0 : Int) * 1000000000 + (u1 : Int) = (T : Int) by omega]
   have hTb : (T : Int) < 1000000000000000000 := by omega
   have HT := Lib.hid hT
   clear hT g0 g1 g2 g3 e1 e0 b0 b1 hI0 hI1 hcu
   have hv1 := HV1.out
   have hv1b := (AllB.dig Y).ix (n - 1)
   have hcv := hm1.v.cell (i := n - 1) (by rw [HN.out]; omega)
   generalize hv1e : ix (dig Y) (n - 1) = y1 at *
   have HY1 := Lib.hid hv1e
   clear hv1e
   have e1 : (n : Int) - 1 = ((n - 1 : Nat) : Int) := by omega
   have b0 : (0 : Int) ≤ ((n - 1 : Nat) : Int) := by omega
   have b1 : ((n - 1 : Nat) : Int) < (n : Int) := by omega
   have g1 : IntKind.i64.wrap ((n - 1 : Nat) : Int) = ((n - 1 : Nat) : Int) := IntWalk.i64_in _ (by omega)
   have g2 : IntKind.u64.wrap (y1 : Int) = (y1 : Int) := IntWalk.u64_in _ (by omega)
   have hqb := Nat.div_le_self T y1
   have hrb := Nat.mod_lt T (show 0 < y1 by omega)
   have hqr := Nat.div_add_mod T y1
   have t1 : ((T : Int).tdiv (y1 : Int)) = ((T / y1 : Nat) : Int) := by rw [Int.natCast_ediv]; exact Int.tdiv_eq_ediv_of_nonneg (by omega)
   have t2 : ((T : Int).tmod (y1 : Int)) = ((T % y1 : Nat) : Int) := by rw [Int.natCast_emod]; exact IntWalk.rem_in _ _ (by omega)
   obtain ⟨G, hG⟩ : ∃ G, T / y1 = G := ⟨_, rfl⟩
   obtain ⟨R, hR⟩ : ∃ R, T % y1 = R := ⟨_, rfl⟩
   rw [hG] at t1 hqb hqr
   rw [hR] at t2 hrb hqr
   have HG := Lib.hid hG
   have HR := Lib.hid hR
   have HQR := Lib.hid hqr
   clear hG hR hqr
   have g4 : IntKind.u64.wrap (G : Int) = (G : Int) := IntWalk.u64_in _ (by omega)
   have g5 : IntKind.u64.wrap (R : Int) = (R : Int) := IntWalk.u64_in _ (by omega)
   go_wp2_with fail
   go_quiet (fail)
   clear e1 b0 b1 g1 g2 t1 t2 g4 g5 hcv
   have hm2 := hm1.drewN nq
   obtain ⟨W2, hW2⟩ : ∃ W, W1.drewN nq = W := ⟨_, rfl⟩
   rw [hW2] at hm2 ⊢
   clear hW2 hm1
   have hF := long_facts (V := dig Y) (j := j) (n := n) (val_dig Y) (AllB.dig Y) HN.out hn2 hub (by rw [HUL.out]; omega) HYN.out HDR.out
   have es : j + n = s := hs
   rw [es, HU0.out, HU1.out, HY1.out] at hF
   have hu2b := hub.ix (s - 2)
   have hy2b := (AllB.dig Y).ix (n - 2)
   have hcu2 := hm2.u.cell (i := s - 2) (by rw [HUL.out]; omega)
   have hcv2 := hm2.v.cell (i := n - 2) (by rw [HN.out]; omega)
   have hcv1 := hm2.v.cell (i := n - 1) (by rw [HN.out]; omega)
   rw [HY1.out] at hcv1
   generalize hu2e : ix us (s - 2) = u2 at *
   generalize hy2e : ix (dig Y) (n - 2) = y2 at *
   have hGT : w.heap.size ≤ g := hgw
   have hTop := hF.top
   have hG9 : G < 2000000000 := by
    have h1 := HG.out
    have h2 := HT.out
    rw [← h1, Nat.div_lt_iff_lt_mul (by omega)]
    have := Nat.mul_le_mul_right 1000000000 hTop
    omega
   have hfst := hF.first hu2b (by omega)
   rw [HT.out, HG.out] at hfst
   obtain ⟨wd, hwd⟩ : ∃ wd, val (us.drop j) = wd := ⟨_, rfl⟩
   rw [hwd] at hF hfst
   have HWD := Lib.hid hwd
   have HFX := Lib.hid hF
   have HUE := Lib.hid hu2e
   have HYE := Lib.hid hy2e
   have HES := Lib.hid es
   have HS2 := Lib.hid hs
   have hRb : R < 1000000000 := by omega
   clear hwd hF hu2e hy2e es hs
   go_upto_block 2 with fail
   go_cut [12] (fun x wx => ∃ G', x = .int .u64 (G' : Nat) ∧ G' < 1000000000 ∧ wd / Y ≤ G' ∧ G' * Y < wd + Y ∧ LMem w wx g gv w6.heap.size us (dig Y) qs)
   case first =>
    go_wp2_with fail
    go_loopw [12, 13] (fun x z wx => ∃ G' R' : Nat, x = .int .u64 (G' : Nat) ∧ z = .int .u64 (R' : Nat) ∧ G' * y1 + R' = T ∧ R' < 1000000000 ∧ G' < 2000000000 ∧ wd / Y ≤ G' ∧ LMem w wx g gv w6.heap.size us (dig Y) qs) (fun _ z _ => 1000000000 - (intOf z).toNat)
    case atStart => exact ⟨G, R, rfl, rfl, by have := HQR.out; rw [Nat.mul_comm]; omega, hRb, hG9, hfst, hm2⟩
    case round =>
     obtain ⟨G', R', rfl, rfl, hGR, hR9, hG2, hGq, hmx⟩ := hrel
     by_cases hc : 1000000000 ≤ G'
     ·have hd1 : decide ((1000000000 : Int) ≤ (G' : Int)) = true := decide_eq_true (by omega)
      have HC1 := Lib.hid hc
      clear hc
      go_wp2_with fail
      go_quiet (fail)
      have hc := HC1.out
      obtain ⟨k, hk⟩ : ∃ k, G' = k + 1 := ⟨G' - 1, by omega⟩
      have hd3 := HFX.out.down (G := G') (R := R') (by rw [HT.out]; exact hGR) hGq (by omega)
      rw [hk, Nat.add_sub_cancel] at hd3
      have hsum : k * y1 + (R' + y1) = T := by rw [hk, Nat.add_mul] at hGR; omega
      have ek : (G' : Int) - 1 = (k : Int) := by omega
      have hk2 : k < 2000000000 := by omega
      have gk : (1 : Int) ≤ (G' : Int) := by omega
      have HDN := Lib.hid hd3
      have HSUM := Lib.hid hsum
      have hmy := hmx.drewN nq
      obtain ⟨W3, hW3⟩ : ∃ W, wr.drewN nq = W := ⟨_, rfl⟩
      rw [hW3] at hmy ⊢
      clear hW3 hmx hd3 hsum hGR hc hGq hk
      have hcw := hmy.v.cell (i := n - 1) (by rw [HN.out]; omega)
      rw [HY1.out] at hcw
      have e1 : (n : Int) - 1 = ((n - 1 : Nat) : Int) := by omega
      have b0 : (0 : Int) ≤ ((n - 1 : Nat) : Int) := by omega
      have b1 : ((n - 1 : Nat) : Int) < (n : Int) := by omega
      by_cases hr : R' + y1 < 1000000000
      ·have hd2 : decide ((1000000000 : Int) ≤ (R' : Int) + (y1 : Int)) = false := decide_eq_false (by omega)
       have HR2 := Lib.hid hr
       clear hr
       go_wp2_with fail
       go_roundw
       case rel => exact ⟨k, R' + y1, by go_num, by go_num, HSUM.out, HR2.out, by omega, HDN.out, hmy⟩
       case measure => have := HR2.out; simp [intOf]; omega
      ·have hd2 : decide ((1000000000 : Int) ≤ (R' : Int) + (y1 : Int)) = true := decide_eq_true (by omega)
       have HR2 := Lib.hid hr
       clear hr
       go_wp2_with fail
       go_meet
       have hk9 : k < 1000000000 := guess_break HSUM.out (by have := HR2.out; omega) (by have := HT.out; have := Nat.mul_le_mul_right 1000000000 hTop; omega)
       refine ⟨k, by go_num, hk9, HDN.out, HFX.out.up (by omega) (by omega) (by rw [HT.out]; exact HSUM.out) ?_, hmy⟩
       have := Nat.mul_le_mul (show k ≤ 1000000000 by omega) (show y2 ≤ 1000000000 by omega)
       have := HR2.out
       omega
     ·have hd1 : decide ((1000000000 : Int) ≤ (G' : Int)) = false := decide_eq_false (by omega)
      have hpb := Nat.mul_le_mul (show G' ≤ 1000000000 by omega) (show y2 ≤ 1000000000 by omega)
      have hcu2' := hmx.u.cell (i := s - 2) (by rw [HUL.out]; omega)
      have hcv2' := hmx.v.cell (i := n - 2) (by rw [HN.out]; omega)
      rw [HUE.out] at hcu2'
      rw [HYE.out] at hcv2'
      have HC1 := Lib.hid hc
      have hI2 : (u2 : Int) < 1000000000 := by omega
      have hI3 : (R' : Int) < 1000000000 := by omega
      have hI4 : (y2 : Int) < 1000000000 := by omega
      obtain ⟨p, hp⟩ : ∃ p, G' * y2 = p := ⟨_, rfl⟩
      rw [hp] at hpb
      have HP := Lib.hid hp
      have x1 : (G' : Int) * (y2 : Int) = (p : Int) := by rw [← hp, Int.natCast_mul]
      clear hc hp
      have x2 : IntKind.u64.wrap (p : Int) = (p : Int) := IntWalk.u64_in _ (by omega)
      have x3 : IntKind.u64.wrap ((R' : Int) * 1000000000) = (R' : Int) * 1000000000 := IntWalk.u64_in _ (by omega)
      have x4 : IntKind.u64.wrap ((R' : Int) * 1000000000 + (u2 : Int)) = (R' : Int) * 1000000000 + (u2 : Int) := IntWalk.u64_in _ (by omega)
      have x5 : IntKind.u64.wrap (y2 : Int) = (y2 : Int) := IntWalk.u64_in _ (by omega)
      have x6 : IntKind.u64.wrap (u2 : Int) = (u2 : Int) := IntWalk.u64_in _ (by omega)
      have c1 : (0 : Int) ≤ ((n - 2 : Nat) : Int) := by omega
      have c2 : ((n - 2 : Nat) : Int) < (n : Int) := by omega
      have c3 : (0 : Int) ≤ ((s - 2 : Nat) : Int) := by omega
      have c4 : ((s - 2 : Nat) : Int) < (L : Int) + 1 := by omega
      have w1 : IntKind.i64.wrap ((n - 2 : Nat) : Int) = ((n - 2 : Nat) : Int) := IntWalk.i64_in _ (by omega)
      have w2 : IntKind.i64.wrap ((s - 2 : Nat) : Int) = ((s - 2 : Nat) : Int) := IntWalk.i64_in _ (by omega)
      have w3 : IntKind.i64.wrap (s : Int) = (s : Int) := IntWalk.i64_in _ (by omega)
      have y0 : (j : Int) + (n : Int) = (s : Int) := by have := HS2.out; omega
      by_cases hc2 : R' * 1000000000 + u2 < p
      ·have hg1 : 1 ≤ G' := by
        have := HP.out
        rcases Nat.eq_zero_or_pos G' with h0 | h0
        ·subst h0; omega
        ·omega
       have hd2 : decide ((R' : Int) * 1000000000 + (u2 : Int) < (p : Int)) = true := decide_eq_true (by omega)
       have e2 : (n : Int) - 2 = ((n - 2 : Nat) : Int) := by omega
       have e3 : (s : Int) - 2 = ((s - 2 : Nat) : Int) := by omega
       have HC2 := Lib.hid hc2
       clear hc2
       go_wp2_with fail
       go_quiet (fail)
       clear e2 e3 y0 w1 w2 w3 c1 c2 c3 c4 x1 x2 x3 x4 x5 x6 hd1 hd2 hcu2' hcv2'
       have hc := HC2.out
       rw [← HP.out] at hc
       obtain ⟨k, hk⟩ : ∃ k, G' = k + 1 := ⟨G' - 1, by omega⟩
       have hd3 := HFX.out.down (G := G') (R := R') (by rw [HT.out]; exact hGR) hGq (by omega)
       rw [hk, Nat.add_sub_cancel] at hd3
       have hsum : k * y1 + (R' + y1) = T := by rw [hk, Nat.add_mul] at hGR; omega
       have ek : (G' : Int) - 1 = (k : Int) := by omega
       have hk2 : k < 2000000000 := by omega
       have gk : (1 : Int) ≤ (G' : Int) := by omega
       have HDN := Lib.hid hd3
       have HSUM := Lib.hid hsum
       have hmy := hmx.drewN nq
       obtain ⟨W3, hW3⟩ : ∃ W, wr.drewN nq = W := ⟨_, rfl⟩
       rw [hW3] at hmy ⊢
       clear hW3 hmx hd3 hsum hGR hc hGq hk
       have hcw := hmy.v.cell (i := n - 1) (by rw [HN.out]; omega)
       rw [HY1.out] at hcw
       have e1 : (n : Int) - 1 = ((n - 1 : Nat) : Int) := by omega
       have b0 : (0 : Int) ≤ ((n - 1 : Nat) : Int) := by omega
       have b1 : ((n - 1 : Nat) : Int) < (n : Int) := by omega
       by_cases hr : R' + y1 < 1000000000
       ·have hd2 : decide ((1000000000 : Int) ≤ (R' : Int) + (y1 : Int)) = false := decide_eq_false (by omega)
        have HR2 := Lib.hid hr
        clear hr
        go_wp2_with fail
        go_roundw
        case rel => exact ⟨k, R' + y1, by go_num, by go_num, HSUM.out, HR2.out, by omega, HDN.out, hmy⟩
        case measure => have := HR2.out; simp [intOf]; omega
       ·have hd2 : decide ((1000000000 : Int) ≤ (R' : Int) + (y1 : Int)) = true := decide_eq_true (by omega)
        have HR2 := Lib.hid hr
        clear hr
        go_wp2_with fail
        go_meet
        have hk9 : k < 1000000000 := guess_break HSUM.out (by have := HR2.out; omega) (by have := HT.out; have := Nat.mul_le_mul_right 1000000000 hTop; omega)
        refine ⟨k, by go_num, hk9, HDN.out, HFX.out.up (by omega) (by omega) (by rw [HT.out]; exact HSUM.out) ?_, hmy⟩
        have := Nat.mul_le_mul (show k ≤ 1000000000 by omega) (show y2 ≤ 1000000000 by omega)
        have := HR2.out
        omega
      ·have hd2 : decide ((R' : Int) * 1000000000 + (u2 : Int) < (p : Int)) = false := decide_eq_false (by omega)
       have e2 : (n : Int) - 2 = ((n - 2 : Nat) : Int) := by omega
       have e3 : (s : Int) - 2 = ((s - 2 : Nat) : Int) := by omega
       have HC2 := Lib.hid hc2
       clear hc2
       go_wp2_with fail
       go_quiet (fail)
       clear e2 e3 y0 w1 w2 w3 c1 c2 c3 c4 x1 x2 x3 x4 x5 x6 hd1 hd2 hcu2' hcv2'
       go_wp2_with fail
       go_meet
       exact ⟨G', rfl, by have := HC1.out; omega, hGq, HFX.out.up (by omega) (by have := HC1.out; omega) (by rw [HT.out]; exact hGR) (by rw [HP.out]; have := HC2.out; omega), hmx.drewN nq⟩
   case rest =>
    obtain ⟨G', rfl, hG9', hGq, hGY, hm3⟩ := hcut
    have hzero := high_zero (n := n) (Nat.lt_trans HDR.out HYN.out)
    have HZO := Lib.hid hzero
    clear hzero hcu2 hcv2 hcv1 hTop hfst hm2
    go_wp2_with fail
    go_loopw [14, 15, 137] (fun bo ca ii wr => ∃ (i cc bb : Nat) (us' : List Nat), i ≤ n ∧ ii = .int .i64 (i : Nat) ∧ ca = .int .u64 (cc : Nat) ∧ bo = .int .i64 (bb : Nat) ∧ cc < 1000000000 ∧ bb ≤ 1 ∧ us'.length = L + 1 ∧ AllB us' ∧
     (∀ k, k < j ∨ j + i ≤ k → ix us' k = ix us k) ∧ wv us' j i + G' * val ((dig Y).take i) = wv us j i + (cc + bb) * 1000000000 ^ i ∧ LMem w wr g gv w6.heap.size us' (dig Y) qs)
     (fun _ _ ii _ => n - (intOf ii).toNat)
    case atStart => exact ⟨0, 0, 0, us, by omega, rfl, rfl, rfl, by omega, by omega, HUL.out, hub, fun k _ => rfl, by simp [wv_zero, val], hm3⟩
    case round =>
     obtain ⟨i, cc, bb, us', hin, rfl, rfl, rfl, hcc, hbb, hul', hub', hout, hval, hm4⟩ := hrel
     have HUL' := Lib.hid hul'
     have HOUT := Lib.hid hout
     have HVAL := Lib.hid hval
     clear hul' hout hval
     by_cases hlt : i < n
     ·have hcu := hm4.u.cell (i := j + i) (by rw [HUL'.out]; omega)
      have hfu := hm4.u.frozen (j + i)
      have hcv := hm4.v.cell (i := i) (by rw [HN.out]; omega)
      have hvb := (AllB.dig Y).ix i
      have hubi := hub'.ix (j + i)
      have hpr := Nat.mul_le_mul (show G' ≤ 999999999 by omega) (show ix (dig Y) i ≤ 999999999 by omega)
      obtain ⟨P, hP⟩ : ∃ P, G' * ix (dig Y) i + cc = P := ⟨_, rfl⟩
      obtain ⟨x, hx⟩ : ∃ x, ix us' (j + i) = x := ⟨_, rfl⟩
      obtain ⟨v, hv⟩ : ∃ v, ix (dig Y) i = v := ⟨_, rfl⟩
      rw [hx] at hcu hubi
      rw [hv] at hcv hP hpr hvb
      have hpI : (G' : Int) * (v : Int) ≤ 999999998000000001 := by rw [← Int.natCast_mul]; omega
      have hpJ : (0 : Int) ≤ (G' : Int) * (v : Int) := by rw [← Int.natCast_mul]; exact Int.natCast_nonneg _
      have hPe : (G' : Int) * (v : Int) + (cc : Int) = (P : Int) := by rw [← hP]; push_cast; rfl
      have hPb : (P : Int) < 1000000000000000000 := by omega
      have HP := Lib.hid hP
      have HX := Lib.hid hx
      have HV := Lib.hid hv
      have HPE := Lib.hid hPe
      clear hP hx hv hPe hpr
      have i1 : (i : Int) < (n : Int) := by omega
      have i2 : (i : Int) + (j : Int) < (L : Int) + 1 := by omega
      rw [Nat.add_comm j i] at hcu hfu
      go_upto_region 23 with fail
      rw [HPE.out]
      clear hpI hpJ
      by_cases hd : (x : Int) - (bb : Int) - (P : Int) % 1000000000 < 0
      ·have hD : decide ((x : Int) - (bb : Int) - (P : Int) % 1000000000 < 0) = true := decide_eq_true hd
       go_wp2
       go_roundw
       case rel =>
        refine ⟨i + 1, P / 1000000000, 1, us'.set (i + j) (x + 1000000000 - bb - P % 1000000000), by omega, by go_num, by congr 1, rfl, by omega, by omega, by rw [List.length_set]; exact HUL'.out, hub'.set _ _ (by omega), ?_, ?_,
         ⟨hm4.u.put (i + j) _ (by omega), hm4.v.far HGG.out _, hm4.q.far (Ne.symm hgq) _, hm4.k.set hgw _⟩⟩
        ·intro k hk
         rw [ix_set _ _ _ _ (by rw [HUL'.out]; omega), if_neg (by omega)]
         exact HOUT.out k (by omega)
        ·rw [Nat.add_comm i j, ← HP.out, ← HV.out]
         exact msub_step (by rw [HUL'.out]; omega) HVAL.out (by rw [HV.out, HP.out, ← HOUT.out (j + i) (by omega), HX.out]; omega)
       case measure => simp [intOf]; omega
      ·have hD : decide ((x : Int) - (bb : Int) - (P : Int) % 1000000000 < 0) = false := decide_eq_false hd
       go_wp2
       go_roundw
       case rel =>
        refine ⟨i + 1, P / 1000000000, 0, us'.set (i + j) (x - bb - P % 1000000000), by omega, by go_num, by congr 1, rfl, by omega, by omega, by rw [List.length_set]; exact HUL'.out, hub'.set _ _ (by omega), ?_, ?_,
         ⟨hm4.u.put (i + j) _ (by omega), hm4.v.far HGG.out _, hm4.q.far (Ne.symm hgq) _, hm4.k.set hgw _⟩⟩
        ·intro k hk
         rw [ix_set _ _ _ _ (by rw [HUL'.out]; omega), if_neg (by omega)]
         exact HOUT.out k (by omega)
        ·rw [Nat.add_comm i j, ← HP.out, ← HV.out]
         exact msub_step (by rw [HUL'.out]; omega) HVAL.out (by rw [HV.out, HP.out, ← HOUT.out (j + i) (by omega), HX.out]; omega)
       case measure => simp [intOf]; omega
     ·obtain rfl : n = i := by omega
      have hcu := hm4.u.cell (i := j + n) (by rw [HUL'.out]; omega)
      have hfu := hm4.u.frozen (j + n)
      rw [HOUT.out (j + n) (by omega), show ix us (j + n) = u0 by rw [HES.out]; exact HU0.out] at hcu
      have i2 : (j : Int) + (n : Int) < (L : Int) + 1 := by omega
      have i3 : (u0 : Int) < 1000000000 := by omega
      have HYF := Lib.hid (show val ((dig Y).take n) = Y by rw [List.take_of_length_le (by rw [HN.out]; exact Nat.le_refl _), val_dig])
      have HWE := Lib.hid (show wd = wv us j n + u0 * 1000000000 ^ n by
       have := drop_val (us := us) (j := j) (n := n) (fun k hk => HZO.out k (by omega))
       rw [HWD.out, HES.out, HU0.out] at this
       exact this)
      have hjL : j + n < us.length := by rw [HUL.out]; omega
      have HPT := Lib.hid (fun x : Nat => put_top (x := x) (HUL'.out.trans HUL.out.symm) hjL (fun k hk => HZO.out k (by omega)) (fun k hk => HOUT.out k (by omega)))
      have hcq := hm4.q.u32cell (i := j) (by rw [HQL.out]; omega)
      have hfq := hm4.q.frozen j
      have hjM : (j : Int) < (M : Int) := by omega
      have hg'I : (G' : Int) < 1000000000 := by omega
      clear hjL hlt hin
      by_cases hd : cc + bb ≤ u0
      ·have hD : decide ((u0 : Int) - (bb : Int) - (cc : Int) < 0) = false := decide_eq_false (by omega)
       have hse := sub_end hYp (by have := HVAL.out; rwa [HYF.out] at this) HWE.out hd hGq hGY
       have HSE := Lib.hid hse
       have hI9 : (0 : Int) ≤ (u0 : Int) - (bb : Int) - (cc : Int) := by omega
       have HDD := Lib.hid hd
       clear hse hd
       go_wp2_with fail
       go_roundw
       case rel =>
        have hput := HPT.out (u0 - (cc + bb))
        refine ⟨j, us'.set (j + n) (u0 - (cc + bb)), qs.set j G', by omega, rfl, by rw [List.length_set]; exact HUL'.out, hub'.set _ _ (by omega), by rw [List.length_set]; exact HQL.out, hqb'.set _ _ (by omega), ?_, ?_, ?_,
         ⟨(hm4.u.put (j + n) _ (by have := HDD.out; omega)).far hgq _, (hm4.v.far HGG.out _).far hgvq _, (hm4.q.far (Ne.symm hgq) _).put j G' rfl, (hm4.k.set hgw _).set hqw _⟩⟩
        ·intro k hk
         rw [ix_set _ _ _ _ (by rw [HQL.out]; omega), if_neg (by omega)]
         exact HQZ.out k (by omega)
        ·refine long_step (us := us) (by rw [HUL.out]; omega) (by rw [HQL.out]; omega) (HQZ.out j (by omega)) (by rw [List.length_set]; exact HUL'.out.trans HUL.out.symm) hput.2.1 ?_ HXE.out
         rw [hput.1, HWD.out]
         exact HSE.out.1
        ·rw [hput.1]; exact HSE.out.2.2
       case measure => simp [intOf]
      ·have hD : decide ((u0 : Int) - (bb : Int) - (cc : Int) < 0) = true := decide_eq_true (by omega)
       have hw1 := wv_lt hub' j n
       have hG1 : (1 : Int) ≤ (G' : Int) := by
        rcases Nat.eq_zero_or_pos G' with h0 | h0
        ·exfalso
         have h5 := HVAL.out
         rw [h0, Nat.zero_mul] at h5
         have h6 := Nat.mul_le_mul_right (1000000000 ^ n) (show 1 ≤ cc + bb by omega)
         omega
        ·omega
       have HW1 := Lib.hid hw1
       have HDD := Lib.hid hd
       clear hd hw1
       obtain ⟨x3, hx3⟩ : ∃ x3, u0 + 1000000000 - (cc + bb) = x3 := ⟨_, rfl⟩
       have hx3e : (u0 : Int) - (bb : Int) - (cc : Int) + 1000000000 = (x3 : Int) := by omega
       have hx3b : (x3 : Int) < 1000000000 := by have := HDD.out; omega
       have HX3 := Lib.hid hx3
       have HX3E := Lib.hid hx3e
       clear hx3 hx3e
       obtain ⟨us3, hus3⟩ : ∃ u, us'.set (j + n) x3 = u := ⟨_, rfl⟩
       have hm5 : LMem w (wr.setCell ⟨g, j + n, none⟩ (.int .u32 (x3 : Nat))) g gv w6.heap.size us3 (dig Y) qs := ⟨by rw [← hus3]; exact hm4.u.put (j + n) _ rfl, hm4.v.far HGG.out _, hm4.q.far (Ne.symm hgq) _, hm4.k.set hgw _⟩
       have hul3 : us3.length = L + 1 := by rw [← hus3, List.length_set]; exact HUL'.out
       have hub3 : AllB us3 := by rw [← hus3]; exact hub'.set _ _ (by omega)
       have HUS3 := Lib.hid hus3
       have HUL3 := Lib.hid hul3
       clear hus3 hul3
       go_wp2_with fail
       rw [HX3E.out]
       clear hcu hfu hcq hfq hm4
       go_loopw [20, 201] (fun co ii wr => ∃ (i c : Nat) (us4 : List Nat), i ≤ n ∧ ii = .int .i64 (i : Nat) ∧ co = .int .u32 (c : Nat) ∧ c ≤ 1 ∧ us4.length = L + 1 ∧ AllB us4 ∧
        (∀ k, k < j ∨ j + i ≤ k → ix us4 k = ix us3 k) ∧ wv us4 j i + c * 1000000000 ^ i = wv us3 j i + val ((dig Y).take i) ∧ LMem w wr g gv w6.heap.size us4 (dig Y) qs)
        (fun _ ii _ => n - (intOf ii).toNat)
       case atStart => exact ⟨0, 0, us3, by omega, rfl, rfl, by omega, HUL3.out, hub3, fun k _ => rfl, by simp [wv_zero, val], hm5⟩
       case round =>
        obtain ⟨i, c, us4, hin, rfl, rfl, hc1, hul4, hub4, hout4, hval4, hm6⟩ := hrel
        have HUL4 := Lib.hid hul4
        have HOUT4 := Lib.hid hout4
        have HVAL4 := Lib.hid hval4
        clear hul4 hout4 hval4
        by_cases hlt : i < n
        ·have hcu := hm6.u.cell (i := j + i) (by rw [HUL4.out]; omega)
         have hfu := hm6.u.frozen (j + i)
         have hcv := hm6.v.cell (i := i) (by rw [HN.out]; omega)
         have hvb := (AllB.dig Y).ix i
         have hubi := hub4.ix (j + i)
         obtain ⟨x, hx⟩ : ∃ x, ix us4 (j + i) = x := ⟨_, rfl⟩
         obtain ⟨v, hv⟩ : ∃ v, ix (dig Y) i = v := ⟨_, rfl⟩
         rw [hx] at hcu hubi
         rw [hv] at hcv hvb
         have HX := Lib.hid hx
         have HV := Lib.hid hv
         obtain ⟨r, hr⟩ : ∃ r, i + j = r := ⟨_, rfl⟩
         rw [Nat.add_comm j i, hr] at hcu hfu
         have hrL : r < L + 1 := by omega
         have HRR := Lib.hid hr
         have c1 : (0 : Int) ≤ (r : Int) := by omega
         have c2 : (r : Int) < (L : Int) + 1 := by omega
         have c3 : (0 : Int) ≤ (i : Int) := by omega
         have c4 : (i : Int) < (n : Int) := by omega
         have w1 : IntKind.i64.wrap (r : Int) = (r : Int) := IntWalk.i64_in _ (by omega)
         have w2 : IntKind.u32.wrap ((x : Int) + (v : Int)) = (x : Int) + (v : Int) := IntWalk.u32_in _ (by omega)
         have w3 : IntKind.u32.wrap ((x : Int) + (v : Int) + (c : Int)) = (x : Int) + (v : Int) + (c : Int) := IntWalk.u32_in _ (by omega)
         have y0 : (i : Int) + (j : Int) = (r : Int) := by omega
         clear hx hv hr
         go_wp2_with fail
         go_quiet (fail)
         have hm7 := hm6.drewN nq
         obtain ⟨W3, hW3⟩ : ∃ W, wr.drewN nq = W := ⟨_, rfl⟩
         rw [hW3] at hm7 ⊢
         clear hW3 hm6 w1 w2 w3 hcu hfu hcv
         have hcu := hm7.u.cell (i := r) (by rw [HUL4.out]; omega)
         have hfu := hm7.u.frozen r
         by_cases hs9 : x + v + c < 1000000000
         ·have hD9 : decide ((1000000000 : Int) ≤ (x : Int) + (v : Int) + (c : Int)) = false := decide_eq_false (by omega)
          go_wp2
          go_roundw
          case rel =>
           refine ⟨i + 1, 0, us4.set r (x + v + c), by omega, by go_num, rfl, by omega, by rw [List.length_set]; exact HUL4.out, hub4.set _ _ (by omega), ?_, ?_,
            ⟨hm7.u.put r _ (by omega), hm7.v.far HGG.out _, hm7.q.far (Ne.symm hgq) _, hm7.k.set hgw _⟩⟩
           ·intro k hk
            rw [ix_set _ _ _ _ (by rw [HUL4.out]; omega), if_neg (by have := HRR.out; omega)]
            exact HOUT4.out k (by omega)
           ·rw [← HRR.out, Nat.add_comm i j]
            exact aback_step (by rw [HUL4.out]; have := HRR.out; omega) HVAL4.out (by rw [← HOUT4.out (j + i) (by omega), HX.out, HV.out]; omega)
          case measure => simp [intOf]; omega
         ·have hD9 : decide ((1000000000 : Int) ≤ (x : Int) + (v : Int) + (c : Int)) = true := decide_eq_true (by omega)
          go_wp2
          go_roundw
          case rel =>
           refine ⟨i + 1, 1, us4.set r (x + v + c - 1000000000), by omega, by go_num, rfl, by omega, by rw [List.length_set]; exact HUL4.out, hub4.set _ _ (by omega), ?_, ?_,
            ⟨hm7.u.put r _ (by omega), hm7.v.far HGG.out _, hm7.q.far (Ne.symm hgq) _, hm7.k.set hgw _⟩⟩
           ·intro k hk
            rw [ix_set _ _ _ _ (by rw [HUL4.out]; omega), if_neg (by have := HRR.out; omega)]
            exact HOUT4.out k (by omega)
           ·rw [← HRR.out, Nat.add_comm i j]
            exact aback_step (by rw [HUL4.out]; have := HRR.out; omega) HVAL4.out (by rw [← HOUT4.out (j + i) (by omega), HX.out, HV.out]; omega)
          case measure => simp [intOf]; omega
        ·obtain rfl : n = i := by omega
         have h3x : ix us3 (j + n) = x3 := by rw [← HUS3.out, ix_set _ _ _ _ (by rw [HUL'.out]; omega), if_pos rfl]
         have h3w : wv us3 j n = wv us' j n := by rw [← HUS3.out, wv_set (by rw [HUL'.out]; omega) (Nat.le_refl _)]
         have hab := aback_end (w1 := wv us' j n) (w4 := wv us4 j n) (c := c) hYp HYN.out (by have := HVAL.out; rwa [HYF.out] at this) HWE.out (by have := HDD.out; omega) HW1.out (wv_lt hub4 j n) (by have := HVAL4.out; rwa [HYF.out, h3w] at this) hc1 hGq hGY
         have hcu := hm6.u.cell (i := j + n) (by rw [HUL4.out]; omega)
         have hfu := hm6.u.frozen (j + n)
         have hcq := hm6.q.u32cell (i := j) (by rw [HQL.out]; omega)
         have hfq := hm6.q.frozen j
         rw [HOUT4.out (j + n) (by omega), h3x] at hcu
         obtain ⟨ha1, ha2, ha3, ha4, ha5⟩ := hab
         have hx9 : x3 = 999999999 := by have := HX3.out; omega
         obtain ⟨qk, hqk⟩ : ∃ qk, wd / Y = qk := ⟨_, rfl⟩
         rw [hqk] at ha1 ha4
         have hgk : (G' : Int) - 1 = (qk : Int) := by omega
         have hqkb : (qk : Int) < 1000000000 := by omega
         have HA4 := Lib.hid ha4
         have HA5 := Lib.hid ha5
         have HGK := Lib.hid hgk
         have hpt := put_top (us := us) (us' := us4) (j := j) (n := n) (x := 0) (HUL4.out.trans HUL.out.symm) (by rw [HUL.out]; omega) (fun k hk => HZO.out k (by omega)) (fun k hk => by
          rw [HOUT4.out k (by omega), ← HUS3.out, ix_set _ _ _ _ (by rw [HUL'.out]; omega), if_neg (by omega)]
          exact HOUT.out k (by omega))
         have HPT4 := Lib.hid hpt
         subst ha2 hx9
         clear ha1 ha3 ha4 ha5 hqk hgk hpt h3x h3w hlt hin hGq hGY
         rw [HGK.out]
         go_wp2_with fail
         go_roundw
         case rel =>
          refine ⟨j, us4.set (j + n) 0, qs.set j qk, by omega, rfl, by rw [List.length_set]; exact HUL4.out, hub4.set _ _ (by omega), by rw [List.length_set]; exact HQL.out, hqb'.set _ _ (by omega), ?_, ?_, ?_,
           ⟨(hm6.u.put (j + n) 0 (by omega)).far hgq _, (hm6.v.far HGG.out _).far hgvq _, (hm6.q.far (Ne.symm hgq) _).put j qk rfl, (hm6.k.set hgw _).set hqw _⟩⟩
          ·intro k hk
           rw [ix_set _ _ _ _ (by rw [HQL.out]; omega), if_neg (by omega)]
           exact HQZ.out k (by omega)
          ·refine long_step (us := us) (by rw [HUL.out]; omega) (by rw [HQL.out]; omega) (HQZ.out j (by omega)) (by rw [List.length_set]; exact HUL4.out.trans HUL.out.symm) HPT4.out.2.1 ?_ HXE.out
           rw [HPT4.out.1, HWD.out, Nat.zero_mul, Nat.add_zero]
           exact HA4.out
          ·rw [HPT4.out.1, Nat.zero_mul, Nat.add_zero]; exact HA5.out
         case measure => simp [intOf]
  ·obtain rfl : t = 0 := by omega
   have hdr := HDR.out
   rw [List.drop_zero] at hdr
   have hq := div_of HXE.out hdr
   have hX9 := HX.out
   have hY9 := HY.out
   have hsc9 := HS.out
   have hqv : val qs = a / b := by rw [hq.1, ← hX9, ← hY9, Nat.mul_div_mul_right _ _ hsc9.1]
   have hrv : val us = (a % b) * sc := by rw [hq.2, ← hX9, ← hY9, Nat.mul_mod_mul_right]
   have htk : val (us.take n) = val us := by
    have h1 := val_split us n (by rw [HUL.out]; omega)
    have h2 : val (us.drop n) = 0 := by
     refine zero_val fun k _ => ?_
     rw [ix_drop]
     exact high_zero (t := 0) (n := n) (us := us) (by rw [List.drop_zero]; exact Nat.lt_trans hdr HYN.out) _ (by omega)
    rw [h2] at h1
    omega
   have htl : trimL (us.take n) = dig ((a % b) * sc) := by rw [trimL_eq (hub.take n), htk, hrv]
   have htq : trimL qs = dig (a / b) := by rw [trimL_eq hqb', hqv]
   have hlt : (us.take n).length = n := by rw [List.length_take, HUL.out]; omega
   have hrow : Row wr (some ⟨g, 0, none⟩) n (u32 (us.take n)) := by
    have h1 := hm.u.row
    rw [HUL.out] at h1
    refine (h1.take (show n ≤ L + 1 by omega)).congr fun k hk => ?_
    unfold u32
    rw [ix_take _ _ _ hk]
   have hut : U32 wr (.slice (some ⟨g, 0, none⟩) (trimL (us.take n)).length cap) (dig ((a % b) * sc)) := by
    rw [← htl]
    exact U32.trim (by rw [hlt]; exact hrow) (by rw [hlt]; omega) HC.out (by intro e; cases e)
   have hll := trimL_length_le (us.take n)
   rw [hlt] at hll
   have hmul : (a % b) * sc / sc = a % b := Nat.mul_div_cancel _ hsc9.1
   have HTL := Lib.hid htl
   have HTQ := Lib.hid htq
   have HMUL := Lib.hid hmul
   have HLT := Lib.hid hlt
   have j1 : (n : Int) ≤ (cap : Int) := by omega
   clear hdr hq hX9 hY9 hqv hrv htk htl htq hlt hmul
   go_wp2_with fail
   refine (trim_n _ n cap (us.take n) _ HLT.out hrow (by omega) HC.out).mono ?_
   rintro e w7 ⟨rfl, rfl⟩
   go_wp2_with fail
   refine (mshort_any _ ((a % b) * sc) sc _ hut (by rw [← HTL.out]; omega) hsc9.1 (by omega)).mono ?_
   rintro e w8 ⟨v8, rfl, hu8, hk8⟩
   rw [HMUL.out] at hu8
   have hq8 := hm.q.below hk8
   go_wp2_with fail
   refine (trim_n _ M M qs _ HQL.out (by have := hq8.row; rwa [HQL.out] at this) (Nat.le_refl _) (by simp only [maxLen]; omega)).mono ?_
   rintro e w9 ⟨rfl, rfl⟩
   go_wp2
   go_ret2
   refine ⟨_, _, rfl, ?_, hu8, hm.k.trans' hk8⟩
   show U32 _ (.slice (some ⟨w6.heap.size, 0, none⟩) (trimL qs).length M) _
   rw [← HTQ.out]
   exact U32.trim hq8.row (by rw [HQL.out]; exact Nat.le_refl _) (by simp only [maxLen]; omega) (by intro e; cases e)
end Go.Proofs.YtgcigdahjabimaaGreatDoor
