/- contour.triangles: the walk, for the function that total hands to it. -/
import Derived.Test.YtecibfncnaccjaaGreatPo30
namespace Go.Proofs.YtecibfncnaccjaaGreat
open Go.RowKit Go.Shelf
abbrev visV (p1 p2 p3 p4 p5 : Nat) : Value := .func (.func 72) #[] #[.pointer (some ⟨p1, 0, none⟩), .pointer (some ⟨p2, 0, none⟩), .pointer (some ⟨p3, 0, none⟩), .pointer (some ⟨p4, 0, none⟩), .pointer (some ⟨p5, 0, none⟩)]
structure VisI (Inv : List Tri → List Bx → World → Prop) (A : Option Addr) (zs : List Int) : Prop where
 row : ∀ l bs u, Inv l bs u → IRow u A zs
 st : ∀ l bs u u', Inv l bs u → Keeps u u' → Inv l bs u'
 add : ∀ l bs u t vs, Inv l bs u → Inv l ((u.heap.size, t, vs) :: bs) (u.alloc (.cells vs.toArray t))
 drop : ∀ l b bs u, Inv l (b :: bs) u → Inv l bs u
 own : ∀ l bs u b, Inv l bs u → b ∈ bs → Own u b.1 b.2.1 b.2.2
theorem preT_len2 {zs : List Int} {W H j i e : Nat} (hj : j + 1 < H) (hi : i + 1 < W) : (preT zs W j i e).length ≤ 2 * (W * H) + 2 := by
 unfold preT
 refine Nat.le_trans (List.length_filter_le _ _) ?_
 rw [List.length_append, List.length_append]
 have h1 := allT_len W j
 have h2 := rowT_len W (j * W) i
 have h3 : ((pairT W (j * W + i)).take e).length ≤ 2 := by rw [List.length_take]; exact Nat.min_le_right _ _
 have h4 := idx_lt (W := W) (H := H) (x := i) (y := j) (by omega) (by omega)
 have h5 : j * (W * 2) = 2 * (j * W) := by rw [← Nat.mul_assoc, Nat.mul_comm]
 omega
theorem pair_mem {W H j i e : Nat} {zs : List Int} {t : Tri} (hj : j + 1 < H) (hi : i + 1 < W) (h : (pairT W (j * W + i))[e]? = some t) (hh : hereT zs t = true) : t ∈ triL W H zs := by
 refine List.mem_filter.2 ⟨?_, hh⟩
 unfold allT rowT
 simp only [List.mem_flatMap, List.mem_range]
 exact ⟨j, by omega, i, by omega, List.mem_of_getElem? h⟩
set_option maxRecDepth 100000 in
set_option maxHeartbeats 4000000 in
theorem ctriangles_any {Inv : List Tri → List Bx → World → Prop} {p1 p2 p3 p4 p5 : Nat} {W H : Nat} {w : World} {A : Option Addr} {c : Nat} {zs : List Int} (hI : VisI Inv A zs) (h0 : Inv [] [] w)
 (hv : ∀ l t bs u, Inv l bs u → t ∈ triL W H zs → l.length ≤ 2 * (W * H) + 2 → Calls Tryz.prog 72 #[.agg #[.int .i64 (t.1 : Nat), .int .i64 (t.2.1 : Nat), .int .i64 (t.2.2 : Nat)], .pointer (some ⟨p1, 0, none⟩), .pointer (some ⟨p2, 0, none⟩), .pointer (some ⟨p3, 0, none⟩), .pointer (some ⟨p4, 0, none⟩), .pointer (some ⟨p5, 0, none⟩)] u fun e u' => e = .returned (.tuple #[]) ∧ Inv (l ++ [t]) bs u')
 (gx gy st : Int) (hW : 2 ≤ W ∧ W ≤ 64) (hH : 2 ≤ H ∧ H ≤ 64) (hl : zs.length = W * H) :
 Calls Tryz.prog 71 #[grV gx gy st (W : Nat) (H : Nat) A zs.length c, visV p1 p2 p3 p4 p5] w fun e w' => e = .returned (.tuple #[]) ∧ Inv (triL W H zs) [] w' := by
 obtain ⟨G, hG⟩ : ∃ G : Bx, (w.heap.size, 24, grL gx gy st (W : Nat) (H : Nat) A zs.length c) = G := ⟨_, rfl⟩
 have HGG := Lib.hid hG
 have S := (St.start w).alloc 24 (grL gx gy st (W : Nat) (H : Nat) A zs.length c)
 obtain ⟨W0, hW0, S⟩ := S.pack
 have HI := Lib.hid hI
 have HV := Lib.hid hv
 have hn : zs.length ≤ 4096 := by rw [hl]; exact Nat.mul_le_mul hW.2 hH.2
 have HL := Lib.hid hl
 have hWI : (W : Int) ≤ 64 := by omega
 have hHI : (H : Int) ≤ 64 := by omega
 have hW2 : (2 : Int) ≤ W := by omega
 have hH2 : (2 : Int) ≤ H := by omega
 obtain ⟨n, hne⟩ : ∃ n, zs.length = n := ⟨_, rfl⟩
 have HN := Lib.hid hne
 have hnI : (n : Int) ≤ 4096 := by omega
 have HINV : Hid (Inv (preT zs W 0 0 0) [G] W0) := Lib.hid (by rw [preT_start, ← hG, ← hW0]; exact hI.add _ _ _ _ _ h0)
 have x4 := S.c 0 4 rfl rfl
 have x3 := S.c 0 3 rfl rfl
 rw [hne] at S hW0 ⊢
 clear hI h0 hv hl hn hG
 go_enter Tryz.func71, Tryz.ntmps71
 go_wp2
 clear x4 x3 S hW0
 go_loopw [15] (fun ij wr => ∃ j : Nat, j ≤ H - 1 ∧ ij = .int .i64 (j : Nat) ∧ Inv (preT zs W j 0 0) [G] wr) (fun ij _ => H - (intOf ij).toNat)
 case atStart => exact ⟨0, Nat.zero_le _, rfl, HINV.out⟩
 case round =>
  clear HINV
  obtain ⟨j, hj, rfl, hinv⟩ := hrel
  by_cases hlt : j < H - 1
  ·have hjI : (j : Int) < (H : Int) - 1 := by omega
   have t1 : decide ((j : Int) < (H : Int) - 1) = true := decide_eq_true hjI
   have HI0 := Lib.hid hinv
   have hg := HI.out.own _ _ _ G hinv (by simp)
   rw [← HGG.out] at hg
   have x3 := hg.cell 3
   simp only [List.getElem?_cons_zero, List.getElem?_cons_succ] at x3
   clear hinv
   go_wp2
   clear x3
   go_loopw [20] (fun ii wr => ∃ i : Nat, i ≤ W - 1 ∧ ii = .int .i64 (i : Nat) ∧ Inv (preT zs W j i 0) [G] wr) (fun ii _ => W - (intOf ii).toNat)
   case atStart => exact ⟨0, Nat.zero_le _, rfl, HI0.out⟩
   case round =>
    clear HI0
    obtain ⟨i, hi2, rfl, hinv⟩ := hrel
    by_cases hlx : i < W - 1
    ·have hiI : (i : Int) < (W : Int) - 1 := by omega
     have t2 : decide ((i : Int) < (W : Int) - 1) = true := decide_eq_true hiI
     have hq : (j : Int) * (W : Int) = ((j * W : Nat) : Int) := by simp
     have hyW : j * W ≤ 63 * 64 := Nat.mul_le_mul (by omega) (by omega)
     have htop : j * W + i + W + 1 < W * H := idx_top (by omega) (by omega) (Nat.le_refl _)
     rw [← HL.out, HN.out] at htop
     obtain ⟨k0, hk0⟩ : ∃ k0, j * W = k0 := ⟨_, rfl⟩
     have HK0 := Lib.hid hk0
     rw [hk0] at hq hyW htop
     have hk0I : (k0 : Int) ≤ 4032 := by omega
     obtain ⟨k, hk⟩ : ∃ k, k0 + i = k := ⟨_, rfl⟩
     have HKE : Hid (j * W + i = k) := Lib.hid (by rw [hk0, hk])
     rw [hk] at htop
     have hkI : (k0 : Int) + (i : Int) = (k : Int) := by omega
     have hkI4 : (k : Int) ≤ 4096 := by omega
     have hft : flatT (pairT W k) = [.int .i64 (k : Nat), .int .i64 ((k + 1 : Nat) : Nat), .int .i64 ((k + W + 1 : Nat) : Nat), .int .i64 (k : Nat), .int .i64 ((k + W + 1 : Nat) : Nat), .int .i64 ((k + W : Nat) : Nat)] := rfl
     obtain ⟨k1, hk1⟩ : ∃ k1, k + 1 = k1 := ⟨_, rfl⟩
     obtain ⟨k2, hk2⟩ : ∃ k2, k + W = k2 := ⟨_, rfl⟩
     rw [hk1, hk2] at hft
     obtain ⟨k3, hk3⟩ : ∃ k3, k2 + 1 = k3 := ⟨_, rfl⟩
     rw [hk3] at hft
     obtain ⟨W1, hW1⟩ : ∃ W1, wr.alloc (.cells #[.int .i64 (k : Nat), .int .i64 (k1 : Nat), .int .i64 (k3 : Nat), .int .i64 (k : Nat), .int .i64 (k3 : Nat), .int .i64 (k2 : Nat)] 74) = W1 := ⟨_, rfl⟩
     have HI1 : Hid (Inv (preT zs W j i 0) [(wr.heap.size, 74, flatT (pairT W k)), G] W1) := Lib.hid (by
      rw [hft, ← hW1]
      exact HI.out.add _ _ _ _ _ hinv)
     have hinv0 := hinv
     have hg := HI.out.own _ _ _ G hinv (by simp)
     rw [← HGG.out] at hg
     have x3 := hg.cell 3
     simp only [List.getElem?_cons_zero, List.getElem?_cons_succ] at x3
     have e1 : (k : Int) + 1 = (k1 : Int) := by omega
     have e2 : (k : Int) + (W : Int) = (k2 : Int) := by omega
     have e3 : (k2 : Int) + 1 = (k3 : Int) := by omega
     have b1 : (k1 : Int) ≤ 4097 := by omega
     have b2 : (k2 : Int) ≤ 4160 := by omega
     have b3 : (k3 : Int) ≤ 4161 := by omega
     clear hft hk1 hk2 hk3
     have HTOP := Lib.hid htop
     clear hinv hg hk0 hk hyW htop
     have hinv0 := Lib.hid hinv0
     go_wp2
     have hw6 : w.heap.size < wr.heap.size := by
      have hg := HI.out.own _ _ _ G hinv0.out (by simp)
      rw [← HGG.out] at hg
      exact hg.lt
     obtain ⟨B6, hB6⟩ : ∃ B, wr.heap.size = B := ⟨_, rfl⟩
     rw [hB6] at HI1 hw6 ⊢
     clear hinv0 hB6 hW1 x3
     go_loopw [47] (fun ie wr => ∃ e : Nat, e ≤ 2 ∧ ie = .int .i64 (e : Nat) ∧ Inv (preT zs W j i e) [(B6, 74, flatT (pairT W k)), G] wr) (fun ie _ => 2 - (intOf ie).toNat)
     case atStart => exact ⟨0, Nat.zero_le _, rfl, HI1.out⟩
     case round =>
      clear HI1
      obtain ⟨e, he, rfl, hinv⟩ := hrel
      have hO : Own wr B6 74 (flatT (pairT W k)) := HI.out.own _ _ _ (B6, 74, flatT (pairT W k)) hinv (by simp)
      have hg := HI.out.own _ _ _ G hinv (by simp)
      rw [← HGG.out] at hg
      by_cases hle : e < 2
      ·have heI : (e : Int) < 2 := by omega
       obtain ⟨a, b, d, hp, ha1, ha2, hb1, hb2, hd1, hd2⟩ := pair_at W k hle
       obtain ⟨f0, f1, f2⟩ := flatT_at hp
       have hp0 := hp
       rw [← HKE.out] at hp0
       simp only at f0 f1 f2
       have c0 : wr.cell? ⟨B6, e * 3, none⟩ = some (.int .i64 (a : Nat)) := (hO.cell _).trans f0
       have c1 : wr.cell? ⟨B6, e * 3 + 1, none⟩ = some (.int .i64 (b : Nat)) := (hO.cell _).trans f1
       have c2 : wr.cell? ⟨B6, e * 3 + 2, none⟩ = some (.int .i64 (d : Nat)) := (hO.cell _).trans f2
       have hlen : a < zs.length ∧ b < zs.length ∧ d < zs.length := by
        have := HTOP.out
        have := HN.out
        have := HKE.out
        have := HK0.out
        omega
       have hn1 := preT_next (zs := zs) hp0
       obtain ⟨W2, hW2⟩ : ∃ W2, wr.alloc (.cells #[.int .i64 (a : Nat), .int .i64 (b : Nat), .int .i64 (d : Nat)] 74) = W2 := ⟨_, rfl⟩
       have hk2 : Keeps wr W2 := hW2 ▸ box2 wr _
       have hO8 : Own W2 wr.heap.size 74 [.int .i64 (a : Nat), .int .i64 (b : Nat), .int .i64 (d : Nat)] := hW2 ▸ Own.new wr _ _
       have hr2 := HI.out.row _ _ _ (HI.out.st _ _ _ _ hinv hk2)
       obtain ⟨bz, oz, rfl, z0⟩ := IRow.at hr2 hlen.1
       obtain ⟨bz', oz', e0, z1⟩ := IRow.at hr2 hlen.2.1
       cases e0
       obtain ⟨bz', oz', e0, z2⟩ := IRow.at hr2 hlen.2.2
       cases e0
       have HI2 := Lib.hid (HI.out.st _ _ _ _ hinv hk2)
       have HI3 : Hid (Inv (preT zs W j i e) [(wr.heap.size, 74, [.int .i64 (a : Nat), .int .i64 (b : Nat), .int .i64 (d : Nat)]), (B6, 74, flatT (pairT W k)), G] W2) := Lib.hid (by
        rw [← hW2]
        exact HI.out.add _ _ _ _ _ hinv)
       have HPL : Hid ((preT zs W j i e).length ≤ 2 * (W * H) + 2) := Lib.hid (preT_len2 (by omega) (by omega))
       have HO8 := Lib.hid hO8
       have hO1 := hg.below hk2
       have x5 := hO1.cell 5
       have g0 := hO8.cell 0
       have g1 := hO8.cell 1
       have g2 := hO8.cell 2
       simp only [List.getElem?_cons_zero, List.getElem?_cons_succ] at x5 g0 g1 g2
       rw [HN.out] at x5 hlen
       have haI : (a : Int) < n := by omega
       have hbI : (b : Int) < n := by omega
       have hdI : (d : Int) < n := by omega
       have HMEM : Hid (hereT zs (a, b, d) = true → (a, b, d) ∈ triL W H zs) := Lib.hid fun hh => pair_mem (by omega) (by omega) hp0 hh
       have hh : hereT zs (a, b, d) = (zs.getD a 0 != -2147483648 && zs.getD b 0 != -2147483648 && zs.getD d 0 != -2147483648) := rfl
       generalize zs.getD a 0 = za at *
       generalize zs.getD b 0 = zb at *
       generalize zs.getD d 0 = zd at *
       obtain ⟨p0, d0⟩ : ∃ p, (za != -2147483648) = p := ⟨_, rfl⟩
       obtain ⟨p1, d1⟩ : ∃ p, (zb != -2147483648) = p := ⟨_, rfl⟩
       obtain ⟨p2, d2⟩ : ∃ p, (zd != -2147483648) = p := ⟨_, rfl⟩
       rw [d0, d1, d2] at hh
       rw [hh] at hn1
       have HN1 := Lib.hid hn1
       have HHH := Lib.hid hh
       have hszw : wr.heap.size < W2.heap.size := hO8.lt
       have hszB : B6 < wr.heap.size := hO.lt
       clear hinv hg hO hp hp0 ha1 ha2 hb1 hb2 hd1 hd2 f0 f1 f2 hr2 hO8 hO1 hh hn1 hlen
       by_cases hall : (p0 && p1 && p2) = true
       ·obtain rfl : p0 = true := by revert hall; cases p0 <;> simp
        obtain rfl : p1 = true := by revert hall; cases p1 <;> simp
        obtain rfl : p2 = true := by revert hall; cases p2 <;> simp
        clear hall
        have HC := Lib.hid (HV.out _ _ _ _ HI3.out (HMEM.out HHH.out) HPL.out)
        go_wp2_with fail
        refine HC.out.mono ?_
        rintro e1 w8 ⟨rfl, hinv8⟩
        have HF : Hid (Inv (preT zs W j i (e + 1)) [(B6, 74, flatT (pairT W k)), G] w8) := Lib.hid (by rw [HN1.out, if_pos (show (true && true && true) = true from rfl)]; exact HI.out.drop _ _ _ _ hinv8)
        clear hinv8
        go_wp2
        go_roundw
        case rel => exact ⟨e + 1, by omega, by go_num, HF.out⟩
        case measure => simp [intOf]; omega
       ·have HF : Hid (Inv (preT zs W j i (e + 1)) [(B6, 74, flatT (pairT W k)), G] W2) := Lib.hid (by rw [HN1.out, if_neg hall, List.append_nil]; exact HI2.out)
        have hcs : p0 = false ∨ (p0 = true ∧ p1 = false) ∨ (p0 = true ∧ p1 = true ∧ p2 = false) := by revert hall; cases p0 <;> cases p1 <;> cases p2 <;> simp
        clear hall
        rcases hcs with rfl | ⟨rfl, rfl⟩ | ⟨rfl, rfl, rfl⟩
        all_goals
         go_wp2
         go_roundw
         case rel => exact ⟨e + 1, by omega, by go_num, HF.out⟩
         case measure => simp [intOf]; omega
      ·have heI : ¬ (e : Int) < 2 := by omega
       obtain rfl : e = 2 := by omega
       have HF : Hid (Inv (preT zs W j (i + 1) 0) [G] wr) := Lib.hid (by rw [← preT_cell]; exact HI.out.drop _ _ _ _ hinv)
       clear hinv hO hg
       go_wp2
       go_roundw
       case rel => exact ⟨i + 1, by omega, by go_num, HF.out⟩
       case measure => simp [intOf]; omega
    ·have hiI : ¬ (i : Int) < (W : Int) - 1 := by omega
     have t2 : decide ((i : Int) < (W : Int) - 1) = false := decide_eq_false hiI
     have HF : Hid (Inv (preT zs W (j + 1) 0 0) [G] wr) := Lib.hid (by rw [← preT_row, ← show i = W - 1 by omega]; exact hinv)
     clear hinv
     go_wp2
     go_roundw
     case rel => exact ⟨j + 1, by omega, by go_num, HF.out⟩
     case measure => simp [intOf]; omega
  ·have hjI : ¬ (j : Int) < (H : Int) - 1 := by omega
   have t1 : decide ((j : Int) < (H : Int) - 1) = false := decide_eq_false hjI
   have hrow : Inv (triL W H zs) [] wr := by
    rw [← preT_end, ← show j = H - 1 by omega]
    exact HI.out.drop _ _ _ _ hinv
   go_wp2
   refine bodyPost_end (results_none rfl _ _ _) rfl ?_
   exact ⟨rfl, hrow⟩
end Go.Proofs.YtecibfncnaccjaaGreat
