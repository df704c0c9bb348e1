/- report.Parse: the walk. -/
import Derived.Test.YtgcigdahjabimaaGreatDoorPr44
namespace Go.Proofs.YtgcigdahjabimaaGreatDoor
open Go.RowKit Go.Shelf
set_option maxRecDepth 100000 in
set_option maxHeartbeats 2000000 in
theorem rparse_any {w : World} {l : List UInt8} (hd : l.length ≤ 5000) (he : EnvE w) (hc : CutOk w) (ht : PowTab w) : Calls Tryz.prog 32 #[.string ⟨l.toArray⟩] w (PrsP l w) := by
 have S := (((St.start w).alloc 49 (smY (hdF [] 0) rz0 rz0 (.slice none 0 0) (.slice none 0 0) 0)).alloc 49 (smY (hdF l 0) rz0 rz0 (.slice none 0 0) (.slice none 0 0) 0)).alloc 9 [.string ⟨l.toArray⟩]
 simp only [World.size_alloc] at S
 have HE := Lib.hid he
 have HC := Lib.hid hc
 have HT := Lib.hid ht
 have hsz : (⟨l.toArray⟩ : ByteArray).size ≤ 5000 := by show l.toArray.size ≤ _; simpa using hd
 have t1 : decide ((1048576 : Int) < ((⟨l.toArray⟩ : ByteArray).size : Int)) = false := decide_eq_false (by omega)
 have e1 : ¬ (1048576 : Int) < ((⟨l.toArray⟩ : ByteArray).size : Int) := by omega
 have HD := Lib.hid hd
 clear he hc ht hd
 go_enter Tryz.func32, Tryz.ntmps32
 go_wp2_with fail
 refine heads_any.mono ?_
 rintro e W1 ⟨g, h, rfl, -, hh, -, -, hO, hk⟩
 replace S := S.box (S.below hk) hO hh
 clear hh hO hk
 go_wp2
 go_loopw [29] (fun i wr => ∃ k : Nat, k ≤ 6 ∧ i = .int .i64 (k : Nat) ∧ St w wr [(h, 92, ptrL (w.heap.size + 1)), (w.heap.size + 2, 9, [.string ⟨(rstK l k).toArray⟩]), (w.heap.size + 1, 49, smY (hdF l k) rz0 rz0 (.slice none 0 0) (.slice none 0 0) 0), (w.heap.size, 49, smY (hdF [] 0) rz0 rz0 (.slice none 0 0) (.slice none 0 0) 0)] []) (fun i _ => 6 - (intOf i).toNat)
 case atStart => exact ⟨0, Nat.zero_le _, rfl, S⟩
 case round =>
  clear S
  obtain ⟨k, hk, rfl, S⟩ := hrel
  by_cases hlt : k < 6
  ·have hkI : (k : Int) < 6 := by omega
   have t2 : decide ((k : Int) < 6) = true := decide_eq_true hkI
   have y0 := S.c 0 k rfl (ptr_at hlt)
   have hl1 := rstK_len l k
   have hl2 := fldV_len (rstK l k)
   have HLT := Lib.hid hlt
   have HFV : Hid (hdV l k = atV (fldV (rstK l k))) := Lib.hid rfl
   have HD2 := HD.out
   have hS := fld_any S 1 rfl (by omega) HC.out
   have HF := Lib.hid hS
   clear hS S
   have HAT := Lib.hid (fun (u : World) (hu : Keeps w u) => atoi_any (w := u) (l := fldV (rstK l k)) (by omega) (HE.out.keep hu))
   rw [← HFV.out] at HAT
   generalize fldV (rstK l k) = fv at *
   clear hl1 hl2 HD2 hlt
   go_wp2_with fail
   refine HF.out.mono ?_
   rintro e W2 ⟨rfl, S, -⟩
   simp only [List.set_cons_succ, List.set_cons_zero] at S
   clear y0 HF
   go_wp2_with fail
   refine (HAT.out _ S.k).mono ?_
   rintro e W3 ⟨ev, rfl, hk3⟩
   replace S := S.below hk3
   have y2 := S.c 2 k rfl (smY_at HLT.out)
   have f2 := S.f 2 k rfl
   clear hk3
   go_upto_region 11 with fail
   replace S := S.put 2 k rfl rfl (.int .i64 (hdV l k))
   simp only [List.set_cons_succ, List.set_cons_zero, smY_set HLT.out] at S
   obtain ⟨W4, eW, S⟩ := S.pack
   rw [eW]
   clear eW y2 f2
   go_wp2
   go_roundw
   case rel => exact ⟨k + 1, by have := HLT.out; omega, by go_num, S⟩
   case measure => have := HLT.out; simp [intOf]; omega
  ·have hkI : ¬ (k : Int) < 6 := by omega
   have t2 : decide ((k : Int) < 6) = false := decide_eq_false hkI
   obtain rfl : k = 6 := by omega
   have hl1 := rstK_len l 6
   have hl2 := fldV_len (rstK l 6)
   have HD2 := HD.out
   have HF := Lib.hid (fld_any (r := rstK l 6) S 1 rfl (by omega) HC.out)
   clear S
   have HQ1 := Lib.hid (fun (u : World) (hu : Keeps w u) => number_any (w := u) (l := fldV (rstK l 6)) (by omega) (HE.out.keep hu) (HC.out.keep hu))
   obtain ⟨q1, hq1⟩ : ∃ q, numQ (fldV (rstK l 6)) = q := ⟨_, rfl⟩
   rw [hq1] at HQ1
   have Hq1 := Lib.hid hq1
   generalize fldV (rstK l 6) = fv at HF HQ1 ⊢
   clear hl1 hl2 HD2 hq1
   go_wp2_with fail
   refine HF.out.mono ?_
   rintro e W2 ⟨rfl, S, -⟩
   simp only [List.set_cons_succ, List.set_cons_zero] at S
   clear HF
   go_wp2_with fail
   refine (HQ1.out _ S.k).mono ?_
   rintro e W3 ⟨V, rfl, hV, hk3⟩
   obtain ⟨r1, rfl⟩ := hV.rn
   replace S := (S.below hk3).addQ hV
   have x0 := S.c 2 6 rfl rfl
   have x1 := S.c 2 7 rfl rfl
   have x2 := S.c 2 8 rfl rfl
   have x3 := S.c 2 9 rfl rfl
   have f0 := S.f 2 6 rfl
   have f1 := S.f 2 7 rfl
   have f2 := S.f 2 8 rfl
   have f3 := S.f 2 9 rfl
   clear hk3 hV
   go_upto_region 13 with fail
   replace S := (((S.put 2 6 rfl rfl r1.a).put 2 7 rfl rfl r1.b).put 2 8 rfl rfl r1.c).put 2 9 rfl rfl r1.d
   simp only [List.set_cons_succ, List.set_cons_zero] at S
   obtain ⟨W4, eW, S⟩ := S.pack
   rw [eW]
   clear eW x0 x1 x2 x3 f0 f1 f2 f3
   have hl1 := rstK_len l 7
   have hl2 := fldV_len (rstK l 7)
   have HD2 := HD.out
   have HF := Lib.hid (fld_any (r := rstK l 7) S 1 rfl (by omega) HC.out)
   clear S
   have HQ2 := Lib.hid (fun (u : World) (hu : Keeps w u) => number_any (w := u) (l := fldV (rstK l 7)) (by omega) (HE.out.keep hu) (HC.out.keep hu))
   obtain ⟨q2, hq2⟩ : ∃ q, numQ (fldV (rstK l 7)) = q := ⟨_, rfl⟩
   rw [hq2] at HQ2
   have Hq2 := Lib.hid hq2
   generalize fldV (rstK l 7) = fv at HF HQ2 ⊢
   clear hl1 hl2 HD2 hq2
   go_wp2_with fail
   refine HF.out.mono ?_
   rintro e W5 ⟨rfl, S, -⟩
   simp only [List.set_cons_succ, List.set_cons_zero] at S
   clear HF
   go_wp2_with fail
   refine (HQ2.out _ S.k).mono ?_
   rintro e W3 ⟨V, rfl, hV, hk3⟩
   obtain ⟨r2, rfl⟩ := hV.rn
   replace S := (S.below hk3).addQ hV
   have x0 := S.c 2 10 rfl rfl
   have x1 := S.c 2 11 rfl rfl
   have x2 := S.c 2 12 rfl rfl
   have x3 := S.c 2 13 rfl rfl
   have f0 := S.f 2 10 rfl
   have f1 := S.f 2 11 rfl
   have f2 := S.f 2 12 rfl
   have f3 := S.f 2 13 rfl
   clear hk3 hV
   go_upto_region 14 with fail
   replace S := (((S.put 2 10 rfl rfl r2.a).put 2 11 rfl rfl r2.b).put 2 12 rfl rfl r2.c).put 2 13 rfl rfl r2.d
   simp only [List.set_cons_succ, List.set_cons_zero] at S
   obtain ⟨W4, eW, S⟩ := S.pack
   rw [eW]
   clear eW x0 x1 x2 x3 f0 f1 f2 f3
   have e6 : ∀ j, j < 6 → hdF l 6 j = hdV l j := fun j hj => if_pos hj
   simp only [e6 0 (by decide), e6 1 (by decide), e6 2 (by decide), e6 3 (by decide), e6 4 (by decide), e6 5 (by decide)] at S
   replace S := S.dropb
   have x3 := S.c 1 3 rfl rfl
   obtain ⟨i0, hi0, hz0, hz1, hz2⟩ := info_parts info_q
   obtain ⟨N, hN⟩ : ∃ N, min (hdV l 3) 1024 = N := ⟨_, rfl⟩
   have HRN : Hid (rowsN l = N.toNat) := Lib.hid (by unfold rowsN; rw [hN])
   have HNN : Hid (N ≤ 1024) := Lib.hid (by omega)
   go_wp2
   clear x3 hN
   go_loopw [53] (fun i wr => ∃ (k c d : Nat) (A B : Option Addr) (xs ys : List Value), k ≤ N.toNat ∧ i = .int .i64 (k : Nat) ∧ Hid (CleanN wr (w.heap.size + 3) 31 4 (.slice A k c) k xs) ∧ Hid (CleanN wr (w.heap.size + 3) 31 4 (.slice B k d) k ys) ∧ Hid (∀ g ∈ blkOf (.slice A k c), g ∉ blkOf (.slice B k d)) ∧
    St w wr [(w.heap.size + 2, 9, [.string ⟨(rstK l (8 + k)).toArray⟩]), (w.heap.size + 1, 49, smY (hdV l) r1 r2 (.slice A k c) (.slice B k d) 0), (w.heap.size, 49, smY (hdF [] 0) rz0 rz0 (.slice none 0 0) (.slice none 0 0) 0)] [ElS xs ((List.range k).map (rdQ l)), ElS ys ((List.range k).map (sxQ l)), fun w => RatRep w r2.v q2, fun w => RatRep w r1.v q1]) (fun i _ => 1024 - (intOf i).toNat)
   case atStart => exact ⟨0, 0, 0, none, none, [], [], Nat.zero_le _, rfl, Lib.hid CleanN.nil, Lib.hid CleanN.nil, Lib.hid (by simp [blkOf, Value.ownBlock]), (S.add (ElS.stab [] []) ElV.nil).add (ElS.stab [] []) ElV.nil⟩
   case round =>
    clear S
    obtain ⟨k, c, d, A, B, xs, ys, hk, rfl, HRA, HRB, HDJ, S⟩ := hrel
    by_cases hlt : k < N.toNat
    ·have hkI : (k : Int) < N := by omega
     have t2 : decide ((k : Int) < N) = true := decide_eq_true hkI
     have hk4 : k < 1024 := by have := HNN.out; omega
     have hkI4 : (k : Int) < 1024 := by omega
     have HLT := Lib.hid hlt
     have hl1 := rstK_len l (8 + k)
     have hl2 := fldV_len (rstK l (8 + k))
     have hl3 := post_len 32 (fldV (rstK l (8 + k)))
     have hl4 := pre_len 32 (rowV l k)
     have hl5 := post_len 32 (rowV l k)
     have HRV : Hid (rowV l k = post 32 (fldV (rstK l (8 + k)))) := Lib.hid rfl
     have HRQ : Hid (rdQ l k = (numQ (pre 32 (rowV l k)), true)) := Lib.hid rfl
     have HSQ : Hid (sxQ l k = (numQ (post 32 (rowV l k)), true)) := Lib.hid rfl
     rw [← HRV.out] at hl3
     have HD2 := HD.out
     have HF := Lib.hid (fld_any (r := rstK l (8 + k)) S 0 rfl (by omega) HC.out)
     clear S
     have HNX := Lib.hid (fun (u : World) (hu : Keeps w u) => number_any (w := u) (l := pre 32 (rowV l k)) (by omega) (HE.out.keep hu) (HC.out.keep hu))
     have HNY := Lib.hid (fun (u : World) (hu : Keeps w u) => number_any (w := u) (l := post 32 (rowV l k)) (by omega) (HE.out.keep hu) (HC.out.keep hu))
     have HC1 := Lib.hid (fun (u : World) (hu : Keeps w u) => cut_any (w := u) (l := fldV (rstK l (8 + k))) 32 (HC.out.keep hu) (by omega))
     have HC2 := Lib.hid (fun (u : World) (hu : Keeps w u) => cut_any (w := u) (l := rowV l k) 32 (HC.out.keep hu) (by omega))
     have HZX := Lib.hid (numQ_sz (l := pre 32 (rowV l k)) (by omega))
     have HZY := Lib.hid (numQ_sz (l := post 32 (rowV l k)) (by omega))
     generalize numQ (pre 32 (rowV l k)) = qx at *
     generalize numQ (post 32 (rowV l k)) = qy at *
     rw [← HRV.out] at HC1
     clear HRV hl1 hl2 hl3 hl4 hl5 HD2 hlt
     generalize rowV l k = rv at *
     generalize fldV (rstK l (8 + k)) = fv at *
     go_wp2_with fail
     refine HF.out.mono ?_
     rintro e W5 ⟨rfl, S, htu⟩
     simp only [List.set_cons_zero] at S
     replace HRA := Lib.hid (CleanN.turn3 HRA.out htu)
     replace HRB := Lib.hid (CleanN.turn3 HRB.out htu)
     clear HF htu
     go_wp2_with fail
     refine (HC1.out _ S.k).mono ?_
     rintro e W6 ⟨rfl, hk6⟩
     replace S := S.below hk6
     replace HRA := Lib.hid (HRA.out.keeps hk6)
     replace HRB := Lib.hid (HRB.out.keeps hk6)
     clear hk6
     go_wp2_with fail
     refine (HC2.out _ S.k).mono ?_
     rintro e W7 ⟨rfl, hk6⟩
     replace S := S.below hk6
     replace HRA := Lib.hid (HRA.out.keeps hk6)
     replace HRB := Lib.hid (HRB.out.keeps hk6)
     clear hk6
     have HSZ : Hid (w.heap.size + 3 ≤ W7.heap.size) := Lib.hid (S.o 0 rfl).lt
     obtain ⟨qs, hqs⟩ : ∃ qs, (List.range k).map (rdQ l) = qs := ⟨_, rfl⟩
     rw [hqs] at S
     have HQS := Lib.hid hqs
     clear hqs
     go_upto_region 18 with fail
     refine wp_region_s (s := 5) (m := 11) (o := ⟨some 73, Op.call { callee := Callee.builtin Builtin.append, args := #[Operand.tmp 69, Operand.tmp 72], argTypes := #[34, 34] }, 34, "report.go:193", #[{ on := 1, ground := Ground.data }, { on := 4, ground := Ground.data }, { on := 3, ground := Ground.chain }], none⟩) [(1, some 69), (3, some 71), (4, some 72)] rfl (by kernel_rfl) (by kernel_rfl) rfl (by kernel_rfl) (rp18Φ A B k c d W7.heap.size (w.heap.size + 1) (pre 32 rv) (post 32 rv) qx qy xs qs (w.heap.size + 3)) (PJ w W7.heap.size _ _ (.slice B k d) k ys) (fun u => CleanN u (w.heap.size + 3) 31 4 (.slice A k c) k xs) ⟨S.drew, CleanN.drew HRB.out, Nat.le_refl _⟩ (CleanN.drew HRA.out) ?_ (fun _ _ h hk => h.keep hk) (fun _ _ h hk => h.keeps hk) ?_ ?_ ?_
     ·intro i v w w' hi h hk
      match i, hi with
      | 0, _ | 1, _ | 2, _ | 6, _ | 7, _ | 8, _ => exact h
      | 3, _ => exact h.elim fun r ⟨h1, h2⟩ => ⟨r, h1, h2.map hk.same32⟩
      | 4, _ => exact h.elim fun b ⟨r, h1, h2, h3, h4⟩ => ⟨b, r, h1, h2, h3.below hk, h4.map hk.same32⟩
      | 5, _ => exact h.elim fun A' ⟨c', zs, h1, h2, h3, h4⟩ => ⟨A', c', zs, h1, h2.keeps hk, h3.keep hk, h4⟩
      | 9, _ => exact h.elim fun r ⟨h1, h2⟩ => ⟨r, h1, h2.map hk.same32⟩
      | 10, _ => exact h.elim fun b ⟨r, h1, h2, h3, h4⟩ => ⟨b, r, h1, h2, h3.below hk, h4.map hk.same32⟩
      | i + 11, hi => exact absurd hi (by omega)
     ·intro i hi hsp vs wph3 hk3 hd
      obtain ⟨S3, hrb, hn3⟩ := hk3
      have a0 := S3.c 1 14 rfl rfl
      have a1 := S3.c 1 15 rfl rfl
      match i, hi with
      | 0, _ =>
       refine step_yes [] rfl (by kernel_rfl) fun K hK => ?_
       simp only [frD] at hK ⊢
       refine ⟨by rfl, ?_⟩
       go_simp
       exact hK _ _ ⟨Below.refl _ _, rfl, by simp⟩
      | 1, _ =>
       have e0 : vs 0 = .pointer (some ⟨(w.heap.size + 1), 14, none⟩) := hd 0 (List.contains_iff_mem.1 (by kernel_rfl))
       refine step_yes [(0, some 68)] rfl (by kernel_rfl) fun K hK => ?_
       simp only [frD, e0] at hK ⊢
       refine ⟨by rfl, ?_⟩
       go_simp
       exact hK _ _ ⟨Below.refl _ _, rfl, by simp⟩
      | 2, _ =>
       refine step_yes [] rfl (by kernel_rfl) fun K hK => ?_
       simp only [frD] at hK ⊢
       refine ⟨by rfl, ?_⟩
       go_simp
       exact hK _ _ ⟨Below.refl _ _, rfl, by simp⟩
      | 3, _ =>
       have e2 : vs 2 = .string ⟨((pre 32 rv)).toArray⟩ := hd 2 (List.contains_iff_mem.1 (by kernel_rfl))
       refine step_yes [(2, some 70)] rfl (by kernel_rfl) fun K hK => ?_
       simp only [frD, e2] at hK ⊢
       refine ⟨by rfl, ?_⟩
       go_simp
       refine (HNX.out _ S3.k).mono ?_
       rintro e wph4 ⟨V, rfl, hV, hk4⟩
       obtain ⟨r, rfl⟩ := hV.rn
       exact hK _ _ ⟨hk4, ⟨r, rfl, hV⟩, by simp⟩
      | 4, _ =>
       have h3 : ∃ r : Rn, (vs 3) = r.val ∧ RatRep wph3 r.val qx := hd 3 (List.contains_iff_mem.1 (by kernel_rfl))
       obtain ⟨r, q3, hr⟩ := h3
       refine step_yes [(3, some 71)] rfl (by kernel_rfl) fun K hK => ?_
       simp only [frD, q3] at hK ⊢
       refine ⟨by rfl, ?_⟩
       go_simp
       exact hK _ _ ⟨bl.alloc (Nat.le_refl _) _, ⟨_, r, rfl, hn3, Own.new wph3 _ r.cs, hr.map (box2 wph3 _).same32⟩, by simp⟩
      | 5, _ =>
       exact absurd rfl hsp
      | 6, _ =>
       refine step_yes [] rfl (by kernel_rfl) fun K hK => ?_
       simp only [frD] at hK ⊢
       refine ⟨by rfl, ?_⟩
       go_simp
       exact hK _ _ ⟨Below.refl _ _, rfl, by simp⟩
      | 7, _ =>
       have e6 : vs 6 = .pointer (some ⟨(w.heap.size + 1), 15, none⟩) := hd 6 (List.contains_iff_mem.1 (by kernel_rfl))
       refine step_yes [(6, some 74)] rfl (by kernel_rfl) fun K hK => ?_
       simp only [frD, e6] at hK ⊢
       refine ⟨by rfl, ?_⟩
       go_simp
       exact hK _ _ ⟨Below.refl _ _, rfl, by simp⟩
      | 8, _ =>
       refine step_yes [] rfl (by kernel_rfl) fun K hK => ?_
       simp only [frD] at hK ⊢
       refine ⟨by rfl, ?_⟩
       go_simp
       exact hK _ _ ⟨Below.refl _ _, rfl, by simp⟩
      | 9, _ =>
       have h5 : ∃ (A' : Option Addr) (c' : Nat) (zs : List Value), (vs 5) = .slice A' (k + 1) c' ∧ CleanN wph3 (w.heap.size + 3) 31 4 (.slice A' (k + 1) c') (k + 1) (xs ++ zs) ∧ ElV wph3 (xs ++ zs) (qs ++ [(qx, true)]) ∧ ∀ g ∈ blkOf (.slice A' (k + 1) c'), g ∉ blkOf (.slice B k d) := hd 5 (List.contains_iff_mem.1 (by kernel_rfl))
       have e8 : vs 8 = .string ⟨((post 32 rv)).toArray⟩ := hd 8 (List.contains_iff_mem.1 (by kernel_rfl))
       refine step_yes [(5, some 73), (8, some 76)] rfl (by kernel_rfl) fun K hK => ?_
       simp only [frD, e8] at hK ⊢
       refine ⟨by rfl, ?_⟩
       go_simp
       refine (HNY.out _ S3.k).mono ?_
       rintro e wph4 ⟨V, rfl, hV, hk4⟩
       obtain ⟨r, rfl⟩ := hV.rn
       exact hK _ _ ⟨hk4, ⟨r, rfl, hV⟩, by simp⟩
      | 10, _ =>
       have h9 : ∃ r : Rn, (vs 9) = r.val ∧ RatRep wph3 r.val qy := hd 9 (List.contains_iff_mem.1 (by kernel_rfl))
       obtain ⟨r, q9, hr⟩ := h9
       refine step_yes [(9, some 77)] rfl (by kernel_rfl) fun K hK => ?_
       simp only [frD, q9] at hK ⊢
       refine ⟨by rfl, ?_⟩
       go_simp
       exact hK _ _ ⟨bl.alloc (Nat.le_refl _) _, ⟨_, r, rfl, hn3, Own.new wph3 _ r.cs, hr.map (box2 wph3 _).same32⟩, by simp⟩
      | i + 11, hi => exact absurd hi (by omega)
     ·intro vs wph3 hk3 hi3 hd K hK
      have e1 : vs 1 = .slice A k c := hd 1 (List.contains_iff_mem.1 (by kernel_rfl))
      have h3 : ∃ r : Rn, (vs 3) = r.val ∧ RatRep wph3 r.val qx := hd 3 (List.contains_iff_mem.1 (by kernel_rfl))
      have h4 : ∃ (b : Nat) (r : Rn), (vs 4) = .slice (some ⟨b, 0, none⟩) 1 1 ∧ W7.heap.size ≤ b ∧ Own wph3 b 31 r.cs ∧ RatRep wph3 r.val qx := hd 4 (List.contains_iff_mem.1 (by kernel_rfl))
      obtain ⟨S3, hrb, hn3⟩ := hk3
      obtain ⟨b, r, q4, hb4, hO, hr⟩ := h4
      simp only [frD, e1, q4] at hK ⊢
      refine oper_append_at _ _ 34 rfl i0 _ 64 Tryz.underlying34 hi0 hz0 hz1 hz2 rfl rfl rfl hi3 ⟨b, 0, none⟩ 1 1 r.cs rfl rfl (own_cells hO) (by simp [Rn.cs, Value.oneCell']) rfl (by omega) (by simp only [maxLen]; omega) (by omega) (by have := HSZ.out; omega) ?_
      intro v' w' g1 g2 g3
      obtain ⟨A', c', rfl, -⟩ := g1.sl
      refine hK _ w' (PJ.app ⟨S3, hrb, hn3⟩ hi3 g2 HDJ.out (prs_bs w)) ?_ ⟨A', c', r.cs, rfl, g1, (S3.p.get (i := 0) rfl).map2 (hi3.same g2) hr (by have := HZX.out; omega), fun g hg hg2 => (g3 g hg).elim (fun h => HDJ.out g h hg2) fun h => by have := (HRB.out.lt g (by simpa [blkOf] using hg2)).2; omega⟩
      exact rp18_last hi3 g2 HRA.out
     ·intro vs wph3 hk3 hΦ 
      simp only [List.drop_succ_cons, List.drop_zero]
      rw [fr_frD, show (List.range 11).map _ = [(0, some 68), (1, some 69), (2, some 70), (3, some 71), (4, some 72), (5, some 73), (6, some 74), (7, some 75), (8, some 76), (9, some 77), (10, some 78)] by kernel_rfl]
      have ph0 := hΦ 0 (by omega)
      have ph1 := hΦ 1 (by omega)
      have ph2 := hΦ 2 (by omega)
      have ph3 := hΦ 3 (by omega)
      have ph4 := hΦ 4 (by omega)
      have ph5 := hΦ 5 (by omega)
      have ph6 := hΦ 6 (by omega)
      have ph7 := hΦ 7 (by omega)
      have ph8 := hΦ 8 (by omega)
      have ph9 := hΦ 9 (by omega)
      have ph10 := hΦ 10 (by omega)
      simp only [rp18Φ] at ph0 ph1 ph2 ph3 ph4 ph5 ph6 ph7 ph8 ph9 ph10
      clear hΦ
      simp only [frD, ph0, ph1, ph2, ph6, ph7, ph8]
      simp only [Act.put, List.setIfInBounds_toArray, List.set_cons_zero, List.set_cons_succ]
      clear ph0
      clear ph1
      clear ph2
      generalize vs 3 = U3 at ph3 ⊢
      generalize vs 4 = U4 at ph4 ⊢
      generalize vs 5 = U5 at ph5 ⊢
      clear ph6
      clear ph7
      clear ph8
      generalize vs 9 = U9 at ph9 ⊢
      generalize vs 10 = U10 at ph10 ⊢
      obtain ⟨S9, hrb, hn3⟩ := hk3
      obtain ⟨A', c', zs, q5, hA', hE', hdj'⟩ := ph5
      obtain ⟨b, r, q10, hb10, hO, hr⟩ := ph10
      subst q5 q10
      have hsm : w.heap.size + 3 ≤ wph3.heap.size := by have := HSZ.out; omega
      have HA' := Lib.hid hA'
      have HB' := Lib.hid hrb
      have HDJ' := Lib.hid hdj'
      have HO := Lib.hid hO
      have HR := Lib.hid hr
      have HS9 := Lib.hid ((S9.addQ hr).add (ElS.stab _ _) hE')
      clear hA' hrb hdj' hO hr hE' S9 ph3 ph9 hb10 hn3 S
      go_wp2_with (at_builtin; refine wpList_append_at rfl _ _ 34 rfl i0 _ 64 Tryz.underlying34 hi0 hz0 hz1 hz2 rfl rfl rfl HB'.out ⟨b, 0, none⟩ 1 1 r.cs rfl rfl (own_cells HO.out) (by simp [Rn.cs, Value.oneCell']) rfl (by omega) (by simp only [maxLen]; omega) (by omega) hsm ?_; intro v' w9 g1 g2 g3; obtain ⟨B', d', rfl, -⟩ := g1.sl; have S := HS9.out.grownC HB'.out g2 (by omega) (prs_bs w); have HG := Lib.hid (And.intro g1 (And.intro g2 g3)); have x14 := S.c 1 14 rfl rfl; have x15 := S.c 1 15 rfl rfl; have f14 := S.f 1 14 rfl; have f15 := S.f 1 15 rfl; clear g1 g2 g3)
      replace S := (S.put 1 14 rfl rfl (.slice A' (k + 1) c')).put 1 15 rfl rfl (.slice B' (k + 1) d')
      simp only [List.set_cons_succ, List.set_cons_zero] at S
      have HA2 := Lib.hid (((HA'.out.turn (Turn.of_grown HG.out.2.1) HDJ'.out).set (p := ⟨w.heap.size + 1, 14, none⟩) (by show w.heap.size + 1 < w.heap.size + 3; omega) (.slice A' (k + 1) c')).set (p := ⟨w.heap.size + 1, 15, none⟩) (by show w.heap.size + 1 < w.heap.size + 3; omega) (.slice B' (k + 1) d'))
      have HB2 := Lib.hid ((HG.out.1.set (p := ⟨w.heap.size + 1, 14, none⟩) (by show w.heap.size + 1 < w.heap.size + 3; omega) (.slice A' (k + 1) c')).set (p := ⟨w.heap.size + 1, 15, none⟩) (by show w.heap.size + 1 < w.heap.size + 3; omega) (.slice B' (k + 1) d'))
      have HD2 : Hid (∀ g ∈ blkOf (.slice A' (k + 1) c'), g ∉ blkOf (.slice B' (k + 1) d')) := Lib.hid fun g h1 h2 => (HG.out.2.2 g h2).elim (HDJ'.out g h1) fun h => by
       have := (HA'.out.lt g (by simpa [blkOf] using h1)).2
       omega
      have HE1 : Hid (ElS (xs ++ zs) ((List.range (k + 1)).map (rdQ l)) _) := Lib.hid (by
       rw [List.range_succ, List.map_append, HQS.out, List.map_singleton, HRQ.out]
       exact S.p.get (i := 0) rfl)
      have HE2 : Hid (ElS (ys ++ r.cs) ((List.range (k + 1)).map (sxQ l)) _) := Lib.hid (by
       rw [List.range_succ, List.map_append, List.map_singleton, HSQ.out]
       exact ElV.map2 (S.p.get (i := 3) rfl) (fun _ _ h => h) (S.qi 1 rfl) (by have := HZY.out; omega))
      have HS2 := Lib.hid ((((S.onlyL.addQ (S.qi 5 rfl)).addQ (S.qi 4 rfl)).add (ElS.stab _ _) HE2.out).add (ElS.stab _ _) HE1.out)
      clear x14 x15 f14 f15 S HE1 HE2
      go_wp2
      go_roundw
      case rel => exact ⟨k + 1, c', d', A', B', xs ++ zs, ys ++ r.cs, by have := HLT.out; omega, by go_num, HA2, HB2, HD2, HS2.out⟩
      case measure => have := HLT.out; simp [intOf]; omega
    ·have hkI : ¬ (k : Int) < N := by omega
     have t2 : decide ((k : Int) < N) = false := decide_eq_false hkI
     obtain rfl : k = N.toNat := by omega
     rw [← HRN.out] at S HRA HRB
     have hl1 := rstK_len l (8 + rowsN l)
     have hl2 := fldV_len (rstK l (8 + rowsN l))
     have HD2 := HD.out
     have HF := Lib.hid (fld_any (r := rstK l (8 + rowsN l)) S 0 rfl (by omega) HC.out)
     clear S
     have HAT := Lib.hid (fun (u : World) (hu : Keeps w u) => atoi_any (w := u) (l := fldV (rstK l (8 + rowsN l))) (by omega) (HE.out.keep hu))
     obtain ⟨wo, hwo⟩ : ∃ z, atV (fldV (rstK l (8 + rowsN l))) = z := ⟨_, rfl⟩
     rw [hwo] at HAT
     have HWO := Lib.hid hwo
     generalize fldV (rstK l (8 + rowsN l)) = fv at HAT HF
     clear hl1 hl2 HD2 hwo
     go_wp2_with fail
     refine HF.out.mono ?_
     rintro e W5 ⟨rfl, S, htu⟩
     simp only [List.set_cons_zero] at S
     replace HRA := Lib.hid (CleanN.turn3 HRA.out htu)
     replace HRB := Lib.hid (CleanN.turn3 HRB.out htu)
     clear HF htu
     go_wp2_with fail
     refine (HAT.out _ S.k).mono ?_
     rintro e W6 ⟨ev, rfl, hk6⟩
     replace S := S.below hk6
     replace HRA := Lib.hid (HRA.out.keeps hk6)
     replace HRB := Lib.hid (HRB.out.keeps hk6)
     have x16 := S.c 1 16 rfl rfl
     have f16 := S.f 1 16 rfl
     clear hk6
     go_upto_region 21 with fail
     replace S := S.put 1 16 rfl rfl (.int .i64 wo)
     simp only [List.set_cons_succ, List.set_cons_zero] at S
     replace HRA := Lib.hid (HRA.out.set (p := ⟨w.heap.size + 1, 16, none⟩) (by show w.heap.size + 1 < w.heap.size + 3; omega) (.int .i64 wo))
     replace HRB := Lib.hid (HRB.out.set (p := ⟨w.heap.size + 1, 16, none⟩) (by show w.heap.size + 1 < w.heap.size + 3; omega) (.int .i64 wo))
     obtain ⟨W7, eW, S⟩ := S.pack
     rw [eW] at HRA HRB ⊢
     clear eW x16 f16
     have HSA := Lib.hid (prs_arg HD.out HRA.out HRB.out (S.p.get (i := 0) rfl) (S.p.get (i := 1) rfl) (by rw [Hq1.out]; exact S.qi 3 rfl) (by rw [Hq2.out]; exact S.qi 2 rfl))
     rw [HWO.out] at HSA
     have HSZ := Lib.hid (prs_sz HD.out)
     have HNM := Lib.hid (prs_nums l)
     obtain ⟨VS, hVS⟩ : ∃ V, Value.agg (smY (hdV l) r1 r2 (.slice A (rowsN l) c) (.slice B (rowsN l) d) wo).toArray = V := ⟨_, rfl⟩
     rw [hVS] at HSA
     have HVS := Lib.hid hVS
     have HCK := Lib.hid (check_any HSA.out.1 (fun x hx => Nat.le_trans (HSZ.out.2.2.1 x hx) (by omega)))
     clear hVS
     go_wp2_with (refine wpList_load_mid rfl 49 _ rfl _ 0 rfl _ _ (own_range (S.o 1 rfl)) Tryz.underlying49 rfl (by kernel_rfl) ?_)
     have hvs := HVS.out
     rw [hvs]
     clear hvs
     go_wp2_with fail
     refine HCK.out.mono ?_
     rintro e W8 ⟨rfl, hk8⟩
     replace S := S.below hk8
     cases hfb : formB (prsS l) with
     | false =>
      have HOK : Hid (okP l = false) := Lib.hid (by unfold okP; rw [hfb]; rfl)
      have hz : okS false = 1 := rfl
      rw [hz]
      clear hz hfb HRA HRB HSA HVS HCK
      go_wp2_with (refine wpList_store_mid rfl 49 _ _ rfl _ 0 (smY (hdF [] 0) rz0 rz0 (.slice none 0 0) (.slice none 0 0) 0).toArray rfl rfl (own_there (S.o 2 rfl) rfl) (by kernel_rfl) (by kernel_rfl) ?_)
      replace S := S.put17 2 rfl rfl rfl (smY (hdF [] 0) rz0 rz0 (.slice none 0 0) (.slice none 0 0) 0) rfl rfl
      simp only [List.set_cons_succ, List.set_cons_zero] at S
      have hO := S.o (p := (w.heap.size, 49, (smY (hdF [] 0) rz0 rz0 (.slice none 0 0) (.slice none 0 0) 0))) 2 rfl
      simp only at hO
      have hld := run_loadVar_mid (P := Tryz.prog) _ w.heap.size 0 49 (smY (hdF [] 0) rz0 rz0 (.slice none 0 0) (.slice none 0 0) 0) _ (own_range hO) Tryz.underlying49 rfl (by kernel_rfl)
      refine bodyPost_ret (v := .tuple #[.agg ((smY (hdF [] 0) rz0 rz0 (.slice none 0 0) (.slice none 0 0) 0)).toArray, .int .i64 8]) (results_ct (p := ⟨w.heap.size, 0, none⟩) (ty := 49) Tryz.results32 rfl hld rfl) rfl ?_
      exact ⟨fun h => absurd h (by rw [HOK.out]; decide), fun _ => rfl, S.k⟩
     | true =>
      have hz : okS true = 0 := rfl
      rw [hz]
      have HPR := Lib.hid (printed_any (HSA.out.1.below hk8) (HT.out.keep S.k) HNM.out.1 HNM.out.2.1 HNM.out.2.2.1 HNM.out.2.2.2 (Nat.le_trans HSZ.out.1 (by omega)) (Nat.le_trans HSZ.out.2.1 (by omega)) (fun x hx => Nat.le_trans (HSZ.out.2.2.1 x hx) (by omega)) (fun x hx => Nat.le_trans (HSZ.out.2.2.2 x hx) (by omega)))
      replace HRA := Lib.hid (HRA.out.keeps hk8)
      replace HRB := Lib.hid (HRB.out.keeps hk8)
      have HOK : Hid (okP l = decide (sumT (prsS l) = l)) := Lib.hid (by unfold okP; rw [hfb, Bool.true_and])
      obtain ⟨T, hT⟩ : ∃ T, sumT (prsS l) = T := ⟨_, rfl⟩
      rw [hT] at HPR HOK
      clear hz hfb HCK hk8 HSA HNM hT
      go_wp2_with (refine wpList_load_midg (wanted_some 93 rfl rfl rfl rfl) 49 _ rfl _ 0 rfl _ _ (own_range (S.o 1 rfl)) Tryz.underlying49 rfl (by kernel_rfl) ?_)
      have hvs := HVS.out
      rw [hvs]
      clear hvs
      go_wp2_with fail
      refine HPR.out.mono ?_
      rintro e W9 ⟨rfl, hk9⟩
      replace S := S.below hk9
      replace HRA := Lib.hid (HRA.out.keeps hk9)
      replace HRB := Lib.hid (HRB.out.keeps hk9)
      clear HPR hk9
      by_cases hTl : T = l
      ·have tb : (!T == l) = false := by rw [hTl]; simp
       replace HOK : Hid (okP l = true) := Lib.hid (by rw [HOK.out]; exact decide_eq_true hTl)
       clear hTl
       go_wp2_with (first | refine wpList_load_mid rfl 49 _ rfl _ 0 rfl _ _ (own_range (S.o 1 rfl)) Tryz.underlying49 rfl (by kernel_rfl) ?_ | refine wpList_store_mid rfl 49 _ _ rfl _ 0 (smY (hdV l) r1 r2 (.slice A (rowsN l) c) (.slice B (rowsN l) d) wo).toArray rfl rfl (own_there (S.o 2 rfl) rfl) (by kernel_rfl) (by kernel_rfl) ?_)
       replace HRA := Lib.hid (HRA.out.turn0 (turn_cells _ (smY (hdV l) r1 r2 (.slice A (rowsN l) c) (.slice B (rowsN l) d) wo) 0 _))
       replace HRB := Lib.hid (HRB.out.turn0 (turn_cells _ (smY (hdV l) r1 r2 (.slice A (rowsN l) c) (.slice B (rowsN l) d) wo) 0 _))
       replace S := S.put17 2 rfl rfl rfl (smY (hdV l) r1 r2 (.slice A (rowsN l) c) (.slice B (rowsN l) d) wo) rfl rfl
       simp only [List.set_cons_succ, List.set_cons_zero] at S
       have hO := S.o (p := (w.heap.size, 49, (smY (hdV l) r1 r2 (.slice A (rowsN l) c) (.slice B (rowsN l) d) wo))) 2 rfl
       simp only at hO
       have hld := run_loadVar_mid (P := Tryz.prog) _ w.heap.size 0 49 (smY (hdV l) r1 r2 (.slice A (rowsN l) c) (.slice B (rowsN l) d) wo) _ (own_range hO) Tryz.underlying49 rfl (by kernel_rfl)
       refine bodyPost_ret (v := .tuple #[.agg ((smY (hdV l) r1 r2 (.slice A (rowsN l) c) (.slice B (rowsN l) d) wo)).toArray, .int .i64 0]) (results_ct (p := ⟨w.heap.size, 0, none⟩) (ty := 49) Tryz.results32 rfl hld rfl) rfl ?_
       have ha := prs_arg HD.out HRA.out HRB.out (S.p.get (i := 0) rfl) (S.p.get (i := 1) rfl) (by rw [Hq1.out]; exact S.qi 3 rfl) (by rw [Hq2.out]; exact S.qi 2 rfl)
       rw [HWO.out] at ha
       exact ⟨fun _ => ⟨_, rfl, ha⟩, fun h => absurd h (by rw [HOK.out]; decide), S.k⟩
      ·have tb : (!T == l) = true := by simpa using hTl
       replace HOK : Hid (okP l = false) := Lib.hid (by rw [HOK.out]; exact decide_eq_false hTl)
       clear hTl HRA HRB HVS
       go_wp2_with (refine wpList_store_mid rfl 49 _ _ rfl _ 0 (smY (hdF [] 0) rz0 rz0 (.slice none 0 0) (.slice none 0 0) 0).toArray rfl rfl (own_there (S.o 2 rfl) rfl) (by kernel_rfl) (by kernel_rfl) ?_)
       replace S := S.put17 2 rfl rfl rfl (smY (hdF [] 0) rz0 rz0 (.slice none 0 0) (.slice none 0 0) 0) rfl rfl
       simp only [List.set_cons_succ, List.set_cons_zero] at S
       have hO := S.o (p := (w.heap.size, 49, (smY (hdF [] 0) rz0 rz0 (.slice none 0 0) (.slice none 0 0) 0))) 2 rfl
       simp only at hO
       have hld := run_loadVar_mid (P := Tryz.prog) _ w.heap.size 0 49 (smY (hdF [] 0) rz0 rz0 (.slice none 0 0) (.slice none 0 0) 0) _ (own_range hO) Tryz.underlying49 rfl (by kernel_rfl)
       refine bodyPost_ret (v := .tuple #[.agg ((smY (hdF [] 0) rz0 rz0 (.slice none 0 0) (.slice none 0 0) 0)).toArray, .int .i64 8]) (results_ct (p := ⟨w.heap.size, 0, none⟩) (ty := 49) Tryz.results32 rfl hld rfl) rfl ?_
       exact ⟨fun h => absurd h (by rw [HOK.out]; decide), fun _ => rfl, S.k⟩
end Go.Proofs.YtgcigdahjabimaaGreatDoor
