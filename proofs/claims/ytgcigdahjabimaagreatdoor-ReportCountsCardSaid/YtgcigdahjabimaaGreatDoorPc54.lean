/- ReportCounts: the walk. -/
import Derived.Test.YtgcigdahjabimaaGreatDoorPc47
import Derived.Test.YtgcigdahjabimaaGreatDoorPc49
import Derived.Test.YtgcigdahjabimaaGreatDoorPc50
import Derived.Test.YtgcigdahjabimaaGreatDoorPc52
import Derived.Test.YtgcigdahjabimaaGreatDoorPc53
import Derived.Test.YtgcigdahjabimaaGreatDoorPc45
namespace Go.Proofs.YtgcigdahjabimaaGreatDoor
open Go.RowKit Go.Shelf
theorem HisP.sl {w w' : World} {s : Sm} {es : List QV} {e : Ending} (h : HisP w s es e w') : ∃ A n c, e = .returned (.tuple #[.slice A n c, .int .i64 (hisC s es)]) ∧ Keeps w w' ∧ (hisC s es ≠ 0 → n = 0) ∧ (hisC s es = 0 → n = (hisL s es s.sx.length).length ∧ IRow w' A (hisL s es s.sx.length)) := by
 obtain ⟨V, rfl, hk, h1, h2⟩ := h
 by_cases h0 : hisC s es = 0
 ·obtain ⟨g, rfl, -, hO⟩ := h2 h0
  exact ⟨_, _, _, rfl, hk, fun h => absurd h0 h, fun _ => ⟨by rw [hisL_len], own_irow hO⟩⟩
 ·obtain rfl := h1 h0
  exact ⟨none, 0, 0, rfl, hk, fun _ => rfl, fun h => absurd h h0⟩
theorem AbvP.sl {w w' : World} {s : Sm} {cr : QV} {e : Ending} (h : AbvP w s cr e w') : ∃ A n c, e = .returned (.tuple #[.slice A n c, .int .i64 (abvC s cr.2)]) ∧ Keeps w w' ∧ (abvC s cr.2 ≠ 0 → n = 0) ∧ (abvC s cr.2 = 0 → n = (abvL s cr.1).length ∧ IRow w' A (abvL s cr.1)) := by
 obtain ⟨V, rfl, hk, h1, h2⟩ := h
 by_cases h0 : abvC s cr.2 = 0
 ·obtain ⟨A, c, rfl, hO⟩ := h2 h0
  exact ⟨_, _, _, rfl, hk, fun h => absurd h0 h, fun _ => ⟨rfl, hO⟩⟩
 ·obtain rfl := h1 h0
  exact ⟨none, 0, 0, rfl, hk, fun _ => rfl, fun h => absurd h h0⟩
theorem sm_rows {w : World} {s : Sm} {o0 o1 o2 o3 p0 p1 p2 p3 : Value} {A B : Option Addr} {c d : Nat} (h : SmArg w (.agg (smL s o0 o1 o2 o3 p0 p1 p2 p3 A B c d).toArray) s) : Row4 RatV2 w A s.rd ∧ Row4 RatV2 w B s.sx := by
 obtain ⟨_, _, _, _, _, _, _, _, _, _, _, _, e, -, -, h3, h4, -⟩ := h
 have e := congrArg (fun v : Value => match v with | .agg l => (l.getD 14 undef, l.getD 15 undef) | _ => (undef, undef)) e
 cases e
 exact ⟨h3, h4⟩
theorem Turn.trans' {T : List Nat} {w w1 w' : World} (h : Turn T w w1) (hk : Keeps w1 w') : Turn T w w' := h.trans (T' := T) (Turn.of_keeps hk) (fun _ h _ => h)
def KR (t : TypeId) (W w : World) (base : Nat) (v : Value) (n : Nat) (xs : List Value) : Prop := Keeps W w ∧ w.ownsRow base t 1 v n xs
theorem KR.trans' {t : TypeId} {W w w' : World} {base : Nat} {v : Value} {n : Nat} {xs : List Value} (h : KR t W w base v n xs) (hk : Keeps w w') : KR t W w' base v n xs := ⟨Keeps.trans' h.1 hk, h.2.keeps hk⟩
theorem sz1k {s : Sm} (h : szR s.ob.1 ≤ 20 ∧ szR s.sg.1 ≤ 20 ∧ (∀ x ∈ s.rd, szR x.1 ≤ 20) ∧ ∀ x ∈ s.sx, szR x.1 ≤ 20) : SmSz s :=
 ⟨Nat.le_trans h.1 (by omega), Nat.le_trans h.2.1 (by omega), fun x hx => Nat.le_trans (h.2.2.1 x hx) (by omega), fun x hx => Nat.le_trans (h.2.2.2 x hx) (by omega)⟩
set_option maxRecDepth 100000 in
set_option maxHeartbeats 4000000 in
theorem counts_any {w : World} {V : Value} {r : SmR} (h : SmRA w V r) (hcap : CapOk V) {Ae : Option Addr} {ne ce : Nat} {le : List RA} (he : Row4 RatA w Ae le) (hen : le.length = ne) (hel : ne ≤ maxLen) {Vc : Value} {rc : RA} (hc : RatA w Vc rc) (ht : PowTab w) :
 Calls Tryz.prog 4 #[V, .slice Ae ne ce, Vc] w fun e w' => e = .returned (.bool true) ∧ Keeps w w' := by
 have HT := Lib.hid ht
 have HE := Lib.hid he
 have HEN := Lib.hid hen
 have HSH := Lib.hid (fun (u : World) (hk : Keeps w u) => gsh_any (c := ce) (he.below lasts_ra hk) hen hel 80 6 (by omega) (by omega))
 have HRA := Lib.hid h
 have HCAP := Lib.hid hcap
 have hneI : (ne : Int) ≤ 9223372036854775807 := by simp only [maxLen] at hel; omega
 obtain ⟨n1, xs, n2, ys⟩ := rc
 obtain ⟨A7, c7, B7, d7, hV7⟩ := hc.1.open2
 subst hV7
 have HCR := Lib.hid hc
 have l1 := hc.2.1
 have l2 := hc.2.2
 simp only at l1 l2
 obtain ⟨o0, o1, o2, o3, p0, p1, p2, p3, AA, BB, cc, dd, rfl, -⟩ := h
 have S := ((St.start w).alloc 49 (smL r.s o0 o1 o2 o3 p0 p1 p2 p3 AA BB cc dd)).alloc 31 [.bool n1, .slice A7 xs.length c7, .bool n2, .slice B7 ys.length d7]
 simp only [World.size_alloc] at S
 obtain ⟨W0, hW0, S⟩ := S.pack
 obtain ⟨VS, hVS⟩ : ∃ V, Value.agg (smL r.s o0 o1 o2 o3 p0 p1 p2 p3 AA BB cc dd).toArray = V := ⟨_, rfl⟩
 have HVS := Lib.hid hVS
 rw [hVS] at HRA HCAP
 have HFW := Lib.hid (fun (u : World) (hk : Keeps w u) => few_any (HRA.out.below hk))
 clear he hen hel hc ht hcap hVS
 go_enter Tryz.func4, Tryz.ntmps4
 go_wp2_with fail
 refine (known_r (HT.out.keep S.k)).mono ?_
 rintro e W1 ⟨rfl, hk1⟩
 replace S := S.below hk1
 clear hk1 hW0
 go_upto_region 3 with fail
 have hvs := HVS.out
 rw [hvs]
 clear hvs
 go_cut [44] (fun g wx => ∃ b, g = .bool b ∧ Hid (b = false → fewB r = true ∧ shB 80 6 le = true ∧ (ne ≤ 12 ∨ 64 < ne) ∧ xs.length + ys.length ≤ 6) ∧ St w wx [(w.heap.size + 1, 31, [.bool n1, .slice A7 xs.length c7, .bool n2, .slice B7 ys.length d7]), (w.heap.size, 49, smL r.s o0 o1 o2 o3 p0 p1 p2 p3 AA BB cc dd)] [])
 case first => as_aux_lemma =>
  go_wp2_with (refine wpList_load_mid rfl 49 _ rfl _ 0 rfl _ _ (own_range (S.o 1 rfl)) Tryz.underlying49 rfl (by kernel_rfl) ?_)
  have hvs := HVS.out
  rw [hvs]
  clear hvs
  refine (HFW.out _ S.k).mono ?_
  rintro e W2 ⟨rfl, hk2⟩
  replace S := S.below hk2
  clear hk2
  cases hfw : fewB r with
  | false =>
   have HE1 := Lib.hid hfw
   clear hfw
   go_wp2
   go_meet
   case rel => exact ⟨true, rfl, Lib.hid (fun h => by cases h), S⟩
  | true =>
   have HFT := Lib.hid hfw
   obtain ⟨sb, hsb⟩ : ∃ b, shB 80 6 le = b := ⟨_, rfl⟩
   have HSB := Lib.hid hsb
   rw [hsb] at HSH
   clear hfw hsb
   go_wp2_with fail
   refine (HSH.out _ S.k).mono ?_
   rintro e W3 ⟨rfl, hk3⟩
   replace S := S.below hk3
   clear hk3
   cases sb with
   | false =>
    go_wp2
    go_meet
    case rel => exact ⟨true, rfl, Lib.hid (fun h => by cases h), S⟩
   | true =>
    by_cases h12 : 12 < ne
    ·have q1 : decide ((12 : Int) < (ne : Int)) = true := decide_eq_true (by omega)
     by_cases h64 : ne ≤ 64
     ·have q2 : decide ((ne : Int) ≤ 64) = true := decide_eq_true (by omega)
      go_wp2
      go_meet
      case rel => exact ⟨true, rfl, Lib.hid (fun h => by cases h), S⟩
     ·have q2 : decide ((ne : Int) ≤ 64) = false := decide_eq_false (by omega)
      have HM : Hid (ne ≤ 12 ∨ 64 < ne) := Lib.hid (.inr (by omega))
      obtain ⟨r0, r1, r2, r3⟩ := S.cc4 0 rfl
      go_wp2_with fail
      refine (rdigs_any l1 l2).mono ?_
      rintro e W4 ⟨rfl, hk4⟩
      replace S := S.below hk4
      clear hk4 r0 r1 r2 r3
      by_cases hd : 6 < xs.length + ys.length
      ·have q3 : decide ((6 : Int) < (xs.length : Int) + (ys.length : Int)) = true := decide_eq_true (by omega)
       go_wp2
       go_meet
       case rel => exact ⟨true, rfl, Lib.hid (fun h => by cases h), S⟩
      ·have q3 : decide ((6 : Int) < (xs.length : Int) + (ys.length : Int)) = false := decide_eq_false (by omega)
       have HD : Hid (xs.length + ys.length ≤ 6) := Lib.hid (by omega)
       go_wp2
       go_meet
       case rel => exact ⟨false, rfl, Lib.hid (fun _ => ⟨HFT.out, HSB.out, HM.out, HD.out⟩), S⟩
    ·have q1 : decide ((12 : Int) < (ne : Int)) = false := decide_eq_false (by omega)
     have HM : Hid (ne ≤ 12 ∨ 64 < ne) := Lib.hid (.inl (by omega))
     obtain ⟨r0, r1, r2, r3⟩ := S.cc4 0 rfl
     go_wp2_with fail
     refine (rdigs_any l1 l2).mono ?_
     rintro e W4 ⟨rfl, hk4⟩
     replace S := S.below hk4
     clear hk4 r0 r1 r2 r3
     by_cases hd : 6 < xs.length + ys.length
     ·have q3 : decide ((6 : Int) < (xs.length : Int) + (ys.length : Int)) = true := decide_eq_true (by omega)
      go_wp2
      go_meet
      case rel => exact ⟨true, rfl, Lib.hid (fun h => by cases h), S⟩
     ·have q3 : decide ((6 : Int) < (xs.length : Int) + (ys.length : Int)) = false := decide_eq_false (by omega)
      have HD : Hid (xs.length + ys.length ≤ 6) := Lib.hid (by omega)
      go_wp2
      go_meet
      case rel => exact ⟨false, rfl, Lib.hid (fun _ => ⟨HFT.out, HSB.out, HM.out, HD.out⟩), S⟩
 case rest =>
  clear S
  obtain ⟨bq, rfl, HB, S⟩ := hcut
  cases bq with
  | true =>
   go_wp2
   go_ret
   exact ⟨rfl, S.k⟩
  | false =>
   obtain ⟨hfw, hsb, hne, hdg⟩ := HB.out rfl
   have hsa := few_arg HRA.out hfw
   have hsz := few_sz hfw
   have hed := shB_of hsb
   have hev := HE.out.v2 (fun x hx => by have := hed.2 x hx; omega)
   have hcv := HCR.out.v2 (by unfold raD; simp only; omega)
   have HSA := Lib.hid hsa
   have HSZ := Lib.hid hsz
   have HEV := Lib.hid hev
   have HCV := Lib.hid hcv
   have hle : (le.map raQ).length = ne := by rw [List.length_map, HEN.out]
   have HLE := Lib.hid hle
   have hle80 : ne ≤ 80 := by rw [← HEN.out]; exact hed.1
   have HZE : Hid (∀ x ∈ le.map raQ, szR x.1 ≤ 20) := Lib.hid fun x hx => by
    obtain ⟨y, hy, rfl⟩ := List.mem_map.1 hx
    have := hed.2 y hy
    have := raQ_sz y
    omega
   have HZC : Hid (szR (raQ (n1, xs, n2, ys)).1 ≤ 20) := Lib.hid (by have := raQ_sz (n1, xs, n2, ys); unfold raD at this; simp only at this; omega)
   clear hfw hsb hsa hsz hed hev hcv hdg HB HFW HSH HE HRA hle
   generalize raQ (n1, xs, n2, ys) = qc at *
   generalize le.map raQ = es at *
   generalize r.s = s at *
   go_wp2_with (refine wpList_load_mid rfl 49 _ rfl _ 0 rfl _ _ (own_range (S.o 1 rfl)) Tryz.underlying49 rfl (by kernel_rfl) ?_)
   rw [HVS.out]
   refine (hist_any (HSA.out.below S.k) (HEV.out.below lasts_v S.k) HLE.out (by omega) (sz1k HSZ.out.1) (fun x hx => Nat.le_trans (HZE.out x hx) (by omega))).mono ?_
   rintro e W5 hH
   obtain ⟨Ah, nh, ch, rfl, hk5, hH0, hH1⟩ := hH.sl
   replace S := S.below hk5
   have HH0 := Lib.hid hH0
   have HH1 := Lib.hid hH1
   clear hH hk5 hH0 hH1
   obtain ⟨r0, r1, r2, r3⟩ := S.cc4 0 rfl
   go_wp2_with (refine wpList_load_mid rfl 49 _ rfl _ 0 rfl _ _ (own_range (S.o 1 rfl)) Tryz.underlying49 rfl (by kernel_rfl) ?_)
   rw [HVS.out]
   refine (above_any (HSA.out.below S.k) (lasts_v _ _ _ _ S.k HCV.out) (sz1k HSZ.out.1) HSZ.out.2.2).mono ?_
   rintro e W6 hA
   obtain ⟨Aa, na, ca, rfl, hk6, hA0, hA1⟩ := hA.sl
   replace S := S.below hk6
   have HHR : Hid (hisC s es = 0 → nh = (hisL s es s.sx.length).length ∧ IRow W6 Ah (hisL s es s.sx.length)) := Lib.hid fun h => ⟨(HH1.out h).1, Row.below (HH1.out h).2 hk6⟩
   have HA0 := Lib.hid hA0
   have HA1 := Lib.hid hA1
   clear hA hk6 hA0 hA1 r0 r1 r2 r3 HH1
   go_wp2_with (refine wpList_load_mid rfl 49 _ rfl _ 0 rfl _ _ (own_range (S.o 1 rfl)) Tryz.underlying49 rfl (by kernel_rfl) ?_)
   rw [HVS.out]
   refine (formed_any (HSA.out.below S.k) HCAP.out (sz1k HSZ.out.1) HSZ.out.2.1 HSZ.out.2.2).mono ?_
   rintro e W7 ⟨rfl, hk7⟩
   replace S := S.below hk7
   have HHS : Hid (hisC s es = 0 → nh = (hisL s es s.sx.length).length ∧ IRow W7 Ah (hisL s es s.sx.length)) := Lib.hid fun h => ⟨(HHR.out h).1, Row.below (HHR.out h).2 hk7⟩
   have HAS : Hid (abvC s qc.2 = 0 → na = (abvL s qc.1).length ∧ IRow W7 Aa (abvL s qc.1)) := Lib.hid fun h => ⟨(HA1.out h).1, Row.below (HA1.out h).2 hk7⟩
   clear hk7 HHR HA1
   obtain ⟨zC, hzC⟩ : ∃ z, hisC s es = z := ⟨_, rfl⟩
   obtain ⟨zD, hzD⟩ : ∃ z, abvC s qc.2 = z := ⟨_, rfl⟩
   rw [hzC] at HHS HH0 ⊢
   rw [hzD] at HAS HA0 ⊢
   have HZC0 := Lib.hid hzC
   have HZD0 := Lib.hid hzD
   clear hzC hzD
   obtain ⟨fb, hfb⟩ : ∃ b, formB s = b := ⟨_, rfl⟩
   have HFB := Lib.hid hfb
   rw [hfb]
   clear hfb
   cases fb with
   | false =>
    obtain rfl : zC = 1 := by rw [← HZC0.out]; unfold hisC; rw [HFB.out]; rfl
    obtain rfl : zD = 1 := by rw [← HZD0.out]; unfold abvC; rw [HFB.out]; rfl
    obtain rfl := HH0.out (by decide)
    obtain rfl := HA0.out (by decide)
    go_wp2
    go_ret
    exact ⟨rfl, S.k⟩
   | true =>
    have hCE : zC = if es.any (fun x => !x.2) then 1 else if ordB es then (if 64 < es.length then 3 else 0) else 5 := by rw [← HZC0.out]; unfold hisC; rw [HFB.out]; rfl
    have hDE : zD = if qc.2 then 0 else 1 := by rw [← HZD0.out]; unfold abvC; rw [HFB.out]; rfl
    have HCE := Lib.hid hCE
    have HDE := Lib.hid hDE
    clear hCE hDE
    go_upto_region 10 with fail
    obtain ⟨vb, hvb⟩ : ∃ b, (es.all fun x => x.2) = b := ⟨_, rfl⟩
    have HVB := Lib.hid hvb
    have HVL := Lib.hid (gvl_any (c := ce) (HEV.out.below lasts_v S.k) HLE.out (by simp only [maxLen]; omega))
    rw [hvb] at HVL
    clear hvb
    go_cut [78] (fun g wx => g = .bool (!vb) ∧ Keeps W7 wx ∧ St w wx [(w.heap.size + 1, 31, [.bool n1, .slice A7 xs.length c7, .bool n2, .slice B7 ys.length d7]), (w.heap.size, 49, smL s o0 o1 o2 o3 p0 p1 p2 p3 AA BB cc dd)] [])
    case first => as_aux_lemma =>
     go_wp2_with fail
     refine HVL.out.mono ?_
     rintro e W8 ⟨rfl, hk8⟩
     go_wp2
     go_meet
     case rel => exact ⟨rfl, hk8, S.below hk8⟩
    case rest =>
     clear S HVL
     obtain ⟨rfl, hkw, S⟩ := hcut
     apply_assumption
     go_cut [11] (fun v wx => v = .int .i64 zC ∧ Keeps W7 wx ∧ St w wx [(w.heap.size + 1, 31, [.bool n1, .slice A7 xs.length c7, .bool n2, .slice B7 ys.length d7]), (w.heap.size, 49, smL s o0 o1 o2 o3 p0 p1 p2 p3 AA BB cc dd)] [])
     case first => as_aux_lemma =>
      cases vb with
      | false =>
       have hz1 : zC = 1 := by
        rw [HCE.out, if_pos]
        have := HVB.out
        rw [List.all_eq_false] at this
        obtain ⟨x, hx, h2⟩ := this
        exact List.any_eq_true.2 ⟨x, hx, by simpa using h2⟩
       have HZ1 := Lib.hid hz1
       clear hz1
       go_wp2
       go_meet
       case rel => exact ⟨by rw [HZ1.out], hkw, S⟩
      | true =>
       have hz1 : zC = if ordB es then (if 64 < ne then 3 else 0) else 5 := by
        rw [HCE.out, if_neg, HLE.out]
        intro h
        obtain ⟨x, hx, h2⟩ := List.any_eq_true.1 h
        have h3 : x.2 = true := List.all_eq_true.1 HVB.out x hx
        rw [h3] at h2
        cases h2
       have HZ1 := Lib.hid hz1
       clear hz1
       go_wp2
       go_loopw [81, 11] (fun i v wr => ∃ (k : Nat) (z : Int), k ≤ ne ∧ i = .int .i64 (k : Nat) ∧ v = .int .i64 z ∧ Hid (z = if (List.range (k - 1)).all (ordK es) then 0 else 5) ∧ Keeps W7 wr ∧ St w wr [(w.heap.size + 1, 31, [.bool n1, .slice A7 xs.length c7, .bool n2, .slice B7 ys.length d7]), (w.heap.size, 49, smL s o0 o1 o2 o3 p0 p1 p2 p3 AA BB cc dd)] []) (fun i _ _ => ne - (intOf i).toNat)
       case atStart => exact ⟨0, 0, Nat.zero_le _, rfl, rfl, Lib.hid rfl, hkw, S⟩
       case round =>
        clear S hkw
        obtain ⟨k, z, hk, rfl, rfl, HZ, hkw, S⟩ := hrel
        by_cases hlt : k < ne
        ·have hkI : (k : Int) < (ne : Int) := by omega
         have tk : decide ((k : Int) < (ne : Int)) = true := decide_eq_true hkI
         by_cases hk0 : k = 0
         ·subst hk0
          go_upto_region 15 with fail
          go_upto_region 15 with fail
          refine wp_region_steps (m := 15) rfl (by kernel_rfl) (fun iF vF wF => (List.getD [ve (.int .i64 0), ve (.bool false), ve (.bool false), ve undef, ve undef, ve undef, ve undef, ve undef, ve undef, ve undef, ve undef, ve undef, ve undef, ve undef, ve (.bool false)] iF (fun _ _ => True)) vF wF) [] ?_ ?_ ?_
          ·intro i v w w' _ h hk
           refine stabL_get ?_ i v w w' h hk
           exact stab_cons st_e (stab_cons st_e (stab_cons st_e (stab_cons st_e (stab_cons st_e (stab_cons st_e (stab_cons st_e (stab_cons st_e (stab_cons st_e (stab_cons st_e (stab_cons st_e (stab_cons st_e (stab_cons st_e (stab_cons st_e (stab_cons st_e stab_nil))))))))))))))
          ·intro i hi vs w3 hk3 hd
           have S3 := S.drew.below hk3
           match i, hi with
           | 0, _ =>
            refine sv0 [] (ve (.int .i64 0)) rfl fun K hK => ?_; clear hd; simp only [frD] at hK ⊢; go_simp
            exact hK _ _ bl rfl
           | 1, _ =>
            have qe0 : (vs 0) = .int .i64 0 := hdk hd 0
            refine sv0 [(0, some 84)] (ve (.bool false)) rfl fun K hK => ?_; clear hd; simp only [frD, qe0] at hK ⊢; go_simp
            exact hK _ _ bl rfl
           | 2, _ =>
            have qe1 : (vs 1) = .bool false := hdk hd 1
            refine sv0 [(1, some 85)] (ve (.bool false)) rfl fun K hK => ?_; clear hd; simp only [frD, qe1] at hK ⊢; go_simp
            exact hK _ _ bl rfl
           | 3, _ =>
            have qe2 : (vs 2) = .bool false := hdk hd 2
            exact step_no [(2, some 86)] rfl (by kernel_rfl) (by simp only [frD, qe2]; rfl) rfl (by simp)
           | 4, _ =>
            have qe2 : (vs 2) = .bool false := hdk hd 2
            exact step_no [(2, some 86)] rfl (by kernel_rfl) (by simp only [frD, qe2]; rfl) rfl (by simp)
           | 5, _ =>
            have qe2 : (vs 2) = .bool false := hdk hd 2; have qe4 : (vs 4) = undef := hdk hd 4
            exact step_no [(2, some 86), (4, some 88)] rfl (by kernel_rfl) (by simp only [frD, qe2, qe4]; rfl) rfl (by simp)
           | 6, _ =>
            have qe2 : (vs 2) = .bool false := hdk hd 2; have qe3 : (vs 3) = undef := hdk hd 3; have qe5 : (vs 5) = undef := hdk hd 5
            exact step_no [(2, some 86), (3, some 87), (5, some 89)] rfl (by kernel_rfl) (by simp only [frD, qe2, qe3, qe5]; rfl) rfl (by simp)
           | 7, _ =>
            have qe2 : (vs 2) = .bool false := hdk hd 2; have qe6 : (vs 6) = undef := hdk hd 6
            exact step_no [(2, some 86), (6, some 90)] rfl (by kernel_rfl) (by simp only [frD, qe2, qe6]; rfl) rfl (by simp)
           | 8, _ =>
            have qe2 : (vs 2) = .bool false := hdk hd 2
            exact step_no [(2, some 86)] rfl (by kernel_rfl) (by simp only [frD, qe2]; rfl) rfl (by simp)
           | 9, _ =>
            have qe2 : (vs 2) = .bool false := hdk hd 2
            exact step_no [(2, some 86)] rfl (by kernel_rfl) (by simp only [frD, qe2]; rfl) rfl (by simp)
           | 10, _ =>
            have qe2 : (vs 2) = .bool false := hdk hd 2; have qe8 : (vs 8) = undef := hdk hd 8; have qe9 : (vs 9) = undef := hdk hd 9
            exact step_no [(2, some 86), (8, some 92), (9, some 93)] rfl (by kernel_rfl) (by simp only [frD, qe2, qe8, qe9]; rfl) rfl (by simp)
           | 11, _ =>
            have qe2 : (vs 2) = .bool false := hdk hd 2; have qe10 : (vs 10) = undef := hdk hd 10
            exact step_no [(2, some 86), (10, some 94)] rfl (by kernel_rfl) (by simp only [frD, qe2, qe10]; rfl) rfl (by simp)
           | 12, _ =>
            have qe2 : (vs 2) = .bool false := hdk hd 2; have qe7 : (vs 7) = undef := hdk hd 7; have qe11 : (vs 11) = undef := hdk hd 11
            exact step_no [(2, some 86), (7, some 91), (11, some 95)] rfl (by kernel_rfl) (by simp only [frD, qe2, qe7, qe11]; rfl) rfl (by simp)
           | 13, _ =>
            have qe2 : (vs 2) = .bool false := hdk hd 2; have qe12 : (vs 12) = undef := hdk hd 12
            exact step_no [(2, some 86), (12, some 96)] rfl (by kernel_rfl) (by simp only [frD, qe2, qe12]; rfl) rfl (by simp)
           | 14, _ =>
            have qe2 : (vs 2) = .bool false := hdk hd 2; have qe13 : (vs 13) = undef := hdk hd 13
            refine sv0 [(2, some 86), (13, some 97)] (ve (.bool false)) rfl fun K hK => ?_; clear hd; simp only [frD, qe2, qe13] at hK ⊢; go_simp
            exact hK _ _ bl rfl
           | i + 15, hi => exact absurd hi (by omega)
          ·intro vs W61 hk3 hΦ _
           simp only [List.drop_succ_cons, List.drop_zero]
           rw [fr_frD, show (List.range 15).map _ = [(0, some 84), (1, some 85), (2, some 86), (3, some 87), (4, some 88), (5, some 89), (6, some 90), (7, some 91), (8, some 92), (9, some 93), (10, some 94), (11, some 95), (12, some 96), (13, some 97), (14, some 98)] by kernel_rfl]
           have pm0 : (vs 0) = .int .i64 0 := hΦ 0 (by decide)
           have pm1 : (vs 1) = .bool false := hΦ 1 (by decide)
           have pm2 : (vs 2) = .bool false := hΦ 2 (by decide)
           have pm3 : (vs 3) = undef := hΦ 3 (by decide)
           have pm4 : (vs 4) = undef := hΦ 4 (by decide)
           have pm5 : (vs 5) = undef := hΦ 5 (by decide)
           have pm6 : (vs 6) = undef := hΦ 6 (by decide)
           have pm7 : (vs 7) = undef := hΦ 7 (by decide)
           have pm8 : (vs 8) = undef := hΦ 8 (by decide)
           have pm9 : (vs 9) = undef := hΦ 9 (by decide)
           have pm10 : (vs 10) = undef := hΦ 10 (by decide)
           have pm11 : (vs 11) = undef := hΦ 11 (by decide)
           have pm12 : (vs 12) = undef := hΦ 12 (by decide)
           have pm13 : (vs 13) = undef := hΦ 13 (by decide)
           have pm14 : (vs 14) = .bool false := hΦ 14 (by decide)
           clear hΦ
           simp only [frD, pm0, pm1, pm2, pm3, pm4, pm5, pm6, pm7, pm8, pm9, pm10, pm11, pm12, pm13, pm14]
           simp only [Act.put, List.setIfInBounds_toArray, List.set_cons_zero, List.set_cons_succ]
           clear pm0 pm1 pm2 pm3 pm4 pm5 pm6 pm7 pm8 pm9 pm10 pm11 pm12 pm13 pm14
           replace S := S.drew.below hk3
           replace hkw := hkw.trans' (Keeps.trans' (w1 := wr.drew) (Below.drew (Below.refl _ wr)) hk3)
           clear hk3
           go_wp2
           go_roundw
           case rel => exact ⟨1, z, by omega, rfl, rfl, Lib.hid HZ.out, hkw, S⟩
           case measure => simp [intOf]; omega
         ·obtain ⟨m, hm⟩ : ∃ m, k - 1 = m := ⟨_, rfl⟩
          obtain ⟨⟨q1, vb1⟩, hq1⟩ : ∃ x, es[m]? = some x := ⟨_, List.getElem?_eq_getElem (by rw [HLE.out]; omega)⟩
          obtain ⟨⟨q2, vb2⟩, hq2⟩ : ∃ x, es[k]? = some x := ⟨_, List.getElem?_eq_getElem (by rw [HLE.out]; omega)⟩
          obtain ⟨Be, oe, u0, u1, u2, u3, rfl, hc1, hx1⟩ := HEV.out.get lasts_v hq1
          obtain ⟨B2, o2', v0, v1, v2, v3, hA2, hc2, hx2⟩ := HEV.out.get lasts_v hq2
          cases hA2
          obtain ⟨bx, Ax, nx, cx, dx, Bx, mx, ex, rfl, rfl, rfl, rfl⟩ := (hx1 w bl).open4
          obtain ⟨by', Ay, ny, cy, dy, Bz, my, ey, rfl, rfl, rfl, rfl⟩ := (hx2 w bl).open4
          have hX1 := (hx1 wr S.k).num'
          have hX2 := (hx2 wr S.k).num'
          have HC1 := Lib.hid hc1
          have HC2 := Lib.hid hc2
          have s1' := HZE.out _ (List.mem_of_getElem? hq1)
          have s2' := HZE.out _ (List.mem_of_getElem? hq2)
          simp only at hX1 hX2 s1' s2'
          replace S := (S.addR hX1).addR hX2
          have hok : ordK es m = decide (q1 < q2) := by
           unfold ordK
           simp only [List.getD, hq1, show m + 1 = k by omega, hq2, Option.getD_some]
          have hnx : (List.range (k + 1 - 1)).all (ordK es) = ((List.range (k - 1)).all (ordK es) && decide (q1 < q2)) := by
           rw [show k + 1 - 1 = m + 1 by omega, List.range_succ, List.all_append, hm]
           simp only [List.all_cons, List.all_nil, Bool.and_true]
           rw [hok]
          have HNX := Lib.hid hnx
          have hkp : 0 < k := by omega
          have hm1 : (k : Int) - 1 = (m : Int) := by omega
          have hmn : m < ne := by omega
          have hmI : (m : Int) < (ne : Int) := by omega
          have hwm : IntKind.i64.wrap (m : Int) = (m : Int) := IntWalk.i64_in _ (by omega)
          clear hok hnx hc1 hc2 hx1 hx2 hX1 hX2 hq1 hq2 hm
          go_upto_region 15 with fail
          obtain ⟨s1, hs1⟩ : ∃ s, cmpR q1 q2 = s := ⟨_, rfl⟩
          have t1 : decide (0 < (k : Int)) = true := by exact decide_eq_true (by omega)
          have HS1 := Lib.hid hs1
          clear hs1
          go_upto_region 15 with fail
          rcases Bool.eq_false_or_eq_true (decide (0 ≤ s1)) with t2 | t2
          ·skip
           refine wp_region_steps (m := 15) rfl (by kernel_rfl) (fun iF vF wF => (List.getD [ve (.int .i64 (k : Int)), ve (.bool true), ve (.bool true), ve (.slice (some ⟨Be, oe, none⟩) ne ce), ve (.int .i64 (k : Int)), ve (.int .i64 ((m : Nat) : Int)), ve (.pointer (some ⟨Be, oe + m * 4, none⟩)), ve (.agg #[.bool bx, .slice Ax nx cx, .bool dx, .slice Bx mx ex]), ve (.slice (some ⟨Be, oe, none⟩) ne ce), ve (.int .i64 (k : Int)), ve (.pointer (some ⟨Be, oe + k * 4, none⟩)), ve (.agg #[.bool by', .slice Ay ny cy, .bool dy, .slice Bz my ey]), ve (.int .i64 s1), ve (.bool true), ve (.bool true)] iF (fun _ _ => True)) vF wF) [] ?_ ?_ ?_
           ·intro i v w w' _ h hk
            refine stabL_get ?_ i v w w' h hk
            exact stab_cons st_e (stab_cons st_e (stab_cons st_e (stab_cons st_e (stab_cons st_e (stab_cons st_e (stab_cons st_e (stab_cons st_e (stab_cons st_e (stab_cons st_e (stab_cons st_e (stab_cons st_e (stab_cons st_e (stab_cons st_e (stab_cons st_e stab_nil))))))))))))))
           ·intro i hi vs w3 hk3 hd
            have S3 := S.drew.below hk3
            obtain ⟨g0, g1, g2, g3⟩ := HC1.out _ S3.k
            obtain ⟨y0, y1, y2, y3⟩ := HC2.out _ S3.k
            match i, hi with
            | 0, _ =>
             refine sv0 [] (ve (.int .i64 (k : Int))) rfl fun K hK => ?_; clear hd; simp only [frD] at hK ⊢; go_simp
             exact hK _ _ bl rfl
            | 1, _ =>
             have qe0 : (vs 0) = .int .i64 (k : Int) := hdk hd 0
             refine sv0 [(0, some 84)] (ve (.bool true)) rfl fun K hK => ?_; clear hd; simp only [frD, qe0] at hK ⊢; go_simp
             exact hK _ _ bl rfl
            | 2, _ =>
             have qe1 : (vs 1) = .bool true := hdk hd 1
             refine sv0 [(1, some 85)] (ve (.bool true)) rfl fun K hK => ?_; clear hd; simp only [frD, qe1] at hK ⊢; go_simp
             exact hK _ _ bl rfl
            | 3, _ =>
             have qe2 : (vs 2) = .bool true := hdk hd 2
             refine svg [(2, some 86)] (ve (.slice (some ⟨Be, oe, none⟩) ne ce)) rfl (ws 86 qe2) fun K hK => ?_; clear hd; simp only [frD, qe2] at hK ⊢; go_simp
             exact hK _ _ bl rfl
            | 4, _ =>
             have qe2 : (vs 2) = .bool true := hdk hd 2
             refine svg [(2, some 86)] (ve (.int .i64 (k : Int))) rfl (ws 86 qe2) fun K hK => ?_; clear hd; simp only [frD, qe2] at hK ⊢; go_simp
             exact hK _ _ bl rfl
            | 5, _ =>
             have qe2 : (vs 2) = .bool true := hdk hd 2; have qe4 : (vs 4) = .int .i64 (k : Int) := hdk hd 4
             refine svg [(2, some 86), (4, some 88)] (ve (.int .i64 ((m : Nat) : Int))) rfl (ws 86 qe2) fun K hK => ?_; clear hd; simp only [frD, qe2, qe4] at hK ⊢; go_simp
             exact hK _ _ bl rfl
            | 6, _ =>
             have qe2 : (vs 2) = .bool true := hdk hd 2; have qe3 : (vs 3) = .slice (some ⟨Be, oe, none⟩) ne ce := hdk hd 3; have qe5 : (vs 5) = .int .i64 ((m : Nat) : Int) := hdk hd 5
             refine svg [(2, some 86), (3, some 87), (5, some 89)] (ve (.pointer (some ⟨Be, oe + m * 4, none⟩))) rfl (ws 86 qe2) fun K hK => ?_; clear hd; simp only [frD, qe2, qe3, qe5] at hK ⊢; go_simp
             exact hK _ _ bl rfl
            | 7, _ =>
             have qe2 : (vs 2) = .bool true := hdk hd 2; have qe6 : (vs 6) = .pointer (some ⟨Be, oe + m * 4, none⟩) := hdk hd 6
             refine svg [(2, some 86), (6, some 90)] (ve (.agg #[.bool bx, .slice Ax nx cx, .bool dx, .slice Bx mx ex])) rfl (ws 86 qe2) fun K hK => ?_; clear hd; simp only [frD, qe2, qe6] at hK ⊢; go_simp
             exact hK _ _ bl rfl
            | 8, _ =>
             have qe2 : (vs 2) = .bool true := hdk hd 2
             refine svg [(2, some 86)] (ve (.slice (some ⟨Be, oe, none⟩) ne ce)) rfl (ws 86 qe2) fun K hK => ?_; clear hd; simp only [frD, qe2] at hK ⊢; go_simp
             exact hK _ _ bl rfl
            | 9, _ =>
             have qe2 : (vs 2) = .bool true := hdk hd 2
             refine svg [(2, some 86)] (ve (.int .i64 (k : Int))) rfl (ws 86 qe2) fun K hK => ?_; clear hd; simp only [frD, qe2] at hK ⊢; go_simp
             exact hK _ _ bl rfl
            | 10, _ =>
             have qe2 : (vs 2) = .bool true := hdk hd 2; have qe8 : (vs 8) = .slice (some ⟨Be, oe, none⟩) ne ce := hdk hd 8; have qe9 : (vs 9) = .int .i64 (k : Int) := hdk hd 9
             refine svg [(2, some 86), (8, some 92), (9, some 93)] (ve (.pointer (some ⟨Be, oe + k * 4, none⟩))) rfl (ws 86 qe2) fun K hK => ?_; clear hd; simp only [frD, qe2, qe8, qe9] at hK ⊢; go_simp
             exact hK _ _ bl rfl
            | 11, _ =>
             have qe2 : (vs 2) = .bool true := hdk hd 2; have qe10 : (vs 10) = .pointer (some ⟨Be, oe + k * 4, none⟩) := hdk hd 10
             refine svg [(2, some 86), (10, some 94)] (ve (.agg #[.bool by', .slice Ay ny cy, .bool dy, .slice Bz my ey])) rfl (ws 86 qe2) fun K hK => ?_; clear hd; simp only [frD, qe2, qe10] at hK ⊢; go_simp
             exact hK _ _ bl rfl
            | 12, _ =>
             have qe2 : (vs 2) = .bool true := hdk hd 2; have qe7 : (vs 7) = .agg #[.bool bx, .slice Ax nx cx, .bool dx, .slice Bx mx ex] := hdk hd 7; have qe11 : (vs 11) = .agg #[.bool by', .slice Ay ny cy, .bool dy, .slice Bz my ey] := hdk hd 11
             refine sc (A := #[(vs 7), (vs 11)]) (B := #[.agg #[.bool bx, .slice Ax nx cx, .bool dx, .slice Bx mx ex], .agg #[.bool by', .slice Ay ny cy, .bool dy, .slice Bz my ey]]) [(2, some 86), (7, some 91), (11, some 95)] (ve (.int .i64 s1)) rfl (ws 86 qe2) (by rw [qe7, qe11]) Tryz.func18 ?_
             refine ((gcompare_s (S3.ri 1 rfl) (S3.ri 0 rfl) (by omega) HS1.out)).mono ?_; rintro e w4 ⟨rfl, hk4⟩; exact ⟨_, rfl, hk4, rfl⟩
            | 13, _ =>
             have qe2 : (vs 2) = .bool true := hdk hd 2; have qe12 : (vs 12) = .int .i64 s1 := hdk hd 12
             refine svg [(2, some 86), (12, some 96)] (ve (.bool true)) rfl (ws 86 qe2) fun K hK => ?_; clear hd; simp only [frD, qe2, qe12] at hK ⊢; go_simp
             exact hK _ _ bl rfl
            | 14, _ =>
             have qe2 : (vs 2) = .bool true := hdk hd 2; have qe13 : (vs 13) = .bool true := hdk hd 13
             refine sv0 [(2, some 86), (13, some 97)] (ve (.bool true)) rfl fun K hK => ?_; clear hd; simp only [frD, qe2, qe13] at hK ⊢; go_simp
             exact hK _ _ bl rfl
            | i + 15, hi => exact absurd hi (by omega)
           ·intro vs W41 hk3 hΦ _
            simp only [List.drop_succ_cons, List.drop_zero]
            rw [fr_frD, show (List.range 15).map _ = [(0, some 84), (1, some 85), (2, some 86), (3, some 87), (4, some 88), (5, some 89), (6, some 90), (7, some 91), (8, some 92), (9, some 93), (10, some 94), (11, some 95), (12, some 96), (13, some 97), (14, some 98)] by kernel_rfl]
            have pi0 : (vs 0) = .int .i64 (k : Int) := hΦ 0 (by decide)
            have pi1 : (vs 1) = .bool true := hΦ 1 (by decide)
            have pi2 : (vs 2) = .bool true := hΦ 2 (by decide)
            have pi3 : (vs 3) = .slice (some ⟨Be, oe, none⟩) ne ce := hΦ 3 (by decide)
            have pi4 : (vs 4) = .int .i64 (k : Int) := hΦ 4 (by decide)
            have pi5 : (vs 5) = .int .i64 ((m : Nat) : Int) := hΦ 5 (by decide)
            have pi6 : (vs 6) = .pointer (some ⟨Be, oe + m * 4, none⟩) := hΦ 6 (by decide)
            have pi7 : (vs 7) = .agg #[.bool bx, .slice Ax nx cx, .bool dx, .slice Bx mx ex] := hΦ 7 (by decide)
            have pi8 : (vs 8) = .slice (some ⟨Be, oe, none⟩) ne ce := hΦ 8 (by decide)
            have pi9 : (vs 9) = .int .i64 (k : Int) := hΦ 9 (by decide)
            have pi10 : (vs 10) = .pointer (some ⟨Be, oe + k * 4, none⟩) := hΦ 10 (by decide)
            have pi11 : (vs 11) = .agg #[.bool by', .slice Ay ny cy, .bool dy, .slice Bz my ey] := hΦ 11 (by decide)
            have pi12 : (vs 12) = .int .i64 s1 := hΦ 12 (by decide)
            have pi13 : (vs 13) = .bool true := hΦ 13 (by decide)
            have pi14 : (vs 14) = .bool true := hΦ 14 (by decide)
            clear hΦ
            simp only [frD, pi0, pi1, pi2, pi3, pi4, pi5, pi6, pi7, pi8, pi9, pi10, pi11, pi12, pi13, pi14]
            simp only [Act.put, List.setIfInBounds_toArray, List.set_cons_zero, List.set_cons_succ]
            clear pi0 pi1 pi2 pi3 pi4 pi5 pi6 pi7 pi8 pi9 pi10 pi11 pi12 pi13 pi14
            replace S := S.drew.below hk3
            replace hkw := hkw.trans' (Keeps.trans' (w1 := wr.drew) (Below.drew (Below.refl _ wr)) hk3)
            clear hk3
            go_wp2
            have HB5 : Hid ((5 : Int) = if (List.range (k + 1 - 1)).all (ordK es) then 0 else 5) := Lib.hid (by
             have h1 := of_decide_eq_true t2
             rw [← HS1.out] at h1
             rw [HNX.out, decide_eq_false (fun h => absurd ((cmpR_lt _ _).2 h) (by omega)), Bool.and_false]
             rfl)
            go_roundw
            case rel => exact ⟨k + 1, 5, by omega, by go_num, rfl, HB5, hkw, S.onlyL⟩
            case measure => simp [intOf]; omega
          ·skip
           refine wp_region_steps (m := 15) rfl (by kernel_rfl) (fun iF vF wF => (List.getD [ve (.int .i64 (k : Int)), ve (.bool true), ve (.bool true), ve (.slice (some ⟨Be, oe, none⟩) ne ce), ve (.int .i64 (k : Int)), ve (.int .i64 ((m : Nat) : Int)), ve (.pointer (some ⟨Be, oe + m * 4, none⟩)), ve (.agg #[.bool bx, .slice Ax nx cx, .bool dx, .slice Bx mx ex]), ve (.slice (some ⟨Be, oe, none⟩) ne ce), ve (.int .i64 (k : Int)), ve (.pointer (some ⟨Be, oe + k * 4, none⟩)), ve (.agg #[.bool by', .slice Ay ny cy, .bool dy, .slice Bz my ey]), ve (.int .i64 s1), ve (.bool false), ve (.bool false)] iF (fun _ _ => True)) vF wF) [] ?_ ?_ ?_
           ·intro i v w w' _ h hk
            refine stabL_get ?_ i v w w' h hk
            exact stab_cons st_e (stab_cons st_e (stab_cons st_e (stab_cons st_e (stab_cons st_e (stab_cons st_e (stab_cons st_e (stab_cons st_e (stab_cons st_e (stab_cons st_e (stab_cons st_e (stab_cons st_e (stab_cons st_e (stab_cons st_e (stab_cons st_e stab_nil))))))))))))))
           ·intro i hi vs w3 hk3 hd
            have S3 := S.drew.below hk3
            obtain ⟨g0, g1, g2, g3⟩ := HC1.out _ S3.k
            obtain ⟨y0, y1, y2, y3⟩ := HC2.out _ S3.k
            match i, hi with
            | 0, _ =>
             refine sv0 [] (ve (.int .i64 (k : Int))) rfl fun K hK => ?_; clear hd; simp only [frD] at hK ⊢; go_simp
             exact hK _ _ bl rfl
            | 1, _ =>
             have qe0 : (vs 0) = .int .i64 (k : Int) := hdk hd 0
             refine sv0 [(0, some 84)] (ve (.bool true)) rfl fun K hK => ?_; clear hd; simp only [frD, qe0] at hK ⊢; go_simp
             exact hK _ _ bl rfl
            | 2, _ =>
             have qe1 : (vs 1) = .bool true := hdk hd 1
             refine sv0 [(1, some 85)] (ve (.bool true)) rfl fun K hK => ?_; clear hd; simp only [frD, qe1] at hK ⊢; go_simp
             exact hK _ _ bl rfl
            | 3, _ =>
             have qe2 : (vs 2) = .bool true := hdk hd 2
             refine svg [(2, some 86)] (ve (.slice (some ⟨Be, oe, none⟩) ne ce)) rfl (ws 86 qe2) fun K hK => ?_; clear hd; simp only [frD, qe2] at hK ⊢; go_simp
             exact hK _ _ bl rfl
            | 4, _ =>
             have qe2 : (vs 2) = .bool true := hdk hd 2
             refine svg [(2, some 86)] (ve (.int .i64 (k : Int))) rfl (ws 86 qe2) fun K hK => ?_; clear hd; simp only [frD, qe2] at hK ⊢; go_simp
             exact hK _ _ bl rfl
            | 5, _ =>
             have qe2 : (vs 2) = .bool true := hdk hd 2; have qe4 : (vs 4) = .int .i64 (k : Int) := hdk hd 4
             refine svg [(2, some 86), (4, some 88)] (ve (.int .i64 ((m : Nat) : Int))) rfl (ws 86 qe2) fun K hK => ?_; clear hd; simp only [frD, qe2, qe4] at hK ⊢; go_simp
             exact hK _ _ bl rfl
            | 6, _ =>
             have qe2 : (vs 2) = .bool true := hdk hd 2; have qe3 : (vs 3) = .slice (some ⟨Be, oe, none⟩) ne ce := hdk hd 3; have qe5 : (vs 5) = .int .i64 ((m : Nat) : Int) := hdk hd 5
             refine svg [(2, some 86), (3, some 87), (5, some 89)] (ve (.pointer (some ⟨Be, oe + m * 4, none⟩))) rfl (ws 86 qe2) fun K hK => ?_; clear hd; simp only [frD, qe2, qe3, qe5] at hK ⊢; go_simp
             exact hK _ _ bl rfl
            | 7, _ =>
             have qe2 : (vs 2) = .bool true := hdk hd 2; have qe6 : (vs 6) = .pointer (some ⟨Be, oe + m * 4, none⟩) := hdk hd 6
             refine svg [(2, some 86), (6, some 90)] (ve (.agg #[.bool bx, .slice Ax nx cx, .bool dx, .slice Bx mx ex])) rfl (ws 86 qe2) fun K hK => ?_; clear hd; simp only [frD, qe2, qe6] at hK ⊢; go_simp
             exact hK _ _ bl rfl
            | 8, _ =>
             have qe2 : (vs 2) = .bool true := hdk hd 2
             refine svg [(2, some 86)] (ve (.slice (some ⟨Be, oe, none⟩) ne ce)) rfl (ws 86 qe2) fun K hK => ?_; clear hd; simp only [frD, qe2] at hK ⊢; go_simp
             exact hK _ _ bl rfl
            | 9, _ =>
             have qe2 : (vs 2) = .bool true := hdk hd 2
             refine svg [(2, some 86)] (ve (.int .i64 (k : Int))) rfl (ws 86 qe2) fun K hK => ?_; clear hd; simp only [frD, qe2] at hK ⊢; go_simp
             exact hK _ _ bl rfl
            | 10, _ =>
             have qe2 : (vs 2) = .bool true := hdk hd 2; have qe8 : (vs 8) = .slice (some ⟨Be, oe, none⟩) ne ce := hdk hd 8; have qe9 : (vs 9) = .int .i64 (k : Int) := hdk hd 9
             refine svg [(2, some 86), (8, some 92), (9, some 93)] (ve (.pointer (some ⟨Be, oe + k * 4, none⟩))) rfl (ws 86 qe2) fun K hK => ?_; clear hd; simp only [frD, qe2, qe8, qe9] at hK ⊢; go_simp
             exact hK _ _ bl rfl
            | 11, _ =>
             have qe2 : (vs 2) = .bool true := hdk hd 2; have qe10 : (vs 10) = .pointer (some ⟨Be, oe + k * 4, none⟩) := hdk hd 10
             refine svg [(2, some 86), (10, some 94)] (ve (.agg #[.bool by', .slice Ay ny cy, .bool dy, .slice Bz my ey])) rfl (ws 86 qe2) fun K hK => ?_; clear hd; simp only [frD, qe2, qe10] at hK ⊢; go_simp
             exact hK _ _ bl rfl
            | 12, _ =>
             have qe2 : (vs 2) = .bool true := hdk hd 2; have qe7 : (vs 7) = .agg #[.bool bx, .slice Ax nx cx, .bool dx, .slice Bx mx ex] := hdk hd 7; have qe11 : (vs 11) = .agg #[.bool by', .slice Ay ny cy, .bool dy, .slice Bz my ey] := hdk hd 11
             refine sc (A := #[(vs 7), (vs 11)]) (B := #[.agg #[.bool bx, .slice Ax nx cx, .bool dx, .slice Bx mx ex], .agg #[.bool by', .slice Ay ny cy, .bool dy, .slice Bz my ey]]) [(2, some 86), (7, some 91), (11, some 95)] (ve (.int .i64 s1)) rfl (ws 86 qe2) (by rw [qe7, qe11]) Tryz.func18 ?_
             refine ((gcompare_s (S3.ri 1 rfl) (S3.ri 0 rfl) (by omega) HS1.out)).mono ?_; rintro e w4 ⟨rfl, hk4⟩; exact ⟨_, rfl, hk4, rfl⟩
            | 13, _ =>
             have qe2 : (vs 2) = .bool true := hdk hd 2; have qe12 : (vs 12) = .int .i64 s1 := hdk hd 12
             refine svg [(2, some 86), (12, some 96)] (ve (.bool false)) rfl (ws 86 qe2) fun K hK => ?_; clear hd; simp only [frD, qe2, qe12] at hK ⊢; go_simp
             exact hK _ _ bl rfl
            | 14, _ =>
             have qe2 : (vs 2) = .bool true := hdk hd 2; have qe13 : (vs 13) = .bool false := hdk hd 13
             refine sv0 [(2, some 86), (13, some 97)] (ve (.bool false)) rfl fun K hK => ?_; clear hd; simp only [frD, qe2, qe13] at hK ⊢; go_simp
             exact hK _ _ bl rfl
            | i + 15, hi => exact absurd hi (by omega)
           ·intro vs W41 hk3 hΦ _
            simp only [List.drop_succ_cons, List.drop_zero]
            rw [fr_frD, show (List.range 15).map _ = [(0, some 84), (1, some 85), (2, some 86), (3, some 87), (4, some 88), (5, some 89), (6, some 90), (7, some 91), (8, some 92), (9, some 93), (10, some 94), (11, some 95), (12, some 96), (13, some 97), (14, some 98)] by kernel_rfl]
            have pi0 : (vs 0) = .int .i64 (k : Int) := hΦ 0 (by decide)
            have pi1 : (vs 1) = .bool true := hΦ 1 (by decide)
            have pi2 : (vs 2) = .bool true := hΦ 2 (by decide)
            have pi3 : (vs 3) = .slice (some ⟨Be, oe, none⟩) ne ce := hΦ 3 (by decide)
            have pi4 : (vs 4) = .int .i64 (k : Int) := hΦ 4 (by decide)
            have pi5 : (vs 5) = .int .i64 ((m : Nat) : Int) := hΦ 5 (by decide)
            have pi6 : (vs 6) = .pointer (some ⟨Be, oe + m * 4, none⟩) := hΦ 6 (by decide)
            have pi7 : (vs 7) = .agg #[.bool bx, .slice Ax nx cx, .bool dx, .slice Bx mx ex] := hΦ 7 (by decide)
            have pi8 : (vs 8) = .slice (some ⟨Be, oe, none⟩) ne ce := hΦ 8 (by decide)
            have pi9 : (vs 9) = .int .i64 (k : Int) := hΦ 9 (by decide)
            have pi10 : (vs 10) = .pointer (some ⟨Be, oe + k * 4, none⟩) := hΦ 10 (by decide)
            have pi11 : (vs 11) = .agg #[.bool by', .slice Ay ny cy, .bool dy, .slice Bz my ey] := hΦ 11 (by decide)
            have pi12 : (vs 12) = .int .i64 s1 := hΦ 12 (by decide)
            have pi13 : (vs 13) = .bool false := hΦ 13 (by decide)
            have pi14 : (vs 14) = .bool false := hΦ 14 (by decide)
            clear hΦ
            simp only [frD, pi0, pi1, pi2, pi3, pi4, pi5, pi6, pi7, pi8, pi9, pi10, pi11, pi12, pi13, pi14]
            simp only [Act.put, List.setIfInBounds_toArray, List.set_cons_zero, List.set_cons_succ]
            clear pi0 pi1 pi2 pi3 pi4 pi5 pi6 pi7 pi8 pi9 pi10 pi11 pi12 pi13 pi14
            replace S := S.drew.below hk3
            replace hkw := hkw.trans' (Keeps.trans' (w1 := wr.drew) (Below.drew (Below.refl _ wr)) hk3)
            clear hk3
            go_wp2
            have HB5 : Hid (z = if (List.range (k + 1 - 1)).all (ordK es) then 0 else 5) := Lib.hid (by
             have h1 := of_decide_eq_false t2
             rw [← HS1.out] at h1
             rw [HNX.out, decide_eq_true ((cmpR_lt _ _).1 (by omega)), Bool.and_true]
             exact HZ.out)
            go_roundw
            case rel => exact ⟨k + 1, z, by omega, by go_num, rfl, HB5, hkw, S.onlyL⟩
            case measure => simp [intOf]; omega
        ·have hkI : ¬ (k : Int) < (ne : Int) := by omega
         have tk : decide ((k : Int) < (ne : Int)) = false := decide_eq_false hkI
         obtain rfl : k = ne := by omega
         have hzz : z = if ordB es then 0 else 5 := by rw [HZ.out]; unfold ordB; rw [HLE.out]
         obtain ⟨ob, hob⟩ : ∃ b, ordB es = b := ⟨_, rfl⟩
         rw [hob] at hzz HZ1
         clear hob HZ
         cases ob with
         | false =>
          obtain rfl : z = 5 := hzz
          have HZ5 : Hid (zC = 5) := Lib.hid HZ1.out
          clear HZ1
          go_wp2
          go_meet
          case rel => exact ⟨by rw [HZ5.out], hkw, S⟩
         | true =>
          obtain rfl : z = 0 := hzz
          by_cases h64 : 64 < k
          ·have q2 : decide ((64 : Int) < (k : Int)) = true := decide_eq_true (by omega)
           have HZ5 : Hid (zC = 3) := Lib.hid (by rw [HZ1.out, if_pos rfl, if_pos h64])
           clear HZ1
           go_wp2
           go_meet
           case rel => exact ⟨by rw [HZ5.out], hkw, S⟩
          ·have q2 : decide ((64 : Int) < (k : Int)) = false := decide_eq_false (by omega)
           have HZ5 : Hid (zC = 0) := Lib.hid (by rw [HZ1.out, if_pos rfl, if_neg h64])
           clear HZ1
           go_wp2
           go_meet
           case rel => exact ⟨by rw [HZ5.out], hkw, S⟩
     case rest =>
      clear S hkw
      obtain ⟨rfl, hkw, S⟩ := hcut
      apply_assumption
      go_upto_region 20 with fail
      go_cut [118] (fun g wx => g = .bool false ∧ Keeps W7 wx ∧ St w wx [(w.heap.size + 1, 31, [.bool n1, .slice A7 xs.length c7, .bool n2, .slice B7 ys.length d7]), (w.heap.size, 49, smL s o0 o1 o2 o3 p0 p1 p2 p3 AA BB cc dd)] [])
      case first => as_aux_lemma =>
       by_cases z0 : zC = 0
       ·subst z0
        go_wp2
        go_meet
        case rel => exact ⟨rfl, hkw, S⟩
       ·obtain rfl := HH0.out z0
        have q1 : (zC == 0) = false := by simp [z0]
        have q2 : (zC != 0) = true := by simp [z0]
        have q3 : (zC != zC) = false := by simp
        clear z0
        go_wp2
        go_meet
        case rel => exact ⟨rfl, hkw, S⟩
      case rest =>
       clear S hkw
       obtain ⟨rfl, hkw, S⟩ := hcut
       obtain ⟨b0, hb0⟩ : ∃ b, (zC == 0) = b := ⟨_, rfl⟩
       go_upto_if 120 with fail
       go_cut [] (fun wx => Keeps W7 wx ∧ St w wx [(w.heap.size + 1, 31, [.bool n1, .slice A7 xs.length c7, .bool n2, .slice B7 ys.length d7]), (w.heap.size, 49, smL s o0 o1 o2 o3 p0 p1 p2 p3 AA BB cc dd)] [])
       case first => as_aux_lemma =>
        cases b0 with
        | false =>
         go_wp2
         go_meet
         case rel => exact ⟨hkw, S⟩
        | true =>
         obtain rfl : zC = 0 := by simpa using hb0
         obtain ⟨hh1, hh2⟩ := HHS.out rfl
         have hh3 : nh = ne + 1 := by rw [hh1, hisL_len, HLE.out]
         subst hh3
         have HHI : Hid (IRow W7 Ah (cntL s es (ctlN s).length)) := Lib.hid (by rw [← his_cnt es HFB.out]; exact hh2)
         have hlen : (ctlK s s.rd.length).length = (ctlN s).length := by rw [ctlK_N, List.length_map]
         have hl12 : (ctlN s).length ≤ 12 := Nat.le_trans (ctlN_len s) HSZ.out.2.1
         have HKC : Hid (ctlK s s.rd.length = (ctlN s).map fun (i : Nat) => (i : Int)) := Lib.hid (ctlK_N s)
         have HLT : Hid (∀ i ∈ ctlN s, i < s.sx.length) := Lib.hid fun i hi => by rw [form_len HFB.out]; exact ctlN_lt hi
         have HC0 : Hid (cntL s es 0 = List.replicate (ne + 1) 0) := Lib.hid (by rw [← HLE.out]; rfl)
         clear hh1 hh2 hb0
         have hmk := make_ints (ne + 1) (by omega)
         have hc1 : ((ne + 1 : Nat) : Int) = (ne : Int) + 1 := by omega
         rw [hc1] at hmk
         go_upto_region 24 with fail
         have hgl : W7.heap.size ≤ wc.heap.size := hkw.size
         replace S := S.alloc 3 (i64s (List.replicate (ne + 1) 0))
         replace hkw := hkw.trans' (box2 wc (.cells (i64s (List.replicate (ne + 1) 0)).toArray 3))
         obtain ⟨W9, eW, S⟩ := S.pack
         rw [eW] at hkw ⊢
         clear eW hmk hc1
         generalize wc.heap.size = gh at *
         go_wp2_with (refine wpList_load_mid rfl 49 _ rfl _ 0 rfl _ _ (own_range (S.o 2 rfl)) Tryz.underlying49 rfl (by kernel_rfl) ?_)
         rw [HVS.out]
         refine (ctl_any (HSA.out.below S.k) HSZ.out.2.1).mono ?_
         rintro e W10 ⟨A9, c9, rfl, hO9, hk10⟩
         have hg9 := (S.o 0 rfl).lt
         replace S := S.below hk10
         replace hkw := hkw.trans' hk10
         simp only at hg9
         rw [hlen] at hO9 ⊢
         rw [HKC.out] at hO9
         have HO9 := Lib.hid hO9
         have HK7 := Lib.hid hkw
         have HGT : Hid (∀ k ∈ blkOf (.slice A9 (ctlN s).length c9), k ∉ [gh]) := Lib.hid fun k hk => by
          have := (hO9.lo k hk).1
          rw [List.mem_singleton]
          omega
         have HKU : Hid (∀ u, Turn [gh] W10 u → Keeps W7 u) := Lib.hid fun u ht => HK7.out.trans (ht.below (fun k hk => by rw [List.mem_singleton.1 hk]; exact hgl) HK7.out.size)
         have hgw : W7.heap.size ≤ gh := hgl
         clear hk10 hO9 hkw hlen hgl hg9
         have HCL : Hid (cntL s es (ctlN s).length = cntL s es (ctlN s).length) := Lib.hid rfl
         obtain ⟨L9, hL9⟩ : ∃ l, ctlN s = l := ⟨_, rfl⟩
         have HL9 := Lib.hid hL9
         rw [hL9] at hl12 HKC HLT HO9 HGT HHI ⊢
         clear hL9 HCL
         have hl12I : (L9.length : Int) ≤ 12 := by omega
         have hkw : Turn [gh] W10 W10 := Turn.refl _
         rw [← HC0.out] at S
         go_wp2
         go_loopw [128] (fun i wr => ∃ k : Nat, k ≤ L9.length ∧ i = .int .i64 (k : Nat) ∧ Turn [gh] W10 wr ∧ St w wr ((gh, 3, i64s (cntL s es k)) :: [(w.heap.size + 1, 31, [.bool n1, .slice A7 xs.length c7, .bool n2, .slice B7 ys.length d7]), (w.heap.size, 49, smL s o0 o1 o2 o3 p0 p1 p2 p3 AA BB cc dd)]) []) (fun i _ => L9.length - (intOf i).toNat)
         case atStart => exact ⟨0, Nat.zero_le _, rfl, hkw, S⟩
         case round =>
          clear S hkw
          obtain ⟨k, hk, rfl, hkw, S⟩ := hrel
          by_cases hlt : k < L9.length
          ·have hkI : (k : Int) < (L9.length : Int) := by omega
           have tk : decide ((k : Int) < (L9.length : Int)) = true := decide_eq_true hkI
           obtain ⟨ii, hii⟩ : ∃ i, L9[k]? = some i := ⟨_, List.getElem?_eq_getElem hlt⟩
           have his := HLT.out ii (List.mem_of_getElem? hii)
           obtain ⟨b9, o9, rfl, x9⟩ := (IRow.of_own (HO9.out.turn hkw HGT.out) (by rw [List.length_map])).at (j := k) (by rw [List.length_map]; exact hlt)
           have e9 : (L9.map fun (i : Nat) => (i : Int)).getD k 0 = (ii : Int) := by simp [List.getD, hii]
           rw [e9] at x9
           obtain ⟨⟨qt, vbt⟩, hqt⟩ : ∃ x, s.sx[ii]? = some x := ⟨_, List.getElem?_eq_getElem his⟩
           have hst : cntL s es (k + 1) = (cntL s es k).set (binK es qt) ((cntL s es k).getD (binK es qt) 0 + 1) := by
            rw [cntL_next s es (by rw [HL9.out]; exact hii), bumpS]
            simp only [sxq, Int.toNat_natCast, List.getD, hqt, Option.getD_some]
           have HST := Lib.hid hst
           obtain ⟨H3, H4⟩ := sm_rows (by rw [HVS.out]; exact HSA.out)
           obtain ⟨Bs, os, u0, u1, u2, u3, rfl, hc1, hx1⟩ := H4.get lasts_v hqt
           obtain ⟨bt, At, nt, ct, dt, Bt, mt, et, rfl, rfl, rfl, rfl⟩ := (hx1 w bl).open4
           have HX1 : Hid (∀ W, Keeps w W → RatNum W (.agg #[.bool bt, .slice At nt ct, .bool dt, .slice Bt mt et]) qt) := Lib.hid fun W hk => (hx1 W hk).num'
           have HC1 := Lib.hid hc1
           have his6 : (ii : Int) < (s.sx.length : Int) := by omega
           have hsx6 : (s.sx.length : Int) ≤ 12 := by have := HSZ.out.2.2; omega
           have szt := HSZ.out.1.2.2.2 _ (List.mem_of_getElem? hqt)
           simp only at szt
           clear hst hqt hx1 hc1 e9 hii H3 H4 his
           go_wp2
           clear x9
           have hbd := cntL_bd s es k
           have hln := cntL_len s es k
           rw [HLE.out] at hln
           obtain ⟨hs, hhs⟩ : ∃ h, cntL s es k = h := ⟨_, rfl⟩
           rw [hhs] at hbd hln S HST
           clear hhs
           go_loopw [16] (fun a wr => ∃ j : Nat, j ≤ ne ∧ a = .int .i64 (j : Nat) ∧ Hid ((es.take j).all (fun e => decide (e.1 ≤ qt)) = true) ∧ Turn [gh] W10 wr ∧ St w wr ((gh, 3, i64s hs) :: [(w.heap.size + 1, 31, [.bool n1, .slice A7 xs.length c7, .bool n2, .slice B7 ys.length d7]), (w.heap.size, 49, smL s o0 o1 o2 o3 p0 p1 p2 p3 AA (some ⟨Bs, os, none⟩) cc dd)]) []) (fun a _ => ne - (intOf a).toNat)
           case atStart => exact ⟨0, Nat.zero_le _, rfl, Lib.hid rfl, hkw, S⟩
           case round =>
            clear S hkw
            obtain ⟨j, hj, rfl, HJ, hkw, S⟩ := hrel
            by_cases hjl : j < ne
            ·obtain ⟨⟨q2, vb2⟩, hq2⟩ : ∃ x, es[j]? = some x := ⟨_, List.getElem?_eq_getElem (by rw [HLE.out]; exact hjl)⟩
             obtain ⟨Be, oe, z0, z1, z2, z3, rfl, hc2, hx2⟩ := HEV.out.get lasts_v hq2
             obtain ⟨by', Ay, ny, cy, dy, Bz, my, ey, rfl, rfl, rfl, rfl⟩ := (hx2 w bl).open4
             have HC2 := Lib.hid hc2
             have hX2 := (hx2 wr S.k).num'
             have s2' := HZE.out _ (List.mem_of_getElem? hq2)
             simp only at s2' hX2
             have HGO : Hid (q2 ≤ qt → (es.take (j + 1)).all (fun e => decide (e.1 ≤ qt)) = true) := Lib.hid fun h => all_snoc hq2 HJ.out (by simpa using h)
             have HBK : Hid (¬ q2 ≤ qt → binK es qt = j) := Lib.hid fun h => takeW_len (by rw [HLE.out]; exact hj) HJ.out fun x hx => by
              rw [hq2] at hx
              obtain rfl := Option.some.inj hx
              simpa using h
             replace S := (S.addR (HX1.out _ S.k)).addR hX2
             have hjI : (j : Int) < (ne : Int) := by omega
             have tj : decide ((j : Int) < (ne : Int)) = true := decide_eq_true hjI
             clear hc2 hx2 hX2 hq2 HJ
             obtain ⟨s1, hs1⟩ : ∃ s, cmpR q2 qt = s := ⟨_, rfl⟩
             have HS1 := Lib.hid hs1
             clear hs1
             go_upto_region 28 with fail
             rcases Bool.eq_false_or_eq_true (decide (s1 ≤ 0)) with t1 | t1
             ·skip
              refine wp_region_steps (m := 16) rfl (by kernel_rfl) (fun iF vF wF => (List.getD [ve (.int .i64 (j : Int)), ve (.slice (some ⟨Be, oe, none⟩) ne ce), ve (.int .i64 (ne : Int)), ve (.bool true), ve (.bool true), ve (.slice (some ⟨Be, oe, none⟩) ne ce), ve (.int .i64 (j : Int)), ve (.pointer (some ⟨Be, oe + j * 4, none⟩)), ve (.agg #[.bool by', .slice Ay ny cy, .bool dy, .slice Bz my ey]), ve (.pointer (some ⟨w.heap.size, 15, none⟩)), ve (.slice (some ⟨Bs, os, none⟩) s.sx.length dd), ve (.int .i64 (ii : Int)), ve (.pointer (some ⟨Bs, os + ii * 4, none⟩)), ve (.agg #[.bool bt, .slice At nt ct, .bool dt, .slice Bt mt et]), ve (.int .i64 s1), ve (.bool true)] iF (fun _ _ => True)) vF wF) [] ?_ ?_ ?_
              ·intro i v w w' _ h hk
               refine stabL_get ?_ i v w w' h hk
               exact stab_cons st_e (stab_cons st_e (stab_cons st_e (stab_cons st_e (stab_cons st_e (stab_cons st_e (stab_cons st_e (stab_cons st_e (stab_cons st_e (stab_cons st_e (stab_cons st_e (stab_cons st_e (stab_cons st_e (stab_cons st_e (stab_cons st_e (stab_cons st_e stab_nil)))))))))))))))
              ·intro i hi vs w3 hk3 hd
               have S3 := S.drew.below hk3
               have x15 := S3.c 2 15 rfl rfl
               obtain ⟨y0, y1, y2, y3⟩ := HC2.out _ S3.k
               obtain ⟨g0, g1, g2, g3⟩ := HC1.out _ S3.k
               match i, hi with
               | 0, _ =>
                refine sv0 [] (ve (.int .i64 (j : Int))) rfl fun K hK => ?_; clear hd; simp only [frD] at hK ⊢; go_simp
                exact hK _ _ bl rfl
               | 1, _ =>
                refine sv0 [] (ve (.slice (some ⟨Be, oe, none⟩) ne ce)) rfl fun K hK => ?_; clear hd; simp only [frD] at hK ⊢; go_simp
                exact hK _ _ bl rfl
               | 2, _ =>
                have qe1 : (vs 1) = .slice (some ⟨Be, oe, none⟩) ne ce := hdk hd 1
                refine sv0 [(1, some 133)] (ve (.int .i64 (ne : Int))) rfl fun K hK => ?_; clear hd; simp only [frD, qe1] at hK ⊢; go_simp
                exact hK _ _ bl rfl
               | 3, _ =>
                have qe0 : (vs 0) = .int .i64 (j : Int) := hdk hd 0; have qe2 : (vs 2) = .int .i64 (ne : Int) := hdk hd 2
                refine sv0 [(0, some 132), (2, some 134)] (ve (.bool true)) rfl fun K hK => ?_; clear hd; simp only [frD, qe0, qe2] at hK ⊢; go_simp
                exact hK _ _ bl rfl
               | 4, _ =>
                have qe3 : (vs 3) = .bool true := hdk hd 3
                refine sv0 [(3, some 135)] (ve (.bool true)) rfl fun K hK => ?_; clear hd; simp only [frD, qe3] at hK ⊢; go_simp
                exact hK _ _ bl rfl
               | 5, _ =>
                have qe4 : (vs 4) = .bool true := hdk hd 4
                refine svg [(4, some 136)] (ve (.slice (some ⟨Be, oe, none⟩) ne ce)) rfl (ws 136 qe4) fun K hK => ?_; clear hd; simp only [frD, qe4] at hK ⊢; go_simp
                exact hK _ _ bl rfl
               | 6, _ =>
                have qe4 : (vs 4) = .bool true := hdk hd 4
                refine svg [(4, some 136)] (ve (.int .i64 (j : Int))) rfl (ws 136 qe4) fun K hK => ?_; clear hd; simp only [frD, qe4] at hK ⊢; go_simp
                exact hK _ _ bl rfl
               | 7, _ =>
                have qe4 : (vs 4) = .bool true := hdk hd 4; have qe5 : (vs 5) = .slice (some ⟨Be, oe, none⟩) ne ce := hdk hd 5; have qe6 : (vs 6) = .int .i64 (j : Int) := hdk hd 6
                refine svg [(4, some 136), (5, some 137), (6, some 138)] (ve (.pointer (some ⟨Be, oe + j * 4, none⟩))) rfl (ws 136 qe4) fun K hK => ?_; clear hd; simp only [frD, qe4, qe5, qe6] at hK ⊢; go_simp
                exact hK _ _ bl rfl
               | 8, _ =>
                have qe4 : (vs 4) = .bool true := hdk hd 4; have qe7 : (vs 7) = .pointer (some ⟨Be, oe + j * 4, none⟩) := hdk hd 7
                refine svg [(4, some 136), (7, some 139)] (ve (.agg #[.bool by', .slice Ay ny cy, .bool dy, .slice Bz my ey])) rfl (ws 136 qe4) fun K hK => ?_; clear hd; simp only [frD, qe4, qe7] at hK ⊢; go_simp
                exact hK _ _ bl rfl
               | 9, _ =>
                have qe4 : (vs 4) = .bool true := hdk hd 4
                refine svg [(4, some 136)] (ve (.pointer (some ⟨w.heap.size, 15, none⟩))) rfl (ws 136 qe4) fun K hK => ?_; clear hd; simp only [frD, qe4] at hK ⊢; go_simp
                exact hK _ _ bl rfl
               | 10, _ =>
                have qe4 : (vs 4) = .bool true := hdk hd 4; have qe9 : (vs 9) = .pointer (some ⟨w.heap.size, 15, none⟩) := hdk hd 9
                refine svg [(4, some 136), (9, some 141)] (ve (.slice (some ⟨Bs, os, none⟩) s.sx.length dd)) rfl (ws 136 qe4) fun K hK => ?_; clear hd; simp only [frD, qe4, qe9] at hK ⊢; go_simp
                exact hK _ _ bl rfl
               | 11, _ =>
                have qe4 : (vs 4) = .bool true := hdk hd 4
                refine svg [(4, some 136)] (ve (.int .i64 (ii : Int))) rfl (ws 136 qe4) fun K hK => ?_; clear hd; simp only [frD, qe4] at hK ⊢; go_simp
                exact hK _ _ bl rfl
               | 12, _ =>
                have qe4 : (vs 4) = .bool true := hdk hd 4; have qe10 : (vs 10) = .slice (some ⟨Bs, os, none⟩) s.sx.length dd := hdk hd 10; have qe11 : (vs 11) = .int .i64 (ii : Int) := hdk hd 11
                refine svg [(4, some 136), (10, some 142), (11, some 143)] (ve (.pointer (some ⟨Bs, os + ii * 4, none⟩))) rfl (ws 136 qe4) fun K hK => ?_; clear hd; simp only [frD, qe4, qe10, qe11] at hK ⊢; go_simp
                exact hK _ _ bl rfl
               | 13, _ =>
                have qe4 : (vs 4) = .bool true := hdk hd 4; have qe12 : (vs 12) = .pointer (some ⟨Bs, os + ii * 4, none⟩) := hdk hd 12
                refine svg [(4, some 136), (12, some 144)] (ve (.agg #[.bool bt, .slice At nt ct, .bool dt, .slice Bt mt et])) rfl (ws 136 qe4) fun K hK => ?_; clear hd; simp only [frD, qe4, qe12] at hK ⊢; go_simp
                exact hK _ _ bl rfl
               | 14, _ =>
                have qe4 : (vs 4) = .bool true := hdk hd 4; have qe8 : (vs 8) = .agg #[.bool by', .slice Ay ny cy, .bool dy, .slice Bz my ey] := hdk hd 8; have qe13 : (vs 13) = .agg #[.bool bt, .slice At nt ct, .bool dt, .slice Bt mt et] := hdk hd 13
                refine sc (A := #[(vs 8), (vs 13)]) (B := #[.agg #[.bool by', .slice Ay ny cy, .bool dy, .slice Bz my ey], .agg #[.bool bt, .slice At nt ct, .bool dt, .slice Bt mt et]]) [(4, some 136), (8, some 140), (13, some 145)] (ve (.int .i64 s1)) rfl (ws 136 qe4) (by rw [qe8, qe13]) Tryz.func18 ?_
                refine ((gcompare_s (S3.ri 0 rfl) (S3.ri 1 rfl) (by omega) HS1.out)).mono ?_; rintro e w4 ⟨rfl, hk4⟩; exact ⟨_, rfl, hk4, rfl⟩
               | 15, _ =>
                have qe4 : (vs 4) = .bool true := hdk hd 4; have qe14 : (vs 14) = .int .i64 s1 := hdk hd 14
                refine svg [(4, some 136), (14, some 146)] (ve (.bool true)) rfl (ws 136 qe4) fun K hK => ?_; clear hd; simp only [frD, qe4, qe14] at hK ⊢; go_simp
                exact hK _ _ bl rfl
               | i + 16, hi => exact absurd hi (by omega)
              ·intro vs W61 hk3 hΦ _
               simp only [List.drop_succ_cons, List.drop_zero]
               rw [fr_frD, show (List.range 16).map _ = [(0, some 132), (1, some 133), (2, some 134), (3, some 135), (4, some 136), (5, some 137), (6, some 138), (7, some 139), (8, some 140), (9, some 141), (10, some 142), (11, some 143), (12, some 144), (13, some 145), (14, some 146), (15, some 147)] by kernel_rfl]
               have pu0 : (vs 0) = .int .i64 (j : Int) := hΦ 0 (by decide)
               have pu1 : (vs 1) = .slice (some ⟨Be, oe, none⟩) ne ce := hΦ 1 (by decide)
               have pu2 : (vs 2) = .int .i64 (ne : Int) := hΦ 2 (by decide)
               have pu3 : (vs 3) = .bool true := hΦ 3 (by decide)
               have pu4 : (vs 4) = .bool true := hΦ 4 (by decide)
               have pu5 : (vs 5) = .slice (some ⟨Be, oe, none⟩) ne ce := hΦ 5 (by decide)
               have pu6 : (vs 6) = .int .i64 (j : Int) := hΦ 6 (by decide)
               have pu7 : (vs 7) = .pointer (some ⟨Be, oe + j * 4, none⟩) := hΦ 7 (by decide)
               have pu8 : (vs 8) = .agg #[.bool by', .slice Ay ny cy, .bool dy, .slice Bz my ey] := hΦ 8 (by decide)
               have pu9 : (vs 9) = .pointer (some ⟨w.heap.size, 15, none⟩) := hΦ 9 (by decide)
               have pu10 : (vs 10) = .slice (some ⟨Bs, os, none⟩) s.sx.length dd := hΦ 10 (by decide)
               have pu11 : (vs 11) = .int .i64 (ii : Int) := hΦ 11 (by decide)
               have pu12 : (vs 12) = .pointer (some ⟨Bs, os + ii * 4, none⟩) := hΦ 12 (by decide)
               have pu13 : (vs 13) = .agg #[.bool bt, .slice At nt ct, .bool dt, .slice Bt mt et] := hΦ 13 (by decide)
               have pu14 : (vs 14) = .int .i64 s1 := hΦ 14 (by decide)
               have pu15 : (vs 15) = .bool true := hΦ 15 (by decide)
               clear hΦ
               simp only [frD, pu0, pu1, pu2, pu3, pu4, pu5, pu6, pu7, pu8, pu9, pu10, pu11, pu12, pu13, pu14, pu15]
               simp only [Act.put, List.setIfInBounds_toArray, List.set_cons_zero, List.set_cons_succ]
               clear pu0 pu1 pu2 pu3 pu4 pu5 pu6 pu7 pu8 pu9 pu10 pu11 pu12 pu13 pu14 pu15
               replace S := S.drew.below hk3
               replace hkw := hkw.trans' (Keeps.trans' (w1 := wr.drew) (Below.drew (Below.refl _ wr)) hk3)
               clear hk3
               go_wp2
               have HN1 := Lib.hid (HGO.out (by have h1 := of_decide_eq_true t1; rw [← HS1.out] at h1; exact Rat.not_lt.1 fun h => absurd ((cmpR_pos q2 qt).2 h) (by omega)))
               go_roundw
               case rel => exact ⟨j + 1, by omega, by go_num, HN1, hkw, S.onlyL⟩
               case measure => simp [intOf]; omega
             ·skip
              refine wp_region_steps (m := 16) rfl (by kernel_rfl) (fun iF vF wF => (List.getD [ve (.int .i64 (j : Int)), ve (.slice (some ⟨Be, oe, none⟩) ne ce), ve (.int .i64 (ne : Int)), ve (.bool true), ve (.bool true), ve (.slice (some ⟨Be, oe, none⟩) ne ce), ve (.int .i64 (j : Int)), ve (.pointer (some ⟨Be, oe + j * 4, none⟩)), ve (.agg #[.bool by', .slice Ay ny cy, .bool dy, .slice Bz my ey]), ve (.pointer (some ⟨w.heap.size, 15, none⟩)), ve (.slice (some ⟨Bs, os, none⟩) s.sx.length dd), ve (.int .i64 (ii : Int)), ve (.pointer (some ⟨Bs, os + ii * 4, none⟩)), ve (.agg #[.bool bt, .slice At nt ct, .bool dt, .slice Bt mt et]), ve (.int .i64 s1), ve (.bool false)] iF (fun _ _ => True)) vF wF) [] ?_ ?_ ?_
              ·intro i v w w' _ h hk
               refine stabL_get ?_ i v w w' h hk
               exact stab_cons st_e (stab_cons st_e (stab_cons st_e (stab_cons st_e (stab_cons st_e (stab_cons st_e (stab_cons st_e (stab_cons st_e (stab_cons st_e (stab_cons st_e (stab_cons st_e (stab_cons st_e (stab_cons st_e (stab_cons st_e (stab_cons st_e (stab_cons st_e stab_nil)))))))))))))))
              ·intro i hi vs w3 hk3 hd
               have S3 := S.drew.below hk3
               have x15 := S3.c 2 15 rfl rfl
               obtain ⟨y0, y1, y2, y3⟩ := HC2.out _ S3.k
               obtain ⟨g0, g1, g2, g3⟩ := HC1.out _ S3.k
               match i, hi with
               | 0, _ =>
                refine sv0 [] (ve (.int .i64 (j : Int))) rfl fun K hK => ?_; clear hd; simp only [frD] at hK ⊢; go_simp
                exact hK _ _ bl rfl
               | 1, _ =>
                refine sv0 [] (ve (.slice (some ⟨Be, oe, none⟩) ne ce)) rfl fun K hK => ?_; clear hd; simp only [frD] at hK ⊢; go_simp
                exact hK _ _ bl rfl
               | 2, _ =>
                have qe1 : (vs 1) = .slice (some ⟨Be, oe, none⟩) ne ce := hdk hd 1
                refine sv0 [(1, some 133)] (ve (.int .i64 (ne : Int))) rfl fun K hK => ?_; clear hd; simp only [frD, qe1] at hK ⊢; go_simp
                exact hK _ _ bl rfl
               | 3, _ =>
                have qe0 : (vs 0) = .int .i64 (j : Int) := hdk hd 0; have qe2 : (vs 2) = .int .i64 (ne : Int) := hdk hd 2
                refine sv0 [(0, some 132), (2, some 134)] (ve (.bool true)) rfl fun K hK => ?_; clear hd; simp only [frD, qe0, qe2] at hK ⊢; go_simp
                exact hK _ _ bl rfl
               | 4, _ =>
                have qe3 : (vs 3) = .bool true := hdk hd 3
                refine sv0 [(3, some 135)] (ve (.bool true)) rfl fun K hK => ?_; clear hd; simp only [frD, qe3] at hK ⊢; go_simp
                exact hK _ _ bl rfl
               | 5, _ =>
                have qe4 : (vs 4) = .bool true := hdk hd 4
                refine svg [(4, some 136)] (ve (.slice (some ⟨Be, oe, none⟩) ne ce)) rfl (ws 136 qe4) fun K hK => ?_; clear hd; simp only [frD, qe4] at hK ⊢; go_simp
                exact hK _ _ bl rfl
               | 6, _ =>
                have qe4 : (vs 4) = .bool true := hdk hd 4
                refine svg [(4, some 136)] (ve (.int .i64 (j : Int))) rfl (ws 136 qe4) fun K hK => ?_; clear hd; simp only [frD, qe4] at hK ⊢; go_simp
                exact hK _ _ bl rfl
               | 7, _ =>
                have qe4 : (vs 4) = .bool true := hdk hd 4; have qe5 : (vs 5) = .slice (some ⟨Be, oe, none⟩) ne ce := hdk hd 5; have qe6 : (vs 6) = .int .i64 (j : Int) := hdk hd 6
                refine svg [(4, some 136), (5, some 137), (6, some 138)] (ve (.pointer (some ⟨Be, oe + j * 4, none⟩))) rfl (ws 136 qe4) fun K hK => ?_; clear hd; simp only [frD, qe4, qe5, qe6] at hK ⊢; go_simp
                exact hK _ _ bl rfl
               | 8, _ =>
                have qe4 : (vs 4) = .bool true := hdk hd 4; have qe7 : (vs 7) = .pointer (some ⟨Be, oe + j * 4, none⟩) := hdk hd 7
                refine svg [(4, some 136), (7, some 139)] (ve (.agg #[.bool by', .slice Ay ny cy, .bool dy, .slice Bz my ey])) rfl (ws 136 qe4) fun K hK => ?_; clear hd; simp only [frD, qe4, qe7] at hK ⊢; go_simp
                exact hK _ _ bl rfl
               | 9, _ =>
                have qe4 : (vs 4) = .bool true := hdk hd 4
                refine svg [(4, some 136)] (ve (.pointer (some ⟨w.heap.size, 15, none⟩))) rfl (ws 136 qe4) fun K hK => ?_; clear hd; simp only [frD, qe4] at hK ⊢; go_simp
                exact hK _ _ bl rfl
               | 10, _ =>
                have qe4 : (vs 4) = .bool true := hdk hd 4; have qe9 : (vs 9) = .pointer (some ⟨w.heap.size, 15, none⟩) := hdk hd 9
                refine svg [(4, some 136), (9, some 141)] (ve (.slice (some ⟨Bs, os, none⟩) s.sx.length dd)) rfl (ws 136 qe4) fun K hK => ?_; clear hd; simp only [frD, qe4, qe9] at hK ⊢; go_simp
                exact hK _ _ bl rfl
               | 11, _ =>
                have qe4 : (vs 4) = .bool true := hdk hd 4
                refine svg [(4, some 136)] (ve (.int .i64 (ii : Int))) rfl (ws 136 qe4) fun K hK => ?_; clear hd; simp only [frD, qe4] at hK ⊢; go_simp
                exact hK _ _ bl rfl
               | 12, _ =>
                have qe4 : (vs 4) = .bool true := hdk hd 4; have qe10 : (vs 10) = .slice (some ⟨Bs, os, none⟩) s.sx.length dd := hdk hd 10; have qe11 : (vs 11) = .int .i64 (ii : Int) := hdk hd 11
                refine svg [(4, some 136), (10, some 142), (11, some 143)] (ve (.pointer (some ⟨Bs, os + ii * 4, none⟩))) rfl (ws 136 qe4) fun K hK => ?_; clear hd; simp only [frD, qe4, qe10, qe11] at hK ⊢; go_simp
                exact hK _ _ bl rfl
               | 13, _ =>
                have qe4 : (vs 4) = .bool true := hdk hd 4; have qe12 : (vs 12) = .pointer (some ⟨Bs, os + ii * 4, none⟩) := hdk hd 12
                refine svg [(4, some 136), (12, some 144)] (ve (.agg #[.bool bt, .slice At nt ct, .bool dt, .slice Bt mt et])) rfl (ws 136 qe4) fun K hK => ?_; clear hd; simp only [frD, qe4, qe12] at hK ⊢; go_simp
                exact hK _ _ bl rfl
               | 14, _ =>
                have qe4 : (vs 4) = .bool true := hdk hd 4; have qe8 : (vs 8) = .agg #[.bool by', .slice Ay ny cy, .bool dy, .slice Bz my ey] := hdk hd 8; have qe13 : (vs 13) = .agg #[.bool bt, .slice At nt ct, .bool dt, .slice Bt mt et] := hdk hd 13
                refine sc (A := #[(vs 8), (vs 13)]) (B := #[.agg #[.bool by', .slice Ay ny cy, .bool dy, .slice Bz my ey], .agg #[.bool bt, .slice At nt ct, .bool dt, .slice Bt mt et]]) [(4, some 136), (8, some 140), (13, some 145)] (ve (.int .i64 s1)) rfl (ws 136 qe4) (by rw [qe8, qe13]) Tryz.func18 ?_
                refine ((gcompare_s (S3.ri 0 rfl) (S3.ri 1 rfl) (by omega) HS1.out)).mono ?_; rintro e w4 ⟨rfl, hk4⟩; exact ⟨_, rfl, hk4, rfl⟩
               | 15, _ =>
                have qe4 : (vs 4) = .bool true := hdk hd 4; have qe14 : (vs 14) = .int .i64 s1 := hdk hd 14
                refine svg [(4, some 136), (14, some 146)] (ve (.bool false)) rfl (ws 136 qe4) fun K hK => ?_; clear hd; simp only [frD, qe4, qe14] at hK ⊢; go_simp
                exact hK _ _ bl rfl
               | i + 16, hi => exact absurd hi (by omega)
              ·intro vs W61 hk3 hΦ _
               simp only [List.drop_succ_cons, List.drop_zero]
               rw [fr_frD, show (List.range 16).map _ = [(0, some 132), (1, some 133), (2, some 134), (3, some 135), (4, some 136), (5, some 137), (6, some 138), (7, some 139), (8, some 140), (9, some 141), (10, some 142), (11, some 143), (12, some 144), (13, some 145), (14, some 146), (15, some 147)] by kernel_rfl]
               have pu0 : (vs 0) = .int .i64 (j : Int) := hΦ 0 (by decide)
               have pu1 : (vs 1) = .slice (some ⟨Be, oe, none⟩) ne ce := hΦ 1 (by decide)
               have pu2 : (vs 2) = .int .i64 (ne : Int) := hΦ 2 (by decide)
               have pu3 : (vs 3) = .bool true := hΦ 3 (by decide)
               have pu4 : (vs 4) = .bool true := hΦ 4 (by decide)
               have pu5 : (vs 5) = .slice (some ⟨Be, oe, none⟩) ne ce := hΦ 5 (by decide)
               have pu6 : (vs 6) = .int .i64 (j : Int) := hΦ 6 (by decide)
               have pu7 : (vs 7) = .pointer (some ⟨Be, oe + j * 4, none⟩) := hΦ 7 (by decide)
               have pu8 : (vs 8) = .agg #[.bool by', .slice Ay ny cy, .bool dy, .slice Bz my ey] := hΦ 8 (by decide)
               have pu9 : (vs 9) = .pointer (some ⟨w.heap.size, 15, none⟩) := hΦ 9 (by decide)
               have pu10 : (vs 10) = .slice (some ⟨Bs, os, none⟩) s.sx.length dd := hΦ 10 (by decide)
               have pu11 : (vs 11) = .int .i64 (ii : Int) := hΦ 11 (by decide)
               have pu12 : (vs 12) = .pointer (some ⟨Bs, os + ii * 4, none⟩) := hΦ 12 (by decide)
               have pu13 : (vs 13) = .agg #[.bool bt, .slice At nt ct, .bool dt, .slice Bt mt et] := hΦ 13 (by decide)
               have pu14 : (vs 14) = .int .i64 s1 := hΦ 14 (by decide)
               have pu15 : (vs 15) = .bool false := hΦ 15 (by decide)
               clear hΦ
               simp only [frD, pu0, pu1, pu2, pu3, pu4, pu5, pu6, pu7, pu8, pu9, pu10, pu11, pu12, pu13, pu14, pu15]
               simp only [Act.put, List.setIfInBounds_toArray, List.set_cons_zero, List.set_cons_succ]
               clear pu0 pu1 pu2 pu3 pu4 pu5 pu6 pu7 pu8 pu9 pu10 pu11 pu12 pu13 pu14 pu15
               replace S := S.drew.below hk3
               replace hkw := hkw.trans' (Keeps.trans' (w1 := wr.drew) (Below.drew (Below.refl _ wr)) hk3)
               clear hk3
               have HBK2 := Lib.hid (HBK.out (by have h1 := of_decide_eq_false t1; rw [← HS1.out] at h1; exact fun h => absurd ((cmpR_pos q2 qt).1 (by omega)) (Rat.not_lt.2 h)))
               have hjn : j < hs.length := by omega
               have hwk := S.c 0 j rfl (i64s_at2 hjn)
               have hfk := S.f 0 j rfl
               have hbj := hbd j
               have HS3 : Hid (cntL s es (k + 1) = hs.set j (hs.getD j 0 + 1)) := Lib.hid (by rw [HST.out, HBK2.out])
               generalize hs.getD j 0 = vj at *
               have S9 := S.onlyL.put0 0 j rfl (.int .i64 (vj + 1))
               have hkw9 := hkw.set (p := ⟨gh, j, none⟩) (by simp) (.int .i64 (vj + 1))
               have hjI3 : (j : Int) < (ne : Int) + 1 := by omega
               have hwv : IntKind.i64.wrap (vj + 1) = vj + 1 := IntWalk.i64_in _ (by omega)
               go_wp2
               go_roundw
               case rel => exact ⟨k + 1, by omega, by go_num, hkw9, by rw [HS3.out, ← i64s_set]; exact S9⟩
               case measure => simp [intOf]; omega
            ·have hjI : ¬ (j : Int) < (ne : Int) := by omega
             have tj : decide ((j : Int) < (ne : Int)) = false := decide_eq_false hjI
             have HBK2 : Hid (binK es qt = j) := Lib.hid (takeW_len (by rw [HLE.out]; exact hj) HJ.out fun x hx => by
              have := (List.getElem?_eq_some_iff.1 hx).1
              rw [HLE.out] at this
              omega)
             clear HJ
             go_upto_region 28 with fail
             refine wp_region_steps (m := 16) rfl (by kernel_rfl) (fun iF vF wF => (List.getD [ve (.int .i64 (j : Int)), ve (.slice Ae ne ce), ve (.int .i64 (ne : Int)), ve (.bool false), ve (.bool false), ve undef, ve undef, ve undef, ve undef, ve undef, ve undef, ve undef, ve undef, ve undef, ve undef, ve undef] iF (fun _ _ => True)) vF wF) [] ?_ ?_ ?_
             ·intro i v w w' _ h hk
              refine stabL_get ?_ i v w w' h hk
              exact stab_cons st_e (stab_cons st_e (stab_cons st_e (stab_cons st_e (stab_cons st_e (stab_cons st_e (stab_cons st_e (stab_cons st_e (stab_cons st_e (stab_cons st_e (stab_cons st_e (stab_cons st_e (stab_cons st_e (stab_cons st_e (stab_cons st_e (stab_cons st_e stab_nil)))))))))))))))
             ·intro i hi vs w3 hk3 hd
              have S3 := S.drew.below hk3
              match i, hi with
              | 0, _ =>
               refine sv0 [] (ve (.int .i64 (j : Int))) rfl fun K hK => ?_; clear hd; simp only [frD] at hK ⊢; go_simp
               exact hK _ _ bl rfl
              | 1, _ =>
               refine sv0 [] (ve (.slice Ae ne ce)) rfl fun K hK => ?_; clear hd; simp only [frD] at hK ⊢; go_simp
               exact hK _ _ bl rfl
              | 2, _ =>
               have qe1 : (vs 1) = .slice Ae ne ce := hdk hd 1
               refine sv0 [(1, some 133)] (ve (.int .i64 (ne : Int))) rfl fun K hK => ?_; clear hd; simp only [frD, qe1] at hK ⊢; go_simp
               exact hK _ _ bl rfl
              | 3, _ =>
               have qe0 : (vs 0) = .int .i64 (j : Int) := hdk hd 0; have qe2 : (vs 2) = .int .i64 (ne : Int) := hdk hd 2
               refine sv0 [(0, some 132), (2, some 134)] (ve (.bool false)) rfl fun K hK => ?_; clear hd; simp only [frD, qe0, qe2] at hK ⊢; go_simp
               exact hK _ _ bl rfl
              | 4, _ =>
               have qe3 : (vs 3) = .bool false := hdk hd 3
               refine sv0 [(3, some 135)] (ve (.bool false)) rfl fun K hK => ?_; clear hd; simp only [frD, qe3] at hK ⊢; go_simp
               exact hK _ _ bl rfl
              | 5, _ =>
               have qe4 : (vs 4) = .bool false := hdk hd 4
               exact step_no [(4, some 136)] rfl (by kernel_rfl) (by simp only [frD, qe4]; rfl) rfl (by simp)
              | 6, _ =>
               have qe4 : (vs 4) = .bool false := hdk hd 4
               exact step_no [(4, some 136)] rfl (by kernel_rfl) (by simp only [frD, qe4]; rfl) rfl (by simp)
              | 7, _ =>
               have qe4 : (vs 4) = .bool false := hdk hd 4; have qe5 : (vs 5) = undef := hdk hd 5; have qe6 : (vs 6) = undef := hdk hd 6
               exact step_no [(4, some 136), (5, some 137), (6, some 138)] rfl (by kernel_rfl) (by simp only [frD, qe4, qe5, qe6]; rfl) rfl (by simp)
              | 8, _ =>
               have qe4 : (vs 4) = .bool false := hdk hd 4; have qe7 : (vs 7) = undef := hdk hd 7
               exact step_no [(4, some 136), (7, some 139)] rfl (by kernel_rfl) (by simp only [frD, qe4, qe7]; rfl) rfl (by simp)
              | 9, _ =>
               have qe4 : (vs 4) = .bool false := hdk hd 4
               exact step_no [(4, some 136)] rfl (by kernel_rfl) (by simp only [frD, qe4]; rfl) rfl (by simp)
              | 10, _ =>
               have qe4 : (vs 4) = .bool false := hdk hd 4; have qe9 : (vs 9) = undef := hdk hd 9
               exact step_no [(4, some 136), (9, some 141)] rfl (by kernel_rfl) (by simp only [frD, qe4, qe9]; rfl) rfl (by simp)
              | 11, _ =>
               have qe4 : (vs 4) = .bool false := hdk hd 4
               exact step_no [(4, some 136)] rfl (by kernel_rfl) (by simp only [frD, qe4]; rfl) rfl (by simp)
              | 12, _ =>
               have qe4 : (vs 4) = .bool false := hdk hd 4; have qe10 : (vs 10) = undef := hdk hd 10; have qe11 : (vs 11) = undef := hdk hd 11
               exact step_no [(4, some 136), (10, some 142), (11, some 143)] rfl (by kernel_rfl) (by simp only [frD, qe4, qe10, qe11]; rfl) rfl (by simp)
              | 13, _ =>
               have qe4 : (vs 4) = .bool false := hdk hd 4; have qe12 : (vs 12) = undef := hdk hd 12
               exact step_no [(4, some 136), (12, some 144)] rfl (by kernel_rfl) (by simp only [frD, qe4, qe12]; rfl) rfl (by simp)
              | 14, _ =>
               have qe4 : (vs 4) = .bool false := hdk hd 4; have qe8 : (vs 8) = undef := hdk hd 8; have qe13 : (vs 13) = undef := hdk hd 13
               exact step_no [(4, some 136), (8, some 140), (13, some 145)] rfl (by kernel_rfl) (by simp only [frD, qe4, qe8, qe13]; rfl) rfl (by simp)
              | 15, _ =>
               have qe4 : (vs 4) = .bool false := hdk hd 4; have qe14 : (vs 14) = undef := hdk hd 14
               exact step_no [(4, some 136), (14, some 146)] rfl (by kernel_rfl) (by simp only [frD, qe4, qe14]; rfl) rfl (by simp)
              | i + 16, hi => exact absurd hi (by omega)
             ·intro vs W61 hk3 hΦ _
              simp only [List.drop_succ_cons, List.drop_zero]
              rw [fr_frD, show (List.range 16).map _ = [(0, some 132), (1, some 133), (2, some 134), (3, some 135), (4, some 136), (5, some 137), (6, some 138), (7, some 139), (8, some 140), (9, some 141), (10, some 142), (11, some 143), (12, some 144), (13, some 145), (14, some 146), (15, some 147)] by kernel_rfl]
              have pu0 : (vs 0) = .int .i64 (j : Int) := hΦ 0 (by decide)
              have pu1 : (vs 1) = .slice Ae ne ce := hΦ 1 (by decide)
              have pu2 : (vs 2) = .int .i64 (ne : Int) := hΦ 2 (by decide)
              have pu3 : (vs 3) = .bool false := hΦ 3 (by decide)
              have pu4 : (vs 4) = .bool false := hΦ 4 (by decide)
              have pu5 : (vs 5) = undef := hΦ 5 (by decide)
              have pu6 : (vs 6) = undef := hΦ 6 (by decide)
              have pu7 : (vs 7) = undef := hΦ 7 (by decide)
              have pu8 : (vs 8) = undef := hΦ 8 (by decide)
              have pu9 : (vs 9) = undef := hΦ 9 (by decide)
              have pu10 : (vs 10) = undef := hΦ 10 (by decide)
              have pu11 : (vs 11) = undef := hΦ 11 (by decide)
              have pu12 : (vs 12) = undef := hΦ 12 (by decide)
              have pu13 : (vs 13) = undef := hΦ 13 (by decide)
              have pu14 : (vs 14) = undef := hΦ 14 (by decide)
              have pu15 : (vs 15) = undef := hΦ 15 (by decide)
              clear hΦ
              simp only [frD, pu0, pu1, pu2, pu3, pu4, pu5, pu6, pu7, pu8, pu9, pu10, pu11, pu12, pu13, pu14, pu15]
              simp only [Act.put, List.setIfInBounds_toArray, List.set_cons_zero, List.set_cons_succ]
              clear pu0 pu1 pu2 pu3 pu4 pu5 pu6 pu7 pu8 pu9 pu10 pu11 pu12 pu13 pu14 pu15
              replace S := S.drew.below hk3
              replace hkw := hkw.trans' (Keeps.trans' (w1 := wr.drew) (Below.drew (Below.refl _ wr)) hk3)
              clear hk3
              have hjn : j < hs.length := by omega
              have hwk := S.c 0 j rfl (i64s_at2 hjn)
              have hfk := S.f 0 j rfl
              have hbj := hbd j
              have HS3 : Hid (cntL s es (k + 1) = hs.set j (hs.getD j 0 + 1)) := Lib.hid (by rw [HST.out, HBK2.out])
              generalize hs.getD j 0 = vj at *
              have S9 := S.onlyL.put0 0 j rfl (.int .i64 (vj + 1))
              have hkw9 := hkw.set (p := ⟨gh, j, none⟩) (by simp) (.int .i64 (vj + 1))
              have hjI3 : (j : Int) < (ne : Int) + 1 := by omega
              have hwv : IntKind.i64.wrap (vj + 1) = vj + 1 := IntWalk.i64_in _ (by omega)
              go_wp2
              go_roundw
              case rel => exact ⟨k + 1, by omega, by go_num, hkw9, by rw [HS3.out, ← i64s_set]; exact S9⟩
              case measure => simp [intOf]; omega
          ·have hkI : ¬ (k : Int) < (L9.length : Int) := by omega
           have tk : decide ((k : Int) < (L9.length : Int)) = false := decide_eq_false hkI
           obtain rfl : k = L9.length := by omega
           have HEQ := Lib.hid (fun c d => equalI_same (c := c) (d := d) (Row.below HHI.out (HKU.out _ hkw)) (own_irow (S.o 0 rfl)) (by rw [cntL_len, HLE.out] : ne + 1 = _) (by rw [cntL_len, HLE.out]; simp only [maxLen]; omega))
           have hk7 := HKU.out _ hkw
           clear hkw
           go_wp2_with fail
           refine (HEQ.out _ _).mono ?_
           rintro e W11 ⟨rfl, hk11⟩
           replace S := (S.below hk11).dropb
           replace hk7 := hk7.trans' hk11
           clear hk11
           go_wp2
           go_meet
           case rel => exact ⟨hk7, S⟩
       case rest =>
        clear S hkw hb0
        obtain ⟨hkw, S⟩ := hcut
        obtain ⟨qv, vc⟩ := qc
        obtain ⟨r0, r1, r2, r3⟩ := S.cc4 0 rfl
        go_wp2_with fail
        refine (gvalid_v (lasts_v _ _ _ _ S.k HCV.out)).mono ?_
        rintro e W8 ⟨rfl, hk8⟩
        replace S := S.below hk8
        replace hkw := hkw.trans' hk8
        clear hk8 r0 r1 r2 r3
        cases vc with
        | false =>
         obtain rfl : zD = 1 := HDE.out
         obtain rfl := HA0.out (by decide)
         go_wp2
         go_ret
         exact ⟨rfl, S.k⟩
        | true =>
         obtain rfl : zD = 0 := HDE.out
         obtain ⟨ha1, ha2⟩ := HAS.out rfl
         have hab : abvL s qv = srtI (lawF s) (abwL s qv (ctlN s).length).length (abwL s qv (ctlN s).length) := by rw [abvL_law, abw_abv qv HFB.out]
         have hna : na = (abwL s qv (ctlN s).length).length := by rw [ha1, hab, srtI_length]
         have HAL : Hid (IRow W7 Aa (srtI (lawF s) (abwL s qv (ctlN s).length).length (abwL s qv (ctlN s).length))) := Lib.hid (by rw [← hab]; exact ha2)
         have HNA := Lib.hid hna
         have hlen : (ctlK s s.rd.length).length = (ctlN s).length := by rw [ctlK_N, List.length_map]
         have hl12 : (ctlN s).length ≤ 12 := Nat.le_trans (ctlN_len s) HSZ.out.2.1
         have HKC : Hid (ctlK s s.rd.length = (ctlN s).map fun (i : Nat) => (i : Int)) := Lib.hid (ctlK_N s)
         have HLT : Hid (∀ i ∈ ctlN s, i < s.sx.length) := Lib.hid fun i hi => by rw [form_len HFB.out]; exact ctlN_lt hi
         clear ha1 ha2 hab hna
         go_wp2_with (refine wpList_load_mid rfl 49 _ rfl _ 0 rfl _ _ (own_range (S.o 1 rfl)) Tryz.underlying49 rfl (by kernel_rfl) ?_)
         rw [HVS.out]
         refine (ctl_any (HSA.out.below S.k) HSZ.out.2.1).mono ?_
         rintro e W10 ⟨A9, c9, rfl, hO9, hk10⟩
         replace S := S.below hk10
         have HK7 := Lib.hid (hkw.trans' hk10)
         rw [hlen] at hO9 ⊢
         rw [HKC.out] at hO9
         have HO9 := Lib.hid hO9
         clear hk10 hO9 hkw hlen
         have HWM := Lib.hid (abwL_mem s qv (ctlN s).length)
         obtain ⟨L9, hL9⟩ : ∃ l, ctlN s = l := ⟨_, rfl⟩
         have HL9 := Lib.hid hL9
         rw [hL9] at hl12 HKC HLT HO9 HNA HAL HWM ⊢
         clear hL9
         have hl12I : (L9.length : Int) ≤ 12 := by omega
         obtain ⟨B0, hB0⟩ : ∃ b, W10.heap.size = b := ⟨_, rfl⟩
         have HB0 : Hid (w.heap.size + 2 ≤ B0) := Lib.hid (by
          have := (S.o 0 rfl).lt
          simp only at this
          omega)
         have HBB := Lib.hid hB0
         have hkw : KR 3 W10 W10 B0 (.slice none 0 0) (abwL s qv 0).length (i64s (abwL s qv 0)) := ⟨Below.refl _ _, rfl, .inl ⟨rfl, rfl⟩⟩
         obtain ⟨i0, hi, hz0, hz1, hz2⟩ := info_parts info_i64
         clear hB0
         go_wp2
         go_loopw [17, 175] (fun v i wr => ∃ k : Nat, k ≤ L9.length ∧ i = .int .i64 (k : Nat) ∧ KR 3 W10 wr B0 v (abwL s qv k).length (i64s (abwL s qv k)) ∧ St w wr [(w.heap.size + 1, 31, [.bool n1, .slice A7 xs.length c7, .bool n2, .slice B7 ys.length d7]), (w.heap.size, 49, smL s o0 o1 o2 o3 p0 p1 p2 p3 AA BB cc dd)] []) (fun _ i _ => L9.length - (intOf i).toNat)
         case atStart => exact ⟨0, Nat.zero_le _, rfl, hkw, S⟩
         case round =>
          clear S hkw
          obtain ⟨k, hk, rfl, hkw, S⟩ := hrel
          by_cases hlt : k < L9.length
          ·have hkI : (k : Int) < (L9.length : Int) := by omega
           have tk : decide ((k : Int) < (L9.length : Int)) = true := decide_eq_true hkI
           obtain ⟨ii, hii⟩ : ∃ i, L9[k]? = some i := ⟨_, List.getElem?_eq_getElem hlt⟩
           have his := HLT.out ii (List.mem_of_getElem? hii)
           obtain ⟨b9, o9, rfl, x9⟩ := (IRow.of_own (HO9.out.keeps hkw.1) (by rw [List.length_map])).at (j := k) (by rw [List.length_map]; exact hlt)
           have e9 : (L9.map fun (i : Nat) => (i : Int)).getD k 0 = (ii : Int) := by simp [List.getD, hii]
           rw [e9] at x9
           obtain ⟨⟨qt, vbt⟩, hqt⟩ : ∃ x, s.sx[ii]? = some x := ⟨_, List.getElem?_eq_getElem his⟩
           have hbq : abwB s qv ii = decide (qv < qt) := by
            unfold abwB sxq
            simp only [Int.toNat_natCast, List.getD, hqt, Option.getD_some]
           have HST : Hid (abwL s qv (k + 1) = abwL s qv k ++ if decide (qv < qt) then [(ii : Int)] else []) := Lib.hid (by rw [abwL_next s qv (by rw [HL9.out]; exact hii), hbq])
           obtain ⟨H3, H4⟩ := sm_rows (by rw [HVS.out]; exact HSA.out)
           obtain ⟨Bs, os, u0, u1, u2, u3, rfl, hc1, hx1⟩ := H4.get lasts_v hqt
           obtain ⟨bt, At, nt, ct, dt, Bt, mt, et, rfl, rfl, rfl, rfl⟩ := (hx1 w bl).open4
           have hX1 := (hx1 _ S.k).num'
           have hX2 := (lasts_v _ _ _ _ S.k HCV.out).num'
           have HC1 := Lib.hid hc1
           have his6 : (ii : Int) < (s.sx.length : Int) := by omega
           have hsx6 : (s.sx.length : Int) ≤ 12 := by have := HSZ.out.2.2; omega
           have szt := HSZ.out.1.2.2.2 _ (List.mem_of_getElem? hqt)
           have szc := HZC.out
           have hlk := abwL_len s qv k
           simp only at szt szc hX2
           replace S := (S.addR hX2).addR hX1
           clear hbq hqt hx1 hc1 e9 hii H3 H4 his hX1 hX2
           go_wp2
           clear x9
           obtain ⟨s1, hs1⟩ : ∃ s, cmpR qt qv = s := ⟨_, rfl⟩
           have HS1 := Lib.hid hs1
           clear hs1
           go_upto_region 40 with fail
           refine wp_region_steps (m := 7) rfl (by kernel_rfl) (fun iF vF wF => (List.getD [ve (.pointer (some ⟨w.heap.size, 15, none⟩)), ve (.slice (some ⟨Bs, os, none⟩) s.sx.length dd), ve (.int .i64 (ii : Int)), ve (.pointer (some ⟨Bs, os + ii * 4, none⟩)), ve (.agg #[.bool bt, .slice At nt ct, .bool dt, .slice Bt mt et]), ve (.agg #[.bool n1, .slice A7 xs.length c7, .bool n2, .slice B7 ys.length d7]), ve (.int .i64 s1)] iF (fun _ _ => True)) vF wF) [] ?_ ?_ ?_
           ·intro i v w w' _ h hk
            refine stabL_get ?_ i v w w' h hk
            exact stab_cons st_e (stab_cons st_e (stab_cons st_e (stab_cons st_e (stab_cons st_e (stab_cons st_e (stab_cons st_e stab_nil))))))
           ·intro i hi vs w3 hk3 hd
            have S3 := S.drew.below hk3
            have x15 := S3.c 1 15 rfl rfl
            obtain ⟨g0, g1, g2, g3⟩ := HC1.out _ S3.k
            obtain ⟨a0, a1, a2, a3⟩ := S3.cc4 0 rfl
            match i, hi with
            | 0, _ =>
             refine sv0 [] (ve (.pointer (some ⟨w.heap.size, 15, none⟩))) rfl fun K hK => ?_; clear hd; simp only [frD] at hK ⊢; go_simp
             exact hK _ _ bl rfl
            | 1, _ =>
             have qe0 : (vs 0) = .pointer (some ⟨w.heap.size, 15, none⟩) := hdk hd 0
             refine sv0 [(0, some 179)] (ve (.slice (some ⟨Bs, os, none⟩) s.sx.length dd)) rfl fun K hK => ?_; clear hd; simp only [frD, qe0] at hK ⊢; go_simp
             exact hK _ _ bl rfl
            | 2, _ =>
             refine sv0 [] (ve (.int .i64 (ii : Int))) rfl fun K hK => ?_; clear hd; simp only [frD] at hK ⊢; go_simp
             exact hK _ _ bl rfl
            | 3, _ =>
             have qe1 : (vs 1) = .slice (some ⟨Bs, os, none⟩) s.sx.length dd := hdk hd 1; have qe2 : (vs 2) = .int .i64 (ii : Int) := hdk hd 2
             refine sv0 [(1, some 180), (2, some 181)] (ve (.pointer (some ⟨Bs, os + ii * 4, none⟩))) rfl fun K hK => ?_; clear hd; simp only [frD, qe1, qe2] at hK ⊢; go_simp
             exact hK _ _ bl rfl
            | 4, _ =>
             have qe3 : (vs 3) = .pointer (some ⟨Bs, os + ii * 4, none⟩) := hdk hd 3
             refine sv0 [(3, some 182)] (ve (.agg #[.bool bt, .slice At nt ct, .bool dt, .slice Bt mt et])) rfl fun K hK => ?_; clear hd; simp only [frD, qe3] at hK ⊢; go_simp
             exact hK _ _ bl rfl
            | 5, _ =>
             refine sv0 [] (ve (.agg #[.bool n1, .slice A7 xs.length c7, .bool n2, .slice B7 ys.length d7])) rfl fun K hK => ?_; clear hd; simp only [frD] at hK ⊢; go_simp
             exact hK _ _ bl rfl
            | 6, _ =>
             have qe4 : (vs 4) = .agg #[.bool bt, .slice At nt ct, .bool dt, .slice Bt mt et] := hdk hd 4; have qe5 : (vs 5) = .agg #[.bool n1, .slice A7 xs.length c7, .bool n2, .slice B7 ys.length d7] := hdk hd 5
             refine sc (A := #[(vs 4), (vs 5)]) (B := #[.agg #[.bool bt, .slice At nt ct, .bool dt, .slice Bt mt et], .agg #[.bool n1, .slice A7 xs.length c7, .bool n2, .slice B7 ys.length d7]]) [(4, some 183), (5, some 184)] (ve (.int .i64 s1)) rfl (wanted_none rfl) (by rw [qe4, qe5]) Tryz.func18 ?_
             refine ((gcompare_s (S3.ri 0 rfl) (S3.ri 1 rfl) (by omega) HS1.out)).mono ?_; rintro e w4 ⟨rfl, hk4⟩; exact ⟨_, rfl, hk4, rfl⟩
            | i + 7, hi => exact absurd hi (by omega)
           ·intro vs W61 hk3 hΦ _
            simp only [List.drop_succ_cons, List.drop_zero]
            rw [fr_frD, show (List.range 7).map _ = [(0, some 179), (1, some 180), (2, some 181), (3, some 182), (4, some 183), (5, some 184), (6, some 185)] by kernel_rfl]
            have pu0 : (vs 0) = .pointer (some ⟨w.heap.size, 15, none⟩) := hΦ 0 (by decide)
            have pu1 : (vs 1) = .slice (some ⟨Bs, os, none⟩) s.sx.length dd := hΦ 1 (by decide)
            have pu2 : (vs 2) = .int .i64 (ii : Int) := hΦ 2 (by decide)
            have pu3 : (vs 3) = .pointer (some ⟨Bs, os + ii * 4, none⟩) := hΦ 3 (by decide)
            have pu4 : (vs 4) = .agg #[.bool bt, .slice At nt ct, .bool dt, .slice Bt mt et] := hΦ 4 (by decide)
            have pu5 : (vs 5) = .agg #[.bool n1, .slice A7 xs.length c7, .bool n2, .slice B7 ys.length d7] := hΦ 5 (by decide)
            have pu6 : (vs 6) = .int .i64 s1 := hΦ 6 (by decide)
            clear hΦ
            simp only [frD, pu0, pu1, pu2, pu3, pu4, pu5, pu6]
            simp only [Act.put, List.setIfInBounds_toArray, List.set_cons_zero, List.set_cons_succ]
            clear pu0 pu1 pu2 pu3 pu4 pu5 pu6
            replace S := S.drew.below hk3
            replace hkw := hkw.trans' (Keeps.trans' (w1 := wr.drew) (Below.drew (Below.refl _ wr)) hk3)
            clear hk3
            rcases Bool.eq_false_or_eq_true (decide (0 < s1)) with t1 | t1
            ·skip
             have HN : Hid (abwL s qv (k + 1) = abwL s qv k ++ [(ii : Int)]) := Lib.hid (by
              have h1 := of_decide_eq_true t1
              rw [← HS1.out] at h1
              rw [HST.out, if_pos (decide_eq_true ((cmpR_pos qt qv).1 h1))])
             replace S := S.onlyL
             have HS := Lib.hid S
             have HKR := Lib.hid hkw
             have hown1 := hkw.2.alloc (.cells #[.int .i64 (ii : Nat)] 3)
             have hsz9 : B0 ≤ (W61.alloc (.cells #[.int .i64 (ii : Nat)] 3)).heap.size := by
              rw [World.size_alloc]
              have := hkw.1.size
              have := HBB.out
              omega
             obtain ⟨N, hN⟩ : ∃ N, (abwL s qv k).length = N := ⟨_, rfl⟩
             have HNN := Lib.hid hN
             rw [hN] at hlk hown1
             have HOW := Lib.hid hown1
             clear hN hown1 S hkw
             go_wp2_with (at_builtin; refine wpList_append_own _ rfl _ _ 43 rfl B0 3 i0 (.int .i64 0) 1 8 Tryz.underlying43 hi hz0 hz1 hz2 rfl (by decide) _ _ _ rfl HOW.out ⟨W61.heap.size, 0, none⟩ 1 1 [.int .i64 (ii : Nat)] rfl rfl (cell_one_new _ _ _) (by simp [Value.oneCell']) (by simp only [maxLen]; omega) (by omega) hsz9 ?_; intro v' w3 hown3 hgrow hnil)
             have hB0 := HB0.out
             have S := (HS.out.below (box2 W61 (.cells #[.int .i64 (ii : Nat)] 3))).grownB (base := B0) hgrow (fun b e => (HOW.out.lt b e).1) (by omega) (by simp; omega)
             have HR5 : Hid (KR 3 W10 w3 B0 v' (abwL s qv (k + 1)).length (i64s (abwL s qv (k + 1)))) := Lib.hid ⟨(HKR.out.1.trans' (box2 W61 (.cells #[.int .i64 (ii : Nat)] 3))).grown hgrow (by rw [World.size_alloc]; have := HKR.out.1.size; omega) (fun b e => by have := (HOW.out.lt b e).1; have := HBB.out; omega), by
              rw [HN.out, i64s_snoc, List.length_append, HNN.out]
              exact hown3⟩
             clear hown3 hgrow hnil HS HKR hB0
             go_wp2
             go_roundw
             case rel => exact ⟨k + 1, by omega, by go_num, HR5.out, S⟩
             case measure => simp [intOf]; omega
            ·skip
             go_wp2
             have HKE : Hid (abwL s qv (k + 1) = abwL s qv k) := Lib.hid (by
              have h1 := of_decide_eq_false t1
              rw [← HS1.out] at h1
              rw [HST.out, if_neg (fun h => h1 ((cmpR_pos qt qv).2 (of_decide_eq_true h))), List.append_nil])
             go_roundw
             case rel => exact ⟨k + 1, by omega, by go_num, by rw [HKE.out]; exact hkw, S.onlyL⟩
             case measure => simp [intOf]; omega
          ·have hkI : ¬ (k : Int) < (L9.length : Int) := by omega
           have tk : decide ((k : Int) < (L9.length : Int)) = false := decide_eq_false hkI
           obtain rfl : k = L9.length := by omega
           obtain ⟨L, hL⟩ : ∃ L, abwL s qv L9.length = L := ⟨_, rfl⟩
           have hlk := abwL_len s qv L9.length
           rw [hL] at hkw hlk HNA HAL HWM
           clear hL
           have HK8 := Lib.hid (HK7.out.trans' hkw.1)
           have HRW := Lib.hid hkw.2
           obtain rfl := HNA.out
           clear hkw
           rcases HRW.out.2 with ⟨rfl, h0⟩ | ⟨g, cap, cur, rfl, hgb, hg, hgc, hgm, hgs, hgt⟩
           ·obtain rfl := List.length_eq_zero_iff.1 h0
            have HSO := Lib.hid (fun F => sortStI_any (w := wr) (A := none) (c := 0) (F := F) (n := 0) (R := fun w' => w' = wr) (by omega) (insI_nil wr _ F 0 0 (by omega) (by omega)))
            have HEQ := Lib.hid (fun c d => equalI_same (c := c) (d := d) (Row.below HAL.out HK8.out) (A := Aa) (B := none) (n := 0) (w := wr) (xs := []) (fun h => absurd h (by simp)) rfl (by simp [maxLen]))
            clear HRW h0
            go_wp2_with fail
            refine (HSO.out _).mono ?_
            rintro e W9 ⟨rfl, rfl⟩
            go_wp2_with fail
            refine (HEQ.out _ _).mono ?_
            rintro e W11 ⟨rfl, hk11⟩
            replace S := S.below hk11
            clear hk11
            go_wp2
            go_ret
            exact ⟨rfl, S.k⟩
           ·have hR : RowI wr g L (cur.toList.drop L.length) := by
             unfold RowI Own
             rw [hg, ← hgt, Nat.mul_one, List.take_append_drop]
            have hB0 := HB0.out
            have hgw : w.heap.size ≤ g := by omega
            have HKU : Hid (∀ u, Turn [g] wr u → Keeps w u) := Lib.hid fun u ht => S.k.trans (ht.below (fun k hk => by rw [List.mem_singleton.1 hk]; omega) S.k.size)
            have HKV : Hid (∀ u, Turn [g] wr u → Keeps W7 u) := Lib.hid fun u ht => HK8.out.trans (ht.below (fun k hk => by rw [List.mem_singleton.1 hk]; have := HK7.out.size; have := HBB.out; omega) HK8.out.size)
            obtain ⟨H3, H4⟩ := sm_rows (by rw [HVS.out]; exact HSA.out)
            have HCM : Hid (∀ u, Turn [g] wr u → ∀ x y : Int, (∃ i, i < s.rd.length ∧ x = ((i : Nat) : Int)) → (∃ i, i < s.rd.length ∧ y = ((i : Nat) : Int)) → Calls Tryz.prog 29 #[.int .i64 x, .int .i64 y, .pointer (some ⟨w.heap.size, 0, none⟩)] u fun e u' => e = .returned (.int .i64 (lawF s x y)) ∧ Keeps u u') := Lib.hid (by
             rintro u ht x y ⟨i, hi, rfl⟩ ⟨j, hj, rfl⟩
             have hfl := form_len HFB.out
             exact lawcmp_any ((S.o 1 rfl).turn ht (by simp; omega)) (H4.below lasts_v (HKU.out u ht)) (by have := HSZ.out.2.2; omega) (fun x hx => Nat.le_trans (HSZ.out.1.2.2.2 x hx) (by omega)) (by omega) (by omega))
            have HSO := Lib.hid (sortStI_any (w := wr) (A := some ⟨g, 0, none⟩) (c := cap) (n := L.length) (R := fun w' => RowI w' g (srtI (lawF s) L.length L) (cur.toList.drop L.length) ∧ Turn [g] wr w') (by omega) (lcn_ins (lawF s) _ hR rfl (Nat.le_refl _) (by omega) HWM.out HCM.out))
            clear HRW hR hgb hg hgt HCM H3 H4 hB0 hgw
            go_wp2_with fail
            refine HSO.out.mono ?_
            rintro e W9 ⟨rfl, hr9, ht9⟩
            have HEQ := Lib.hid (fun c d => equalI_same (c := c) (d := d) (Row.below HAL.out (HKV.out _ ht9)) hr9.irow (srtI_length _ _ _).symm (by rw [srtI_length]; simp only [maxLen]; omega))
            have HK9 := Lib.hid (HKU.out _ ht9)
            clear hr9 ht9
            go_wp2_with fail
            refine (HEQ.out _ _).mono ?_
            rintro e W11 ⟨rfl, hk11⟩
            have HK10 := Lib.hid (HK9.out.trans' hk11)
            clear hk11
            go_wp2
            go_ret
            exact ⟨rfl, HK10.out⟩
end Go.Proofs.YtgcigdahjabimaaGreatDoor
