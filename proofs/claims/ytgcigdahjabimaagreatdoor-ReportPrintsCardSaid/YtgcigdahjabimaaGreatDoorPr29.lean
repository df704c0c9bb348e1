/- report.Check: the walk. -/
import Derived.Test.YtgcigdahjabimaaGreatDoorPr28
import Derived.Test.YtgcigdahjabimaaGreatDoorPr26
import Derived.Test.YtgcigdahjabimaaGreatDoorPr27
import Derived.Deep.DeepCutAuto
namespace Go.Proofs.YtgcigdahjabimaaGreatDoor
open Go.RowKit Go.Shelf
abbrev smL (s : Sm) (o0 o1 o2 o3 p0 p1 p2 p3 : Value) (A B : Option Addr) (c d : Nat) : List Value :=
 [.int .i64 s.dim, .int .i64 s.st, .int .i64 s.pt, .int .i64 s.rw_, .int .i64 s.fr, .int .i64 s.rk, o0, o1, o2, o3, p0, p1, p2, p3, .slice A s.rd.length c, .slice B s.sx.length d, .int .i64 s.wo]
def SmArg (w : World) (V : Value) (s : Sm) : Prop := ∃ o0 o1 o2 o3 p0 p1 p2 p3 A B c d, V = .agg (smL s o0 o1 o2 o3 p0 p1 p2 p3 A B c d).toArray ∧ RatV2 w (.agg #[o0, o1, o2, o3]) s.ob ∧ RatV2 w (.agg #[p0, p1, p2, p3]) s.sg ∧
 Row4 RatV2 w A s.rd ∧ Row4 RatV2 w B s.sx ∧ s.rd.length ≤ maxLen ∧ s.sx.length ≤ maxLen
theorem SmArg.below {w w' : World} {V : Value} {s : Sm} (h : SmArg w V s) (hk : Keeps w w') : SmArg w' V s := by
 obtain ⟨o0, o1, o2, o3, p0, p1, p2, p3, A, B, c, d, e, h1, h2, h3, h4, h5, h6⟩ := h
 exact ⟨o0, o1, o2, o3, p0, p1, p2, p3, A, B, c, d, e, lasts_v _ _ _ _ hk h1, lasts_v _ _ _ _ hk h2, h3.below lasts_v hk, h4.below lasts_v hk, h5, h6⟩
theorem two_row {w : World} {g : Nat} {t : TypeId} {o0 o1 o2 o3 p0 p1 p2 p3 : Value} {x y : QV} (hO : Own w g t [o0, o1, o2, o3, p0, p1, p2, p3]) (h1 : RatV2 w (.agg #[o0, o1, o2, o3]) x) (h2 : RatV2 w (.agg #[p0, p1, p2, p3]) y) : Row4 RatV2 w (some ⟨g, 0, none⟩) [x, y] := fun j z hj => by
 match j, hj with
 | 0, hj =>
  obtain rfl : x = z := by simpa using hj
  exact ⟨g, 0, o0, o1, o2, o3, rfl, ⟨(hO.cell _).trans rfl, (hO.cell _).trans rfl, (hO.cell _).trans rfl, (hO.cell _).trans rfl⟩, h1⟩
 | 1, hj =>
  obtain rfl : y = z := by simpa using hj
  exact ⟨g, 0, p0, p1, p2, p3, rfl, ⟨(hO.cell _).trans rfl, (hO.cell _).trans rfl, (hO.cell _).trans rfl, (hO.cell _).trans rfl⟩, h2⟩
 | j + 2, hj => simp at hj
theorem RatV2.num' {w : World} {V : Value} {x : QV} (h : RatV2 w V x) : RatNum w V x.1 := RatV.num h
def okS (b : Bool) : Int := if b then 0 else 1
set_option maxRecDepth 100000 in
set_option maxHeartbeats 2000000 in
theorem check_any {w : World} {V : Value} {s : Sm} (h : SmArg w V s) (hsz : ∀ x ∈ s.rd, szR x.1 ≤ 1000) : Calls Tryz.prog 31 #[V] w fun e w' => e = .returned (.int .i64 (okS (formB s))) ∧ Keeps w w' := by
 obtain ⟨o0, o1, o2, o3, p0, p1, p2, p3, A, B, c, d, rfl, h1, h2, h3, h4, h5, h6⟩ := h
 obtain ⟨b3, A3, n3, c3, d3, B3, m3, e3, rfl, rfl, rfl, rfl⟩ := h1.open4
 obtain ⟨b4, A4, n4, c4, d4, B4, m4, e4, rfl, rfl, rfl, rfl⟩ := h2.open4
 have S := (St.start w).alloc 49 (smL s (.bool b3) (.slice A3 n3 c3) (.bool d3) (.slice B3 m3 e3) (.bool b4) (.slice A4 n4 c4) (.bool d4) (.slice B4 m4 e4) A B c d)
 obtain ⟨W0, hW0, S⟩ := S.pack
 have H1 := Lib.hid h1
 have H2 := Lib.hid h2
 have H3 := Lib.hid h3
 have H4 := Lib.hid h4
 have HSZ := Lib.hid hsz
 have hl3 : (s.rd.length : Int) ≤ 9223372036854775807 := by simp only [maxLen] at h5; omega
 have hl4 : (s.sx.length : Int) ≤ 9223372036854775807 := by simp only [maxLen] at h6; omega
 have HP3 := Lib.hid (fun (u : World) (hk : Keeps w u) => positive_any (c := c) (h3.below lasts_v hk) rfl h5)
 have HP4 := Lib.hid (fun (u : World) (hk : Keeps w u) => positive_any (c := d) (h4.below lasts_v hk) rfl h6)
 have HFM : Hid (formB s = (headB s && s.rd.all posB && s.sx.all posB && posB s.ob && posB s.sg && s.rd.all fun x => decide (x.1 ≤ 1))) := Lib.hid rfl
 have HHD : Hid (headB s = ((s.dim == 2 || s.dim == 3) && cntB s.st && cntB s.pt && cntB s.rw_ && cntB s.fr && cntB s.rk && ((s.rd.length : Int) == s.rw_) && ((s.sx.length : Int) == s.rw_) && decide (-1 ≤ s.wo) && decide (s.wo < s.rw_))) := Lib.hid rfl
 clear h1 h2 h3 h4 h5 h6 hsz
 have x0 := S.c 0 0 rfl rfl
 have x1 := S.c 0 1 rfl rfl
 have x2 := S.c 0 2 rfl rfl
 have x3 := S.c 0 3 rfl rfl
 have x4 := S.c 0 4 rfl rfl
 have x5 := S.c 0 5 rfl rfl
 have x6 := S.c 0 6 rfl rfl
 have x7 := S.c 0 7 rfl rfl
 have x8 := S.c 0 8 rfl rfl
 have x9 := S.c 0 9 rfl rfl
 have x10 := S.c 0 10 rfl rfl
 have x11 := S.c 0 11 rfl rfl
 have x12 := S.c 0 12 rfl rfl
 have x13 := S.c 0 13 rfl rfl
 have x14 := S.c 0 14 rfl rfl
 have x15 := S.c 0 15 rfl rfl
 have x16 := S.c 0 16 rfl rfl
 go_enter Tryz.func31, Tryz.ntmps31
 go_upto_region 1 with fail
 go_cut [3] (fun g wx => g = .bool (s.dim == 2 || s.dim == 3) ∧ wx = W0)
 case first =>
  obtain ⟨b2, hb2⟩ : ∃ b, (s.dim == 2) = b := ⟨_, rfl⟩
  obtain ⟨b5, hb5⟩ : ∃ b, (s.dim == 3) = b := ⟨_, rfl⟩
  cases b2
  ·go_wp2
   go_meet
   case rel => exact ⟨by simp [hb2, hb5], rfl⟩
  ·go_wp2
   go_meet
   case rel => exact ⟨by simp [hb2, hb5], rfl⟩
 case rest =>
  obtain ⟨rfl, rfl⟩ := hcut
  obtain ⟨g0, hg0⟩ : ∃ b, (s.dim == 2 || s.dim == 3) = b := ⟨_, rfl⟩
  rw [hg0] at HHD ⊢
  clear hg0 hW0
  go_wp2
  replace S := S.alloc 3 [.int .i64 s.st, .int .i64 s.pt, .int .i64 s.rw_, .int .i64 s.fr, .int .i64 s.rk]
  obtain ⟨W1, eW, S⟩ := S.pack
  rw [eW]
  clear eW
  clear x0 x1 x2 x3 x4 x5 x6 x7 x8 x9 x10 x11 x12 x13 x14 x15 x16
  generalize wc.heap.size = P6 at *
  have hns : ∀ k, k < 5 → [s.st, s.pt, s.rw_, s.fr, s.rk][k]? = some ([s.st, s.pt, s.rw_, s.fr, s.rk].getD k 0) ∧ [Value.int .i64 s.st, .int .i64 s.pt, .int .i64 s.rw_, .int .i64 s.fr, .int .i64 s.rk][k]? = some (.int .i64 ([s.st, s.pt, s.rw_, s.fr, s.rk].getD k 0)) := fun k hk => by
   have : k = 0 ∨ k = 1 ∨ k = 2 ∨ k = 3 ∨ k = 4 := by omega
   rcases this with rfl | rfl | rfl | rfl | rfl <;> exact ⟨rfl, rfl⟩
  have HNS := Lib.hid hns
  clear hns
  obtain ⟨ns, hns⟩ : ∃ ns, [s.st, s.pt, s.rw_, s.fr, s.rk] = ns := ⟨_, rfl⟩
  have HNE := Lib.hid hns
  rw [hns] at HNS
  go_loopw [28, 3] (fun i g wr => ∃ k : Nat, k ≤ 5 ∧ i = .int .i64 (k : Nat) ∧ g = .bool (g0 && (ns.take k).all cntB) ∧ St w wr [(P6, 3, [.int .i64 s.st, .int .i64 s.pt, .int .i64 s.rw_, .int .i64 s.fr, .int .i64 s.rk]), (w.heap.size, 49, smL s (.bool b3) (.slice A3 n3 c3) (.bool d3) (.slice B3 m3 e3) (.bool b4) (.slice A4 n4 c4) (.bool d4) (.slice B4 m4 e4) A B c d)] []) (fun i _ _ => 5 - (intOf i).toNat)
  case atStart => exact ⟨0, Nat.zero_le _, rfl, by simp, S⟩
  case round =>
   clear S
   obtain ⟨k, hk, rfl, rfl, S⟩ := hrel
   by_cases hlt : k < 5
   ·have hkI : (k : Int) < 5 := by omega
    have t1 : decide ((k : Int) < 5) = true := decide_eq_true hkI
    obtain ⟨hq, hv⟩ := HNS.out k hlt
    have y0 := S.c 0 k rfl hv
    have hsn : (ns.take (k + 1)).all cntB = ((ns.take k).all cntB && (decide (0 ≤ ns.getD k 0) && decide (ns.getD k 0 ≤ 1024))) := by
     rw [List.take_add_one, List.all_append, hq]
     simp [cntB]
    generalize ns.getD k 0 = v at *
    obtain ⟨gk, hgk⟩ : ∃ b, (g0 && (ns.take k).all cntB) = b := ⟨_, rfl⟩
    have hge : (g0 && (ns.take (k + 1)).all cntB) = (gk && (decide (0 ≤ v) && decide (v ≤ 1024))) := by rw [hsn, ← hgk, Bool.and_assoc]
    have HGE := Lib.hid hge
    rw [hgk]
    clear hgk hge hsn hq hv hns
    cases gk with
    | false =>
     go_wp2
     go_roundw
     case rel => exact ⟨k + 1, by omega, by go_num, by rw [HGE.out]; rfl, S⟩
     case measure => simp [intOf]; omega
    | true =>
     by_cases hv0 : 0 ≤ v
     ·have q1 : decide (0 ≤ v) = true := decide_eq_true hv0
      obtain ⟨b9, hb9⟩ : ∃ b, decide (v ≤ 1024) = b := ⟨_, rfl⟩
      rw [q1, hb9] at HGE
      go_wp2
      go_roundw
      case rel => exact ⟨k + 1, by omega, by go_num, by rw [HGE.out]; simp, S⟩
      case measure => simp [intOf]; omega
     ·have q1 : decide (0 ≤ v) = false := decide_eq_false hv0
      rw [q1] at HGE
      go_wp2
      go_roundw
      case rel => exact ⟨k + 1, by omega, by go_num, by rw [HGE.out]; rfl, S⟩
      case measure => simp [intOf]; omega
   ·have hkI : ¬ (k : Int) < 5 := by omega
    have t1 : decide ((k : Int) < 5) = false := decide_eq_false hkI
    obtain rfl : k = 5 := by omega
    have hns5 : (g0 && (ns.take 5).all cntB) = (g0 && cntB s.st && cntB s.pt && cntB s.rw_ && cntB s.fr && cntB s.rk) := by rw [← HNE.out]; simp [Bool.and_assoc]
    obtain ⟨gA, hgA⟩ : ∃ b, (g0 && (ns.take 5).all cntB) = b := ⟨_, rfl⟩
    have hhd := HHD.out
    rw [← hns5, hgA] at hhd
    rw [hgA]
    clear hns5 hgA
    replace S := S.dropb
    obtain ⟨c1, e1⟩ : ∃ b, ((s.rd.length : Int) == s.rw_) = b := ⟨_, rfl⟩
    obtain ⟨c2, e2⟩ : ∃ b, ((s.sx.length : Int) == s.rw_) = b := ⟨_, rfl⟩
    obtain ⟨c3', e3'⟩ : ∃ b, decide (-1 ≤ s.wo) = b := ⟨_, rfl⟩
    obtain ⟨c4', e4'⟩ : ∃ b, decide (s.wo < s.rw_) = b := ⟨_, rfl⟩
    rw [e1, e2, e3', e4'] at hhd
    have hfm := HFM.out
    rw [hhd] at hfm
    have HFM := Lib.hid hfm
    clear hhd hfm
    have x0 := S.c 0 0 rfl rfl
    have x1 := S.c 0 1 rfl rfl
    have x2 := S.c 0 2 rfl rfl
    have x3 := S.c 0 3 rfl rfl
    have x4 := S.c 0 4 rfl rfl
    have x5 := S.c 0 5 rfl rfl
    have x6 := S.c 0 6 rfl rfl
    have x7 := S.c 0 7 rfl rfl
    have x8 := S.c 0 8 rfl rfl
    have x9 := S.c 0 9 rfl rfl
    have x10 := S.c 0 10 rfl rfl
    have x11 := S.c 0 11 rfl rfl
    have x12 := S.c 0 12 rfl rfl
    have x13 := S.c 0 13 rfl rfl
    have x14 := S.c 0 14 rfl rfl
    have x15 := S.c 0 15 rfl rfl
    have x16 := S.c 0 16 rfl rfl
    cases gA with
    | false => (have HE : Hid (formB s = false) := Lib.hid (by rw [HFM.out]; simp)); go_wp2; all_goals (go_ret; exact ⟨by rw [HE.out]; rfl, S.k⟩)
    | true =>
     cases c1 with
     | false => (have HE : Hid (formB s = false) := Lib.hid (by rw [HFM.out]; simp)); go_wp2; all_goals (go_ret; exact ⟨by rw [HE.out]; rfl, S.k⟩)
     | true =>
      cases c2 with
      | false => (have HE : Hid (formB s = false) := Lib.hid (by rw [HFM.out]; simp)); go_wp2; all_goals (go_ret; exact ⟨by rw [HE.out]; rfl, S.k⟩)
      | true =>
       cases c3' with
       | false => (have HE : Hid (formB s = false) := Lib.hid (by rw [HFM.out]; simp)); go_wp2; all_goals (go_ret; exact ⟨by rw [HE.out]; rfl, S.k⟩)
       | true =>
        cases c4' with
        | false => (have HE : Hid (formB s = false) := Lib.hid (by rw [HFM.out]; simp)); go_wp2; all_goals (go_ret; exact ⟨by rw [HE.out]; rfl, S.k⟩)
        | true =>
         go_wp2_with fail
         refine (HP3.out _ S.k).mono ?_
         rintro e W2 ⟨rfl, hk2⟩
         replace S := S.below hk2
         clear hk2
         clear x0 x1 x2 x3 x4 x5 x6 x7 x8 x9 x10 x11 x12 x13 x14 x15 x16
         have x0 := S.c 0 0 rfl rfl
         have x1 := S.c 0 1 rfl rfl
         have x2 := S.c 0 2 rfl rfl
         have x3 := S.c 0 3 rfl rfl
         have x4 := S.c 0 4 rfl rfl
         have x5 := S.c 0 5 rfl rfl
         have x6 := S.c 0 6 rfl rfl
         have x7 := S.c 0 7 rfl rfl
         have x8 := S.c 0 8 rfl rfl
         have x9 := S.c 0 9 rfl rfl
         have x10 := S.c 0 10 rfl rfl
         have x11 := S.c 0 11 rfl rfl
         have x12 := S.c 0 12 rfl rfl
         have x13 := S.c 0 13 rfl rfl
         have x14 := S.c 0 14 rfl rfl
         have x15 := S.c 0 15 rfl rfl
         have x16 := S.c 0 16 rfl rfl
         obtain ⟨r1, hr1⟩ : ∃ b, s.rd.all posB = b := ⟨_, rfl⟩
         rw [hr1] at HFM ⊢
         clear hr1
         cases r1 with
         | false => (have HE : Hid (formB s = false) := Lib.hid (by rw [HFM.out]; simp)); go_wp2; all_goals (go_ret; exact ⟨by rw [HE.out]; rfl, S.k⟩)
         | true =>
          go_wp2_with fail
          refine (HP4.out _ S.k).mono ?_
          rintro e W3 ⟨rfl, hk3⟩
          replace S := S.below hk3
          clear hk3
          clear x0 x1 x2 x3 x4 x5 x6 x7 x8 x9 x10 x11 x12 x13 x14 x15 x16
          have x0 := S.c 0 0 rfl rfl
          have x1 := S.c 0 1 rfl rfl
          have x2 := S.c 0 2 rfl rfl
          have x3 := S.c 0 3 rfl rfl
          have x4 := S.c 0 4 rfl rfl
          have x5 := S.c 0 5 rfl rfl
          have x6 := S.c 0 6 rfl rfl
          have x7 := S.c 0 7 rfl rfl
          have x8 := S.c 0 8 rfl rfl
          have x9 := S.c 0 9 rfl rfl
          have x10 := S.c 0 10 rfl rfl
          have x11 := S.c 0 11 rfl rfl
          have x12 := S.c 0 12 rfl rfl
          have x13 := S.c 0 13 rfl rfl
          have x14 := S.c 0 14 rfl rfl
          have x15 := S.c 0 15 rfl rfl
          have x16 := S.c 0 16 rfl rfl
          obtain ⟨r2, hr2⟩ : ∃ b, s.sx.all posB = b := ⟨_, rfl⟩
          rw [hr2] at HFM ⊢
          clear hr2
          cases r2 with
          | false => (have HE : Hid (formB s = false) := Lib.hid (by rw [HFM.out]; simp)); go_wp2; all_goals (go_ret; exact ⟨by rw [HE.out]; rfl, S.k⟩)
          | true =>
           go_wp2_with fail
           replace S := S.alloc 31 [.bool b3, .slice A3 n3 c3, .bool d3, .slice B3 m3 e3, .bool b4, .slice A4 n4 c4, .bool d4, .slice B4 m4 e4]
           obtain ⟨W4, eW, S⟩ := S.pack
           rw [eW]
           clear eW
           clear x0 x1 x2 x3 x4 x5 x6 x7 x8 x9 x10 x11 x12 x13 x14 x15 x16
           generalize W3.heap.size = P7 at *
           refine (positive_any (l := [s.ob, s.sg]) (two_row (S.o 0 rfl) (lasts_v _ _ _ _ S.k H1.out) (lasts_v _ _ _ _ S.k H2.out)) rfl (by simp [maxLen])).mono ?_
           rintro e W5 ⟨rfl, hk5⟩
           replace S := (S.below hk5).dropb
           clear hk5
           have x0 := S.c 0 0 rfl rfl
           have x1 := S.c 0 1 rfl rfl
           have x2 := S.c 0 2 rfl rfl
           have x3 := S.c 0 3 rfl rfl
           have x4 := S.c 0 4 rfl rfl
           have x5 := S.c 0 5 rfl rfl
           have x6 := S.c 0 6 rfl rfl
           have x7 := S.c 0 7 rfl rfl
           have x8 := S.c 0 8 rfl rfl
           have x9 := S.c 0 9 rfl rfl
           have x10 := S.c 0 10 rfl rfl
           have x11 := S.c 0 11 rfl rfl
           have x12 := S.c 0 12 rfl rfl
           have x13 := S.c 0 13 rfl rfl
           have x14 := S.c 0 14 rfl rfl
           have x15 := S.c 0 15 rfl rfl
           have x16 := S.c 0 16 rfl rfl
           have hr3 : [s.ob, s.sg].all posB = (posB s.ob && posB s.sg) := by simp
           rw [hr3]
           clear hr3
           obtain ⟨r3, hr3⟩ : ∃ b, posB s.ob = b := ⟨_, rfl⟩
           obtain ⟨r4, hr4⟩ : ∃ b, posB s.sg = b := ⟨_, rfl⟩
           rw [hr3, hr4] at HFM ⊢
           clear hr3 hr4
           cases r3 with
           | false => (have HE : Hid (formB s = false) := Lib.hid (by rw [HFM.out]; simp)); go_wp2; all_goals (go_ret; exact ⟨by rw [HE.out]; rfl, S.k⟩)
           | true =>
            cases r4 with
            | false => (have HE : Hid (formB s = false) := Lib.hid (by rw [HFM.out]; simp)); go_wp2; all_goals (go_ret; exact ⟨by rw [HE.out]; rfl, S.k⟩)
            | true =>
             go_wp2
             clear x0 x1 x2 x3 x4 x5 x6 x7 x8 x9 x10 x11 x12 x13 x14 x15 x16
             have hfm := HFM.out
             simp only [Bool.true_and] at hfm
             have HFM2 := Lib.hid hfm
             clear hfm HFM HP3 HP4 HHD HNS HNE
             go_loopw [97] (fun i wr => ∃ k : Nat, k ≤ s.rd.length ∧ i = .int .i64 (k : Nat) ∧ Hid ((s.rd.take k).all (fun x => decide (x.1 ≤ 1)) = true) ∧ St w wr [(w.heap.size, 49, smL s (.bool b3) (.slice A3 n3 c3) (.bool d3) (.slice B3 m3 e3) (.bool b4) (.slice A4 n4 c4) (.bool d4) (.slice B4 m4 e4) A B c d)] []) (fun i _ => s.rd.length - (intOf i).toNat)
             case atStart => exact ⟨0, Nat.zero_le _, rfl, Lib.hid rfl, S⟩
             case round =>
              clear S
              obtain ⟨k, hk, rfl, HA, S⟩ := hrel
              by_cases hlt : k < s.rd.length
              ·obtain ⟨⟨q, vb⟩, hq⟩ : ∃ x, s.rd[k]? = some x := ⟨_, List.getElem?_eq_getElem hlt⟩
               obtain ⟨B, o, x0, x1, x2, x3, rfl, hc, hx⟩ := H3.out.get lasts_v hq
               obtain ⟨bx, Ax, nx, cx, dx, Bx, mx, ex, rfl, rfl, rfl, rfl⟩ := (hx w bl).open4
               have hX := (hx wr S.k).num'
               obtain ⟨g0, g1, g2, g3⟩ := hc wr S.k
               replace S := S.addR hX
               have hz := HSZ.out _ (List.mem_of_getElem? hq)
               simp only at hz hX
               have HBAD : Hid (¬ q ≤ 1 → formB s = false) := Lib.hid fun h => by
                rw [HFM2.out]
                exact all_not hq (by simpa using h)
               have HGOOD : Hid (q ≤ 1 → (s.rd.take (k + 1)).all (fun x => decide (x.1 ≤ 1)) = true) := Lib.hid fun h => all_snoc hq HA.out (by simpa using h)
               have hkI : (k : Int) < s.rd.length := by omega
               have z1 : szR ((1 : Int) : Rat) ≤ 1 := by decide +kernel
               clear hc hx hX hq HA
               have y0 := szR_int 1
               obtain ⟨s1, hs1⟩ : ∃ s, cmpR q (((1 : Int) : Rat)) = s := ⟨_, rfl⟩
               have t1 : decide ((k : Int) < (s.rd.length : Int)) = true := by exact decide_eq_true (by omega)
               have HS1 := Lib.hid hs1
               clear hs1
               go_upto_region 13 with fail
               replace S := (S.alloc 31 [.bool bx, .slice Ax nx cx, .bool dx, .slice Bx mx ex])
               obtain ⟨W41, eW, S⟩ := S.pack
               rw [eW]
               clear eW
               generalize wr.heap.size = P41 at *
               refine wp_region_steps (m := 3) rfl (by kernel_rfl) (fun iF vF wF => (List.getD [ve (.agg #[.bool bx, .slice Ax nx cx, .bool dx, .slice Bx mx ex]), fun vF wF => RatRep wF vF (((1 : Int) : Rat)), ve (.int .i64 s1)] iF (fun _ _ => True)) vF wF) [] ?_ ?_ ?_
               ·intro i v w w' _ h hk
                refine stabL_get ?_ i v w w' h hk
                exact stab_cons st_e (stab_cons st_q (stab_cons st_e stab_nil))
               ·intro i hi vs w3 hk3 hd
                have S3 := S.drew.below hk3
                obtain ⟨a0, a1, a2, a3⟩ := S3.cc4 0 rfl
                match i, hi with
                | 0, _ =>
                 refine sv0 [] (ve (.agg #[.bool bx, .slice Ax nx cx, .bool dx, .slice Bx mx ex])) rfl fun K hK => ?_; clear hd; simp only [frD] at hK ⊢; go_simp
                 exact hK _ _ bl rfl
                | 1, _ =>
                 refine sc (A := #[.int .i64 1]) (B := #[.int .i64 1]) [] (fun vF wF => RatRep wF vF (((1 : Int) : Rat))) rfl (wanted_none rfl) rfl Tryz.func42 ?_
                 refine ((whole_num 1 (by omega) (by omega))).mono ?_; rintro e w4 ⟨U, rfl, hr, hk4⟩; exact ⟨_, rfl, hk4, hr⟩
                | 2, _ =>
                 have qe0 : (vs 0) = .agg #[.bool bx, .slice Ax nx cx, .bool dx, .slice Bx mx ex] := hdk hd 0; have h1 : RatRep w3 (vs 1) (((1 : Int) : Rat)) := hdk hd 1
                 refine sc (A := #[(vs 0), (vs 1)]) (B := #[.agg #[.bool bx, .slice Ax nx cx, .bool dx, .slice Bx mx ex], (vs 1)]) [(0, some 101), (1, some 102)] (ve (.int .i64 s1)) rfl (wanted_none rfl) (by rw [qe0]) Tryz.func47 ?_
                 refine ((fcompare_s (S3.ri 0 rfl) (h1.num (by omega)) HS1.out)).mono ?_; rintro e w4 ⟨rfl, hk4⟩; exact ⟨_, rfl, hk4, rfl⟩
                | i + 3, hi => exact absurd hi (by omega)
               ·intro vs W42 hk3 hΦ _
                simp only [List.drop_succ_cons, List.drop_zero]
                rw [fr_frD, show (List.range 3).map _ = [(0, some 101), (1, some 102), (2, some 103)] by kernel_rfl]
                have pi0 : (vs 0) = .agg #[.bool bx, .slice Ax nx cx, .bool dx, .slice Bx mx ex] := hΦ 0 (by decide)
                have pi1 : RatRep W42 (vs 1) (((1 : Int) : Rat)) := hΦ 1 (by decide)
                have pi2 : (vs 2) = .int .i64 s1 := hΦ 2 (by decide)
                clear hΦ
                simp only [frD, pi0, pi2]
                simp only [Act.put, List.setIfInBounds_toArray, List.set_cons_zero, List.set_cons_succ]
                clear pi0 pi2
                generalize vs 1 = Upi1 at pi1 ⊢
                replace S := S.drew.below hk3
                clear pi1
                clear hk3
                rcases Bool.eq_false_or_eq_true (decide (0 < s1)) with t2 | t2
                ·skip
                 go_wp2
                 go_ret
                 exact ⟨by rw [HBAD.out (by have h1 := of_decide_eq_true t2; rw [← HS1.out] at h1; exact Rat.not_le.2 ((cmpR_pos _ _).1 h1))]; rfl, S.k⟩
                ·skip
                 go_wp2
                 have HN1 := Lib.hid (HGOOD.out (by have h1 := of_decide_eq_false t2; rw [← HS1.out] at h1; exact Rat.not_lt.1 fun h => h1 ((cmpR_pos _ _).2 h)))
                 go_roundw
                 case rel => exact ⟨k + 1, by omega, by go_num, HN1, S.dropb.onlyL⟩
                 case measure => simp [intOf]; omega
              ·have hkI : ¬ (k : Int) < s.rd.length := by omega
               have t1 : decide ((k : Int) < (s.rd.length : Int)) = false := decide_eq_false hkI
               obtain rfl : k = s.rd.length := by omega
               have HE : Hid (formB s = true) := Lib.hid (by rw [HFM2.out, ← HA.out, List.take_length])
               go_wp2
               go_ret
               exact ⟨by rw [HE.out]; rfl, S.k⟩
end Go.Proofs.YtgcigdahjabimaaGreatDoor
