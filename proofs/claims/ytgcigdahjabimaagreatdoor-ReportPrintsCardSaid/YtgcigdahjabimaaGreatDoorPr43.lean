/- formed: the walk. -/
import Derived.Test.YtgcigdahjabimaaGreatDoorPr42
import Derived.Test.YtgcigdahjabimaaGreatDoorPr32
namespace Go.Proofs.YtgcigdahjabimaaGreatDoor
open Go.RowKit Go.Shelf
def CapOk (V : Value) : Prop := ∀ cs : Array Value, V = .agg cs → ∀ (i n c : Nat), cs[i]? = some (.slice none n c) → c = 0
def catL (s : Sm) : List QV := [s.rd, s.sx, [s.ob, s.sg]].flatten
theorem form_cat (s : Sm) : formB s = (headB s && (catL s).all posB && !(s.rd.any fun x => decide (1 < x.1))) := by
 have h : (s.rd.all fun x => decide (x.1 ≤ 1)) = !(s.rd.any fun x => decide (1 < x.1)) := by
  rw [List.not_any_eq_all_not]
  congr 1
  funext x
  rw [Bool.eq_iff_iff]
  simp only [decide_eq_true_eq, Bool.not_eq_true', decide_eq_false_iff_not, Rat.not_lt]
 unfold formB catL
 rw [h]
 simp [List.all_append, Bool.and_assoc]
set_option maxRecDepth 100000 in
set_option maxHeartbeats 2000000 in
theorem formed_big {w : World} {V : Value} {s : Sm} (h : SmArg w V s) (hcap : CapOk V) (hz : SmSz s) (l12 : s.rd.length ≤ 1024) (m12 : s.sx.length ≤ 1024) : Calls Tryz.prog 24 #[V] w fun e w' => e = .returned (.bool (formB s)) ∧ Keeps w w' := by
 obtain ⟨o0, o1, o2, o3, p0, p1, p2, p3, A, B, c, d, rfl, h1, h2, h3, h4, h5, h6⟩ := h
 obtain ⟨b3, A3, n3, c3, d3, B3, m3, e3, rfl, rfl, rfl, rfl⟩ := h1.open4
 obtain ⟨b4, A4, n4, c4, d4, B4, m4, e4, rfl, rfl, rfl, rfl⟩ := h2.open4
 have HCA : Hid (A = none → c = 0) := Lib.hid fun e => by subst e; exact hcap _ rfl 14 _ c rfl
 have HCB : Hid (B = none → d = 0) := Lib.hid fun e => by subst e; exact hcap _ rfl 15 _ d rfl
 have S := (St.start w).alloc 49 (smL s (.bool b3) (.slice A3 n3 c3) (.bool d3) (.slice B3 m3 e3) (.bool b4) (.slice A4 n4 c4) (.bool d4) (.slice B4 m4 e4) A B c d)
 obtain ⟨W0, hW0, S⟩ := S.pack
 have H1 := Lib.hid h1
 have H2 := Lib.hid h2
 have H3 := Lib.hid h3
 have H4 := Lib.hid h4
 have HZR := Lib.hid hz.2.2.1
 have hl3 : (s.rd.length : Int) ≤ 1024 := by omega
 have hl4 : (s.sx.length : Int) ≤ 1024 := by omega
 have HFM := Lib.hid (form_cat s)
 have HHD : Hid (headB s = ((s.dim == 2 || s.dim == 3) && cntB s.st && cntB s.pt && cntB s.rw_ && cntB s.fr && cntB s.rk && ((s.rd.length : Int) == s.rw_) && ((s.sx.length : Int) == s.rw_) && decide (-1 ≤ s.wo) && decide (s.wo < s.rw_))) := Lib.hid rfl
 clear h1 h2 h3 h4 h5 h6 hz hcap
 have x0 := S.c 0 0 rfl rfl
 have x1 := S.c 0 1 rfl rfl
 have x2 := S.c 0 2 rfl rfl
 have x3 := S.c 0 3 rfl rfl
 have x4 := S.c 0 4 rfl rfl
 have x5 := S.c 0 5 rfl rfl
 have x6 := S.c 0 6 rfl rfl
 have x7 := S.c 0 7 rfl rfl
 have x8 := S.c 0 8 rfl rfl
 have x9 := S.c 0 9 rfl rfl
 have x10 := S.c 0 10 rfl rfl
 have x11 := S.c 0 11 rfl rfl
 have x12 := S.c 0 12 rfl rfl
 have x13 := S.c 0 13 rfl rfl
 have x14 := S.c 0 14 rfl rfl
 have x15 := S.c 0 15 rfl rfl
 have x16 := S.c 0 16 rfl rfl
 go_enter Tryz.func24, Tryz.ntmps24
 go_wp2
 replace S := S.alloc 3 [.int .i64 s.st, .int .i64 s.pt, .int .i64 s.rw_, .int .i64 s.fr, .int .i64 s.rk]
 obtain ⟨W1, eW, S⟩ := S.pack
 rw [eW]
 clear eW hW0 x0 x1 x2 x3 x4 x5 x6 x7 x8 x9 x10 x11 x12 x13 x14 x15 x16
 generalize W0.heap.size = P6 at *
 have hns : ∀ k, k < 5 → [s.st, s.pt, s.rw_, s.fr, s.rk][k]? = some ([s.st, s.pt, s.rw_, s.fr, s.rk].getD k 0) ∧ [Value.int .i64 s.st, .int .i64 s.pt, .int .i64 s.rw_, .int .i64 s.fr, .int .i64 s.rk][k]? = some (.int .i64 ([s.st, s.pt, s.rw_, s.fr, s.rk].getD k 0)) := fun k hk => by
  have : k = 0 ∨ k = 1 ∨ k = 2 ∨ k = 3 ∨ k = 4 := by omega
  rcases this with rfl | rfl | rfl | rfl | rfl <;> exact ⟨rfl, rfl⟩
 have HNS := Lib.hid hns
 clear hns
 have HN5 : Hid ([s.st, s.pt, s.rw_, s.fr, s.rk].all cntB = false → formB s = false) := Lib.hid fun h => by
  have : headB s = false := by
   rw [HHD.out]
   simp only [List.all_cons, List.all_nil, Bool.and_true] at h
   cases h1 : cntB s.st <;> cases h2 : cntB s.pt <;> cases h3 : cntB s.rw_ <;> cases h4 : cntB s.fr <;> cases h5 : cntB s.rk <;> simp_all
  rw [HFM.out, this]
  rfl
 obtain ⟨ns, hns⟩ : ∃ ns, [s.st, s.pt, s.rw_, s.fr, s.rk] = ns := ⟨_, rfl⟩
 have HNE := Lib.hid hns
 rw [hns] at HNS HN5
 go_loopw [19] (fun i wr => ∃ k : Nat, k ≤ 5 ∧ i = .int .i64 (k : Nat) ∧ Hid ((ns.take k).all cntB = true) ∧ St w wr [(P6, 3, [.int .i64 s.st, .int .i64 s.pt, .int .i64 s.rw_, .int .i64 s.fr, .int .i64 s.rk]), (w.heap.size, 49, smL s (.bool b3) (.slice A3 n3 c3) (.bool d3) (.slice B3 m3 e3) (.bool b4) (.slice A4 n4 c4) (.bool d4) (.slice B4 m4 e4) A B c d)] []) (fun i _ => 5 - (intOf i).toNat)
 case atStart => exact ⟨0, Nat.zero_le _, rfl, Lib.hid rfl, S⟩
 case round =>
  clear S
  obtain ⟨k, hk, rfl, HA, S⟩ := hrel
  by_cases hlt : k < 5
  ·have hkI : (k : Int) < 5 := by omega
   have t1 : decide ((k : Int) < 5) = true := decide_eq_true hkI
   obtain ⟨hq, hv⟩ := HNS.out k hlt
   have y0 := S.c 0 k rfl hv
   have HGO : Hid (0 ≤ ns.getD k 0 → ns.getD k 0 ≤ 1024 → (ns.take (k + 1)).all cntB = true) := Lib.hid fun h1 h2 => by
    rw [List.take_add_one, List.all_append, HA.out, hq]
    show (true && (cntB (ns.getD k 0) && true)) = true
    unfold cntB
    rw [decide_eq_true h1, decide_eq_true h2]
    rfl
   have HBA : Hid (¬ (0 ≤ ns.getD k 0 ∧ ns.getD k 0 ≤ 1024) → formB s = false) := Lib.hid fun h => HN5.out (by
    rw [List.all_eq_false]
    refine ⟨_, List.mem_of_getElem? hq, ?_⟩
    unfold cntB
    simp only [Bool.and_eq_true, decide_eq_true_eq]
    exact h)
   generalize ns.getD k 0 = v at *
   clear hq hv hns
   by_cases hv0 : v < 0
   ·have q1 : decide (v < 0) = true := decide_eq_true hv0
    have HE := Lib.hid (HBA.out (by omega))
    clear hv0
    go_wp2
    go_ret
    exact ⟨by rw [HE.out]; rfl, S.k⟩
   ·have q1 : decide (v < 0) = false := decide_eq_false hv0
    by_cases hv1 : 1024 < v
    ·have q2 : decide (1024 < v) = true := decide_eq_true hv1
     have HE := Lib.hid (HBA.out (by omega))
     clear hv0 hv1
     go_wp2
     go_ret
     exact ⟨by rw [HE.out]; rfl, S.k⟩
    ·have q2 : decide (1024 < v) = false := decide_eq_false hv1
     have HE := Lib.hid (HGO.out (by omega) (by omega))
     clear hv0 hv1
     go_wp2
     go_roundw
     case rel => exact ⟨k + 1, by omega, by go_num, HE, S⟩
     case measure => simp [intOf]; omega
  ·have hkI : ¬ (k : Int) < 5 := by omega
   have t1 : decide ((k : Int) < 5) = false := decide_eq_false hkI
   obtain rfl : k = 5 := by omega
   have hhd := HHD.out
   have hns5 : (ns.take 5).all cntB = (cntB s.st && cntB s.pt && cntB s.rw_ && cntB s.fr && cntB s.rk) := by rw [← HNE.out]; simp [Bool.and_assoc]
   have hh2 : headB s = ((s.dim == 2 || s.dim == 3) && ((s.rd.length : Int) == s.rw_) && ((s.sx.length : Int) == s.rw_) && decide (-1 ≤ s.wo) && decide (s.wo < s.rw_)) := by
    have h5 := HA.out
    rw [hns5] at h5
    simp only [Bool.and_eq_true] at h5
    obtain ⟨⟨⟨⟨a1, a2⟩, a3⟩, a4⟩, a5⟩ := h5
    rw [hhd, a1, a2, a3, a4, a5]
    simp
   replace S := S.dropb
   have HH2 := Lib.hid hh2
   clear hhd hns5 hh2 hns HA HHD HNS HN5 HNE
   have x0 := S.c 0 0 rfl rfl
   have x1 := S.c 0 1 rfl rfl
   have x2 := S.c 0 2 rfl rfl
   have x3 := S.c 0 3 rfl rfl
   have x4 := S.c 0 4 rfl rfl
   have x5 := S.c 0 5 rfl rfl
   have x6 := S.c 0 6 rfl rfl
   have x7 := S.c 0 7 rfl rfl
   have x8 := S.c 0 8 rfl rfl
   have x9 := S.c 0 9 rfl rfl
   have x10 := S.c 0 10 rfl rfl
   have x11 := S.c 0 11 rfl rfl
   have x12 := S.c 0 12 rfl rfl
   have x13 := S.c 0 13 rfl rfl
   have x14 := S.c 0 14 rfl rfl
   have x15 := S.c 0 15 rfl rfl
   have x16 := S.c 0 16 rfl rfl
   go_upto_region 7 with fail
   go_cut [65] (fun g wx => g = .bool (!((s.dim == 2 || s.dim == 3) && ((s.rd.length : Int) == s.rw_) && ((s.sx.length : Int) == s.rw_) && decide (-1 ≤ s.wo) && decide (s.wo < s.rw_))) ∧ wx = wr)
   case first =>
    clear HFM HH2 HZR H1 H2 H3 H4 HCA HCB x1 x2 x4 x5 x6 x7 x8 x9 x10 x11 x12 x13 S
    by_cases a2 : s.dim = 2
    ·have q1 : (s.dim != 2) = false := by simp [a2]
     by_cases l1 : (s.rd.length : Int) = s.rw_
     ·have q3 : ((s.rd.length : Int) != s.rw_) = false := by simp [l1]
      by_cases l2 : (s.sx.length : Int) = s.rw_
      ·have q4 : ((s.sx.length : Int) != s.rw_) = false := by simp [l2]
       by_cases l3 : s.wo < -1
       ·have q5 : decide (s.wo < -1) = true := decide_eq_true l3
        have q6 : decide (-1 ≤ s.wo) = false := decide_eq_false (by omega)
        go_wp2; go_meet; (case rel => exact ⟨by simp [*], rfl⟩)
       ·have q5 : decide (s.wo < -1) = false := decide_eq_false l3
        have q6 : decide (-1 ≤ s.wo) = true := decide_eq_true (by omega)
        by_cases l4 : s.rw_ ≤ s.wo
        ·have q7 : decide (s.rw_ ≤ s.wo) = true := decide_eq_true l4
         have q8 : decide (s.wo < s.rw_) = false := decide_eq_false (by omega)
         go_wp2; go_meet; (case rel => exact ⟨by simp [*], rfl⟩)
        ·have q7 : decide (s.rw_ ≤ s.wo) = false := decide_eq_false l4
         have q8 : decide (s.wo < s.rw_) = true := decide_eq_true (by omega)
         go_wp2; go_meet; (case rel => exact ⟨by simp [*], rfl⟩)
      ·have q4 : ((s.sx.length : Int) != s.rw_) = true := by simp [l2]
       have q5 : ((s.sx.length : Int) == s.rw_) = false := by simp [l2]
       go_wp2; go_meet; (case rel => exact ⟨by simp [*], rfl⟩)
     ·have q3 : ((s.rd.length : Int) != s.rw_) = true := by simp [l1]
      have q5 : ((s.rd.length : Int) == s.rw_) = false := by simp [l1]
      go_wp2; go_meet; (case rel => exact ⟨by simp [*], rfl⟩)
    ·by_cases a3 : s.dim = 3
     ·have q1 : (s.dim != 2) = true := by simp [a2]
      have q2 : (s.dim != 3) = false := by simp [a3]
      by_cases l1 : (s.rd.length : Int) = s.rw_
      ·have q3 : ((s.rd.length : Int) != s.rw_) = false := by simp [l1]
       by_cases l2 : (s.sx.length : Int) = s.rw_
       ·have q4 : ((s.sx.length : Int) != s.rw_) = false := by simp [l2]
        by_cases l3 : s.wo < -1
        ·have q5 : decide (s.wo < -1) = true := decide_eq_true l3
         have q6 : decide (-1 ≤ s.wo) = false := decide_eq_false (by omega)
         go_wp2; go_meet; (case rel => exact ⟨by simp [*], rfl⟩)
        ·have q5 : decide (s.wo < -1) = false := decide_eq_false l3
         have q6 : decide (-1 ≤ s.wo) = true := decide_eq_true (by omega)
         by_cases l4 : s.rw_ ≤ s.wo
         ·have q7 : decide (s.rw_ ≤ s.wo) = true := decide_eq_true l4
          have q8 : decide (s.wo < s.rw_) = false := decide_eq_false (by omega)
          go_wp2; go_meet; (case rel => exact ⟨by simp [*], rfl⟩)
         ·have q7 : decide (s.rw_ ≤ s.wo) = false := decide_eq_false l4
          have q8 : decide (s.wo < s.rw_) = true := decide_eq_true (by omega)
          go_wp2; go_meet; (case rel => exact ⟨by simp [*], rfl⟩)
       ·have q4 : ((s.sx.length : Int) != s.rw_) = true := by simp [l2]
        have q5 : ((s.sx.length : Int) == s.rw_) = false := by simp [l2]
        go_wp2; go_meet; (case rel => exact ⟨by simp [*], rfl⟩)
      ·have q3 : ((s.rd.length : Int) != s.rw_) = true := by simp [l1]
       have q5 : ((s.rd.length : Int) == s.rw_) = false := by simp [l1]
       go_wp2; go_meet; (case rel => exact ⟨by simp [*], rfl⟩)
     ·have q1 : (s.dim != 2) = true := by simp [a2]
      have q2 : (s.dim != 3) = true := by simp [a3]
      go_wp2; go_meet; (case rel => exact ⟨by simp [*], rfl⟩)
   case rest =>
    obtain ⟨rfl, rfl⟩ := hcut
    rw [← HH2.out]
    obtain ⟨hb, hhb⟩ : ∃ b, headB s = b := ⟨_, rfl⟩
    have hfm := HFM.out
    rw [hhb] at hfm ⊢
    have HFM2 := Lib.hid hfm
    clear HFM HH2 hhb hfm
    cases hb with
    | false =>
     go_wp2
     go_ret
     exact ⟨by rw [HFM2.out]; rfl, S.k⟩
    | true =>
     go_wp2_with fail
     replace S := S.alloc 31 [.bool b3, .slice A3 n3 c3, .bool d3, .slice B3 m3 e3, .bool b4, .slice A4 n4 c4, .bool d4, .slice B4 m4 e4]
     replace S := S.alloc 34 [.slice A s.rd.length c, .slice B s.sx.length d, .slice (some ⟨wc.heap.size, 0, none⟩) 2 2]
     simp only [World.size_alloc] at S
     obtain ⟨W4, eW, S⟩ := S.pack
     rw [eW]
     clear eW
     have hrq : RowsQ W4 (wc.heap.size + 1) [s.rd, s.sx, [s.ob, s.sg]] := fun j l hj => by
      match j, hj with
      | 0, hj =>
       obtain rfl : s.rd = l := by simpa using hj
       exact ⟨A, c, S.c 0 0 rfl rfl, H3.out.below lasts_v S.k, HCA.out⟩
      | 1, hj =>
       obtain rfl : s.sx = l := by simpa using hj
       exact ⟨B, d, S.c 0 1 rfl rfl, H4.out.below lasts_v S.k, HCB.out⟩
      | 2, hj =>
       obtain rfl : [s.ob, s.sg] = l := by simpa using hj
       exact ⟨some ⟨wc.heap.size, 0, none⟩, 2, S.c 0 2 rfl rfl, two_row (S.o 1 rfl) (lasts_v _ _ _ _ S.k H1.out) (lasts_v _ _ _ _ S.k H2.out), fun e => by cases e⟩
      | j + 3, hj => simp at hj
     have hfl : [s.rd, s.sx, [s.ob, s.sg]].flatten.length = s.rd.length + s.sx.length + 2 := by simp; omega
     have HCT := Lib.hid (concatq_any (c := 3) hrq (S.o 0 rfl).lt (by simp) (by omega) (by omega))
     have HFN : Hid ((catL s).length = s.rd.length + s.sx.length + 2) := Lib.hid hfl
     have HCL : Hid (∀ l u, CatP l [s.rd, s.sx, [s.ob, s.sg]].flatten u = CatP l (catL s) u) := Lib.hid fun _ _ => rfl
     clear hrq hfl
     refine HCT.out.mono ?_
     rintro e W5 ⟨A9, c9, rfl, hr9, hk5⟩
     have HR9 : Hid (Row4 RatV2 W5 A9 (catL s)) := Lib.hid hr9
     replace S := (S.below hk5).dropb.dropb
     have hfn : [s.rd, s.sx, [s.ob, s.sg]].flatten.length = s.rd.length + s.sx.length + 2 := HFN.out
     rw [hfn]
     clear hr9 hk5 HCT HCL hfn
     obtain ⟨N, hN⟩ : ∃ N, s.rd.length + s.sx.length + 2 = N := ⟨_, rfl⟩
     have hNI : (N : Int) ≤ 3000 := by omega
     rw [hN] at HFN ⊢
     clear hN
     go_wp2
     obtain ⟨L, hL⟩ : ∃ L, catL s = L := ⟨_, rfl⟩
     rw [hL] at HFM2 HR9 HFN
     clear hL
     go_loopw [78] (fun i wr => ∃ k : Nat, k ≤ N ∧ i = .int .i64 (k : Nat) ∧ Hid ((L.take k).all posB = true) ∧ Keeps W5 wr ∧ St w wr [(w.heap.size, 49, smL s (.bool b3) (.slice A3 n3 c3) (.bool d3) (.slice B3 m3 e3) (.bool b4) (.slice A4 n4 c4) (.bool d4) (.slice B4 m4 e4) A B c d)] []) (fun i _ => N - (intOf i).toNat)
     case atStart => exact ⟨0, Nat.zero_le _, rfl, Lib.hid rfl, Below.refl _ _, S⟩
     case round =>
      clear S
      obtain ⟨k, hk, rfl, HA, hkw, S⟩ := hrel
      by_cases hlt : k < N
      ·have hkI : (k : Int) < (N : Int) := by omega
       have t1 : decide ((k : Int) < (N : Int)) = true := decide_eq_true hkI
       obtain ⟨⟨q, vb⟩, hq⟩ : ∃ x, L[k]? = some x := ⟨_, List.getElem?_eq_getElem (by rw [HFN.out]; exact hlt)⟩
       obtain ⟨B9, o9, x0, x1, x2, x3, rfl, hc, hx⟩ := HR9.out.get lasts_v hq
       obtain ⟨b5, A5, n5, c5, d5, B5, m5, e5, rfl, rfl, rfl, rfl⟩ := (hx W5 bl).open4
       have HX : Hid (∀ W, Keeps W5 W → RatV W (.agg #[.bool b5, .slice A5 n5 c5, .bool d5, .slice B5 m5 e5]) q vb) := Lib.hid hx
       have HS : Hid (posB (q, vb) = true → (L.take (k + 1)).all posB = true) := Lib.hid fun h => all_snoc hq HA.out h
       have HF : Hid (posB (q, vb) = false → formB s = false) := Lib.hid fun h => by rw [HFM2.out, all_not hq h]; rfl
       obtain ⟨g0, g1, g2, g3⟩ := hc wr hkw
       clear hc hx hq HA
       go_upto_region 12 with fail
       replace S := S.alloc 31 [.bool b5, .slice A5 n5 c5, .bool d5, .slice B5 m5 e5]
       have hkw2 := hkw.trans' (box2 wr (.cells #[.bool b5, .slice A5 n5 c5, .bool d5, .slice B5 m5 e5] 31))
       obtain ⟨W6, eW, S⟩ := S.pack
       rw [eW] at hkw2 ⊢
       clear eW g0 g1 g2 g3
       obtain ⟨r0, r1, r2, r3⟩ := S.cc4 0 rfl
       go_wp2_with fail
       refine (gvalid_v (HX.out _ hkw2)).mono ?_
       rintro e W7 ⟨rfl, hk7⟩
       replace S := S.below hk7
       have hkw3 := hkw2.trans' hk7
       clear hk7 r0 r1 r2 r3 hkw2
       cases vb with
       | false =>
        have HE := Lib.hid (HF.out rfl)
        go_wp2
        go_ret
        exact ⟨by rw [HE.out]; rfl, S.k⟩
       | true =>
        obtain ⟨r0, r1, r2, r3⟩ := S.cc4 0 rfl
        obtain ⟨sg, hs⟩ : ∃ s, q.num.sign = s := ⟨_, rfl⟩
        have HSG := Lib.hid hs
        have hsq : Hid (sg < 0 ↔ q < 0) := Lib.hid (by rw [← hs]; exact rsgn_neg q)
        clear hs
        go_wp2_with fail
        refine (gsign_s (HX.out _ hkw3).num HSG.out).mono ?_
        rintro e W8 ⟨rfl, hk8⟩
        replace S := (S.below hk8).dropb
        have hkw4 := hkw3.trans' hk8
        clear hk8 r0 r1 r2 r3 hkw3
        by_cases hs0 : sg < 0
        ·have HE := Lib.hid (HF.out (by unfold posB; simp; exact Rat.not_le.2 (hsq.out.1 hs0)))
         have t2 : decide (sg < 0) = true := decide_eq_true hs0
         go_wp2
         go_ret
         exact ⟨by rw [HE.out]; rfl, S.k⟩
        ·have HE := Lib.hid (HS.out (by unfold posB; simp; exact Rat.not_lt.1 fun h => hs0 (hsq.out.2 h)))
         have t2 : decide (sg < 0) = false := decide_eq_false hs0
         go_wp2
         go_roundw
         case rel => exact ⟨k + 1, by omega, by go_num, HE, hkw4, S⟩
         case measure => simp [intOf]; omega
      ·have hkI : ¬ (k : Int) < (N : Int) := by omega
       have t1 : decide ((k : Int) < (N : Int)) = false := decide_eq_false hkI
       obtain rfl : k = N := by omega
       have HFE : Hid (formB s = !(s.rd.any fun x => decide (1 < x.1))) := Lib.hid (by
        have := HA.out
        rw [List.take_of_length_le (by rw [HFN.out]; exact Nat.le_refl _)] at this
        rw [HFM2.out, this]
        rfl)
       have HM := Lib.hid (fm1_c (c := c) (H3.out.below lasts_v S.k) rfl (by simp only [maxLen]; omega) (fun x => decide (1 < x.1)) (formed1_any wr HZR.out))
       obtain ⟨bb, hbb⟩ : ∃ b, (s.rd.any fun x => decide (1 < x.1)) = b := ⟨_, rfl⟩
       rw [hbb] at HFE HM
       clear hbb
       have x14 := S.c 0 14 rfl rfl
       go_wp2_with fail
       refine HM.out.mono ?_
       rintro e W9 ⟨rfl, hk9⟩
       go_wp2
       go_ret
       exact ⟨by rw [HFE.out]; rfl, S.k.trans' hk9⟩
theorem formed_any {w : World} {V : Value} {s : Sm} (h : SmArg w V s) (hcap : CapOk V) (hz : SmSz s) (l12 : s.rd.length ≤ 12) (m12 : s.sx.length ≤ 12) : Calls Tryz.prog 24 #[V] w fun e w' => e = .returned (.bool (formB s)) ∧ Keeps w w' :=
 formed_big h hcap hz (by omega) (by omega)
end Go.Proofs.YtgcigdahjabimaaGreatDoor
