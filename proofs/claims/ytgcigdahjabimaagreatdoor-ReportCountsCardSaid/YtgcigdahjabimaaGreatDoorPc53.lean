/- The order of ReportCounts, and stable sorting of few ints: the walks. ReportCounts, plainly: what Histogram and Above hand back, against the law's own counting. No program in sight. The rows' last step, for every law of fractions: the arguments opened, read anew behind the call. The rows' last step, for the laws of reports: the arguments opened. -/
import Derived.Test.YtgcigdahjabimaaGreatDoorPc44
import Derived.Test.YtgcigdahjabimaaGreatDoorPc33
import Derived.Test.YtgcigdahjabimaaGreatDoorPc50
import Derived.Test.YtgcigdahjabimaaGreatDoorPc34
import Derived.Lib.SmallJoins
import Derived.Carry
import Derived.ChangeSame
import Derived.SizedLaws
import Derived.Test.YtgcigdahjabimaaGreatDoorPc52
import Derived.Test.YtgcigdahjabimaaGreatDoorPc49
import Derived.Test.YtgcigdahjabimaaGreatDoorCards
import Derived.Test.YtgcigdahjabimaaGreatDoorTie
import Derived.ProofKit
import Derived.OpenShut
import Derived.Deep.Slices
import Derived.Deep.DeepHandedRow
import Derived.Deep.DeepWitnessRowRef
import Derived.Deep.DeepLaidRun
import Derived.Lib.LaidTab
namespace Go.Proofs.YtgcigdahjabimaaGreatDoor
open Go.RowKit Go.Shelf
def lawF (s : Sm) (x y : Int) : Int := cmpR (sxq s y) (sxq s x)
theorem abvF_lawF (s : Sm) (x y : Int) (h : y < x) : abvF s x y < 0 ↔ lawF s x y < 0 := by
 unfold abvF lawF
 split
 ·rename_i h0; rw [h0]; omega
 ·rfl
set_option maxRecDepth 100000 in
set_option maxHeartbeats 1000000 in
theorem lawcmp_any {w : World} {bp : Nat} {s : Sm} {o0 o1 o2 o3 p0 p1 p2 p3 : Value} {A B : Option Addr} {c d : Nat} (hO : Own w bp 49 (smL s o0 o1 o2 o3 p0 p1 p2 p3 A B c d)) (h4 : Row4 RatV2 w B s.sx) (h6 : s.sx.length ≤ 1024)
 (hz : ∀ x ∈ s.sx, szR x.1 ≤ 1000) {ki kj : Nat} (hi : ki < s.sx.length) (hj : kj < s.sx.length) :
 Calls Tryz.prog 29 #[.int .i64 (ki : Nat), .int .i64 (kj : Nat), .pointer (some ⟨bp, 0, none⟩)] w fun e w' => e = .returned (.int .i64 (lawF s ki kj)) ∧ Keeps w w' := by
 obtain ⟨⟨qi, vi⟩, hqi⟩ : ∃ x, s.sx[ki]? = some x := ⟨_, List.getElem?_eq_getElem hi⟩
 obtain ⟨⟨qj, vj⟩, hqj⟩ : ∃ x, s.sx[kj]? = some x := ⟨_, List.getElem?_eq_getElem hj⟩
 have hf : lawF s ki kj = cmpR qj qi := by
  unfold lawF sxq
  simp only [Int.toNat_natCast, List.getD, hqi, hqj, Option.getD_some]
 have HF := Lib.hid hf
 obtain ⟨Bs, os, u0, u1, u2, u3, hA1, hc1, hx1⟩ := h4.get lasts_v hqi
 obtain ⟨B2, o2', v0, v1, v2, v3, hA2, hc2, hx2⟩ := h4.get lasts_v hqj
 subst hA1
 cases hA2
 obtain ⟨bx, Ax, nx, cx, dx, Bx, mx, ex, rfl, rfl, rfl, rfl⟩ := (hx1 w bl).open4
 obtain ⟨by', Ay, ny, cy, dy, Bz, my, ey, rfl, rfl, rfl, rfl⟩ := (hx2 w bl).open4
 have HB15 : Hid (∀ u, Keeps w u → u.cell? ⟨bp, 15, none⟩ = some (.slice (some ⟨Bs, os, none⟩) s.sx.length d)) := Lib.hid fun u hk => by rw [(hO.below hk).cell]; rfl
 have HC1 := Lib.hid hc1
 have HC2 := Lib.hid hc2
 have z1 := hz _ (List.mem_of_getElem? hqi)
 have z2 := hz _ (List.mem_of_getElem? hqj)
 have hX1 := (hx1 w bl).num'
 have hX2 := (hx2 w bl).num'
 simp only at hX1 hX2 z1 z2
 have S := ((St.start w).addR hX1).addR hX2
 have hiI : (ki : Int) < (s.sx.length : Int) := by omega
 have hjI : (kj : Int) < (s.sx.length : Int) := by omega
 have hl6 : (s.sx.length : Int) ≤ 1024 := by omega
 generalize s.sx.length = n at *
 clear hO h4 h6 hz hqi hqj hf hc1 hc2 hx1 hx2 hX1 hX2
 go_enter Tryz.func29, Tryz.ntmps29
 go_upto_region 1 with fail
 obtain ⟨s1, hs1⟩ : ∃ s, cmpR qj qi = s := ⟨_, rfl⟩
 have HS1 := Lib.hid hs1
 clear hs1
 go_upto_region 1 with fail
 refine wp_region_steps (m := 11) rfl (by kernel_rfl) (fun iF vF wF => (List.getD [ve (.pointer (some ⟨bp, 15, none⟩)), ve (.slice (some ⟨Bs, os, none⟩) n d), ve (.int .i64 (kj : Int)), ve (.pointer (some ⟨Bs, os + kj * 4, none⟩)), ve (.agg #[.bool by', .slice Ay ny cy, .bool dy, .slice Bz my ey]), ve (.pointer (some ⟨bp, 15, none⟩)), ve (.slice (some ⟨Bs, os, none⟩) n d), ve (.int .i64 (ki : Int)), ve (.pointer (some ⟨Bs, os + ki * 4, none⟩)), ve (.agg #[.bool bx, .slice Ax nx cx, .bool dx, .slice Bx mx ex]), ve (.int .i64 s1)] iF (fun _ _ => True)) vF wF) [] ?_ ?_ ?_
 ·intro i v w w' _ h hk
  refine stabL_get ?_ i v w w' h hk
  exact stab_cons st_e (stab_cons st_e (stab_cons st_e (stab_cons st_e (stab_cons st_e (stab_cons st_e (stab_cons st_e (stab_cons st_e (stab_cons st_e (stab_cons st_e (stab_cons st_e stab_nil))))))))))
 ·intro i hi vs w3 hk3 hd
  have S3 := S.drew.below hk3
  have a15 := HB15.out _ S3.k
  obtain ⟨g0, g1, g2, g3⟩ := HC1.out _ S3.k
  obtain ⟨y0, y1, y2, y3⟩ := HC2.out _ S3.k
  match i, hi with
  | 0, _ =>
   refine sv0 [] (ve (.pointer (some ⟨bp, 15, none⟩))) rfl fun K hK => ?_; clear hd; simp only [frD] at hK ⊢; go_simp
   exact hK _ _ bl rfl
  | 1, _ =>
   have qe0 : (vs 0) = .pointer (some ⟨bp, 15, none⟩) := hdk hd 0
   refine sv0 [(0, some 6)] (ve (.slice (some ⟨Bs, os, none⟩) n d)) rfl fun K hK => ?_; clear hd; simp only [frD, qe0] at hK ⊢; go_simp
   exact hK _ _ bl rfl
  | 2, _ =>
   refine sv0 [] (ve (.int .i64 (kj : Int))) rfl fun K hK => ?_; clear hd; simp only [frD] at hK ⊢; go_simp
   exact hK _ _ bl rfl
  | 3, _ =>
   have qe1 : (vs 1) = .slice (some ⟨Bs, os, none⟩) n d := hdk hd 1; have qe2 : (vs 2) = .int .i64 (kj : Int) := hdk hd 2
   refine sv0 [(1, some 7), (2, some 8)] (ve (.pointer (some ⟨Bs, os + kj * 4, none⟩))) rfl fun K hK => ?_; clear hd; simp only [frD, qe1, qe2] at hK ⊢; go_simp
   exact hK _ _ bl rfl
  | 4, _ =>
   have qe3 : (vs 3) = .pointer (some ⟨Bs, os + kj * 4, none⟩) := hdk hd 3
   refine sv0 [(3, some 9)] (ve (.agg #[.bool by', .slice Ay ny cy, .bool dy, .slice Bz my ey])) rfl fun K hK => ?_; clear hd; simp only [frD, qe3] at hK ⊢; go_simp
   exact hK _ _ bl rfl
  | 5, _ =>
   refine sv0 [] (ve (.pointer (some ⟨bp, 15, none⟩))) rfl fun K hK => ?_; clear hd; simp only [frD] at hK ⊢; go_simp
   exact hK _ _ bl rfl
  | 6, _ =>
   have qe5 : (vs 5) = .pointer (some ⟨bp, 15, none⟩) := hdk hd 5
   refine sv0 [(5, some 11)] (ve (.slice (some ⟨Bs, os, none⟩) n d)) rfl fun K hK => ?_; clear hd; simp only [frD, qe5] at hK ⊢; go_simp
   exact hK _ _ bl rfl
  | 7, _ =>
   refine sv0 [] (ve (.int .i64 (ki : Int))) rfl fun K hK => ?_; clear hd; simp only [frD] at hK ⊢; go_simp
   exact hK _ _ bl rfl
  | 8, _ =>
   have qe6 : (vs 6) = .slice (some ⟨Bs, os, none⟩) n d := hdk hd 6; have qe7 : (vs 7) = .int .i64 (ki : Int) := hdk hd 7
   refine sv0 [(6, some 12), (7, some 13)] (ve (.pointer (some ⟨Bs, os + ki * 4, none⟩))) rfl fun K hK => ?_; clear hd; simp only [frD, qe6, qe7] at hK ⊢; go_simp
   exact hK _ _ bl rfl
  | 9, _ =>
   have qe8 : (vs 8) = .pointer (some ⟨Bs, os + ki * 4, none⟩) := hdk hd 8
   refine sv0 [(8, some 14)] (ve (.agg #[.bool bx, .slice Ax nx cx, .bool dx, .slice Bx mx ex])) rfl fun K hK => ?_; clear hd; simp only [frD, qe8] at hK ⊢; go_simp
   exact hK _ _ bl rfl
  | 10, _ =>
   have qe4 : (vs 4) = .agg #[.bool by', .slice Ay ny cy, .bool dy, .slice Bz my ey] := hdk hd 4; have qe9 : (vs 9) = .agg #[.bool bx, .slice Ax nx cx, .bool dx, .slice Bx mx ex] := hdk hd 9
   refine sc (A := #[(vs 4), (vs 9)]) (B := #[.agg #[.bool by', .slice Ay ny cy, .bool dy, .slice Bz my ey], .agg #[.bool bx, .slice Ax nx cx, .bool dx, .slice Bx mx ex]]) [(4, some 10), (9, some 15)] (ve (.int .i64 s1)) rfl (wanted_none rfl) (by rw [qe4, qe9]) Tryz.func18 ?_
   refine ((gcompare_s (S3.ri 0 rfl) (S3.ri 1 rfl) (by omega) HS1.out)).mono ?_; rintro e w4 ⟨rfl, hk4⟩; exact ⟨_, rfl, hk4, rfl⟩
  | i + 11, hi => exact absurd hi (by omega)
 ·intro vs W21 hk3 hΦ _
  simp only [List.drop_succ_cons, List.drop_zero]
  rw [fr_frD, show (List.range 11).map _ = [(0, some 6), (1, some 7), (2, some 8), (3, some 9), (4, some 10), (5, some 11), (6, some 12), (7, some 13), (8, some 14), (9, some 15), (10, some 16)] by kernel_rfl]
  have pd0 : (vs 0) = .pointer (some ⟨bp, 15, none⟩) := hΦ 0 (by decide)
  have pd1 : (vs 1) = .slice (some ⟨Bs, os, none⟩) n d := hΦ 1 (by decide)
  have pd2 : (vs 2) = .int .i64 (kj : Int) := hΦ 2 (by decide)
  have pd3 : (vs 3) = .pointer (some ⟨Bs, os + kj * 4, none⟩) := hΦ 3 (by decide)
  have pd4 : (vs 4) = .agg #[.bool by', .slice Ay ny cy, .bool dy, .slice Bz my ey] := hΦ 4 (by decide)
  have pd5 : (vs 5) = .pointer (some ⟨bp, 15, none⟩) := hΦ 5 (by decide)
  have pd6 : (vs 6) = .slice (some ⟨Bs, os, none⟩) n d := hΦ 6 (by decide)
  have pd7 : (vs 7) = .int .i64 (ki : Int) := hΦ 7 (by decide)
  have pd8 : (vs 8) = .pointer (some ⟨Bs, os + ki * 4, none⟩) := hΦ 8 (by decide)
  have pd9 : (vs 9) = .agg #[.bool bx, .slice Ax nx cx, .bool dx, .slice Bx mx ex] := hΦ 9 (by decide)
  have pd10 : (vs 10) = .int .i64 s1 := hΦ 10 (by decide)
  clear hΦ
  simp only [frD, pd0, pd1, pd2, pd3, pd4, pd5, pd6, pd7, pd8, pd9, pd10]
  simp only [Act.put, List.setIfInBounds_toArray, List.set_cons_zero, List.set_cons_succ]
  clear pd0 pd1 pd2 pd3 pd4 pd5 pd6 pd7 pd8 pd9 pd10
  replace S := S.drew.below hk3
  clear hk3
  go_wp2
  go_ret
  exact ⟨congrArg (fun z => Ending.returned (.int .i64 z)) (show s1 = lawF s ki kj by rw [HF.out, HS1.out]), S.k⟩
set_option maxRecDepth 100000 in
set_option maxHeartbeats 2000000 in
theorem stableI_any {w : World} {A : Option Addr} {c : Nat} {F : Value} {n : Nat} {R : World → Prop} (hn : n ≤ 12) (h : Calls Tryz.prog 111 #[.slice A n c, .int .i64 0, .int .i64 (n : Nat), F] w fun e w' => e = .returned (.tuple #[]) ∧ R w') :
 Calls Tryz.prog 69 #[.slice A n c, .int .i64 (n : Nat), F] w fun e w' => e = .returned (.tuple #[]) ∧ R w' := by
 have HI := Lib.hid h
 have hnI : (n : Int) < 20 := by omega
 have t1 : decide ((20 : Int) ≤ (n : Int)) = false := decide_eq_false (by omega)
 have t2 : decide ((20 : Int) < (n : Int)) = false := decide_eq_false (by omega)
 have t1n : (20 ≤ n) = False := eq_false (by omega)
 have t2n : (20 < n) = False := eq_false (by omega)
 clear h
 go_enter Tryz.func69, Tryz.ntmps69
 go_wp2
 go_loopw [7, 8] (fun a b wr => a = .int .i64 0 ∧ b = .int .i64 20 ∧ wr = w) (fun _ _ _ => 0)
 case atStart => exact ⟨rfl, rfl, rfl⟩
 case round =>
  obtain ⟨rfl, rfl, rfl⟩ := hrel
  go_wp2_with fail
  refine HI.out.mono ?_
  rintro e w1 ⟨rfl, hr1⟩
  go_wp2
  go_loop [6] (fun a => a = .int .i64 20) (fun _ => 0)
  case atStart => rfl
  case round =>
   subst hrel
   go_wp2
   refine bodyPost_end (results_none rfl _ _ _) rfl ?_
   exact ⟨rfl, hr1⟩
set_option maxRecDepth 100000 in
theorem sortStI_any {w : World} {A : Option Addr} {c : Nat} {F : Value} {n : Nat} {R : World → Prop} (hn : n ≤ 12) (h : Calls Tryz.prog 111 #[.slice A n c, .int .i64 0, .int .i64 (n : Nat), F] w fun e w' => e = .returned (.tuple #[]) ∧ R w') :
 Calls Tryz.prog 28 #[.slice A n c, F] w fun e w' => e = .returned (.tuple #[]) ∧ R w' := by
 have HS := Lib.hid (stableI_any hn h)
 have hnI : (n : Int) < 20 := by omega
 clear h
 go_enter Tryz.func28, Tryz.ntmps28
 go_wp2_with fail
 refine HS.out.mono ?_
 rintro e w1 ⟨rfl, hr1⟩
 go_wp2
 refine bodyPost_end (results_none rfl _ _ _) rfl ?_
 exact ⟨rfl, hr1⟩
set_option maxRecDepth 100000 in
set_option maxHeartbeats 4000000 in
theorem lcn_ins {w : World} {g n c m bp : Nat} {l : List Int} {rest : List Value} (f : Int → Int → Int) (D : Int → Prop) (hr : RowI w g l rest) (hn : n = l.length) (hm : m ≤ n) (hl : n ≤ 4096) (hd : ∀ x ∈ l, D x)
 (hc : ∀ u, Turn [g] w u → ∀ x y, D x → D y → Calls Tryz.prog 29 #[.int .i64 x, .int .i64 y, .pointer (some ⟨bp, 0, none⟩)] u fun e u' => e = .returned (.int .i64 (f x y)) ∧ Keeps u u') :
 Calls Tryz.prog 111 #[.slice (some ⟨g, 0, none⟩) n c, .int .i64 0, .int .i64 (m : Nat), .func (.func 29) #[] #[.pointer (some ⟨bp, 0, none⟩)]] w fun e w' => e = .returned (.tuple #[]) ∧ RowI w' g (srtI f m l) rest ∧ Turn [g] w w' := by
 have hnI : (n : Int) ≤ 4096 := by omega
 have hmI : (m : Int) ≤ n := by omega
 have HR := Lib.hid hr
 have HN := Lib.hid hn
 have HD := Lib.hid hd
 have HC := Lib.hid hc
 clear hr hn hd hc
 go_enter Tryz.func111, Tryz.ntmps111
 go_wp2
 go_loopw [8] (fun iv wr => ∃ k : Nat, 1 ≤ k ∧ (k ≤ m ∨ k = 1) ∧ iv = .int .i64 (k : Nat) ∧ Hid (RowI wr g (srtI f k l) rest) ∧ Turn [g] w wr) (fun i _ => 5000 - (intOf i).toNat)
 case atStart => exact ⟨1, Nat.le_refl _, .inr rfl, by first | rfl | go_num, HR, Turn.refl w⟩
 case round =>
  clear HR
  obtain ⟨k, hk1, hkm, rfl, HRK, hkt⟩ := hrel
  have hk4 : (k : Int) ≤ 4096 := by omega
  by_cases hlt : k < m
  ·have t1 : decide ((k : Int) < (m : Int)) = true := decide_eq_true (by omega)
   have t1' : (k : Int) < m := by omega
   have HK0 : Hid (bubI f k (srtI f k l) = srtI f (k + 1) l) := Lib.hid rfl
   have HKL : Hid ((srtI f k l).length = n) := Lib.hid (by rw [srtI_length, HN.out])
   have HKD : Hid (∀ x ∈ srtI f k l, D x) := Lib.hid (srtI_all f k l (.inl (by rw [← HN.out]; omega)) HD.out)
   clear hkm
   go_wp2
   go_loopw [9] (fun jv wr => ∃ (j : Nat) (L : List Int), j ≤ k ∧ jv = .int .i64 (j : Nat) ∧ Hid (RowI wr g L rest ∧ L.length = n ∧ ∀ x ∈ L, D x) ∧ Hid (bubI f j L = srtI f (k + 1) l) ∧ Turn [g] w wr) (fun j _ => (intOf j).toNat)
   case atStart => exact ⟨k, srtI f k l, Nat.le_refl _, rfl, Lib.hid ⟨HRK.out, HKL.out, HKD.out⟩, HK0, hkt⟩
   case round =>
    clear HRK hkt
    obtain ⟨j, L, hjk, rfl, HRL, HBU, hkt⟩ := hrel
    have hjI : (j : Int) ≤ (k : Int) := by omega
    cases j with
    | zero =>
     have HRE : Hid (RowI wr g (srtI f (k + 1) l) rest) := Lib.hid (by rw [← HBU.out]; exact HRL.out.1)
     go_wp2
     refine wp_region_steps (m := 17) rfl (by kernel_rfl) (si4bΦ ) [] ?_ ?_ ?_
     ·intro i v w w' hi h hk
      match i, hi with
      | 0, _ | 1, _ | 2, _ | 3, _ | 4, _ | 5, _ | 6, _ | 7, _ | 8, _ | 9, _ | 10, _ | 11, _ | 12, _ | 13, _ | 14, _ | 15, _ | 16, _ => exact h
      | i + 17, hi => exact absurd hi (by omega)
     ·intro i hi vs wph3 hk3 hd
      match i, hi with
      | 0, _ =>
       refine step_yes [] rfl (by kernel_rfl) fun K hK => ?_
       simp only [frD] at hK ⊢
       refine ⟨by rfl, ?_⟩
       go_simp
       exact hK _ _ ⟨Below.refl _ _, rfl, by simp⟩
      | 1, _ =>
       refine step_yes [] rfl (by kernel_rfl) fun K hK => ?_
       simp only [frD] at hK ⊢
       refine ⟨by rfl, ?_⟩
       go_simp
       exact hK _ _ ⟨Below.refl _ _, rfl, by simp⟩
      | 2, _ =>
       have e0 : vs 0 = .int .i64 0 := hd 0 (List.contains_iff_mem.1 (by kernel_rfl))
       have e1 : vs 1 = .int .i64 0 := hd 1 (List.contains_iff_mem.1 (by kernel_rfl))
       refine step_yes [(0, some 18), (1, some 19)] rfl (by kernel_rfl) fun K hK => ?_
       simp only [frD, e0, e1] at hK ⊢
       refine ⟨by rfl, ?_⟩
       go_simp
       exact hK _ _ ⟨Below.refl _ _, rfl, by simp⟩
      | 3, _ =>
       have e2 : vs 2 = .bool false := hd 2 (List.contains_iff_mem.1 (by kernel_rfl))
       refine step_yes [(2, some 20)] rfl (by kernel_rfl) fun K hK => ?_
       simp only [frD, e2] at hK ⊢
       refine ⟨by rfl, ?_⟩
       go_simp
       exact hK _ _ ⟨Below.refl _ _, rfl, by simp⟩
      | 4, _ =>
       have e3 : vs 3 = .bool false := hd 3 (List.contains_iff_mem.1 (by kernel_rfl))
       refine step_no (o := ⟨some 22, Op.move (Operand.tmp 3), 58, "zsortanyfunc.go:12", #[{ on := 3, ground := Ground.guard }], some (3, true)⟩) [(3, some 21)] (by kernel_rfl) (by kernel_rfl) (by simp only [frD, e3]; rfl) rfl (by simp)
      | 5, _ =>
       have e3 : vs 3 = .bool false := hd 3 (List.contains_iff_mem.1 (by kernel_rfl))
       refine step_no (o := ⟨some 23, Op.move (Operand.tmp 0), 43, "zsortanyfunc.go:12", #[{ on := 3, ground := Ground.guard }], some (3, true)⟩) [(3, some 21)] (by kernel_rfl) (by kernel_rfl) (by simp only [frD, e3]; rfl) rfl (by simp)
      | 6, _ =>
       have e3 : vs 3 = .bool false := hd 3 (List.contains_iff_mem.1 (by kernel_rfl))
       refine step_no (o := ⟨some 24, Op.move (Operand.tmp 9), 3, "zsortanyfunc.go:12", #[{ on := 3, ground := Ground.guard }], some (3, true)⟩) [(3, some 21)] (by kernel_rfl) (by kernel_rfl) (by simp only [frD, e3]; rfl) rfl (by simp)
      | 7, _ =>
       have e3 : vs 3 = .bool false := hd 3 (List.contains_iff_mem.1 (by kernel_rfl))
       have e5 : vs 5 = undef := hd 5 (List.contains_iff_mem.1 (by kernel_rfl))
       have e6 : vs 6 = undef := hd 6 (List.contains_iff_mem.1 (by kernel_rfl))
       refine step_no (o := ⟨some 25, Op.indexAddr 43 (Operand.tmp 23) (Operand.tmp 24), 0, "zsortanyfunc.go:12", #[{ on := 5, ground := Ground.data }, { on := 6, ground := Ground.data }, { on := 3, ground := Ground.guard }], some (3, true)⟩) [(3, some 21), (5, some 23), (6, some 24)] (by kernel_rfl) (by kernel_rfl) (by simp only [frD, e3, e5, e6]; rfl) rfl (by simp)
      | 8, _ =>
       have e3 : vs 3 = .bool false := hd 3 (List.contains_iff_mem.1 (by kernel_rfl))
       have e7 : vs 7 = undef := hd 7 (List.contains_iff_mem.1 (by kernel_rfl))
       refine step_no (o := ⟨some 26, Op.load 3 (Operand.tmp 25), 3, "zsortanyfunc.go:12", #[{ on := 7, ground := Ground.data }, { on := 3, ground := Ground.guard }], some (3, true)⟩) [(3, some 21), (7, some 25)] (by kernel_rfl) (by kernel_rfl) (by simp only [frD, e3, e7]; rfl) rfl (by simp)
      | 9, _ =>
       have e3 : vs 3 = .bool false := hd 3 (List.contains_iff_mem.1 (by kernel_rfl))
       refine step_no (o := ⟨some 27, Op.move (Operand.tmp 0), 43, "zsortanyfunc.go:12", #[{ on := 3, ground := Ground.guard }], some (3, true)⟩) [(3, some 21)] (by kernel_rfl) (by kernel_rfl) (by simp only [frD, e3]; rfl) rfl (by simp)
      | 10, _ =>
       have e3 : vs 3 = .bool false := hd 3 (List.contains_iff_mem.1 (by kernel_rfl))
       refine step_no (o := ⟨some 28, Op.move (Operand.tmp 9), 3, "zsortanyfunc.go:12", #[{ on := 3, ground := Ground.guard }], some (3, true)⟩) [(3, some 21)] (by kernel_rfl) (by kernel_rfl) (by simp only [frD, e3]; rfl) rfl (by simp)
      | 11, _ =>
       have e3 : vs 3 = .bool false := hd 3 (List.contains_iff_mem.1 (by kernel_rfl))
       have e10 : vs 10 = undef := hd 10 (List.contains_iff_mem.1 (by kernel_rfl))
       refine step_no (o := ⟨some 29, Op.binOp BinOp.sub 3 (Operand.tmp 28) (Operand.const (Value.int IntKind.i64 1)) 3, 3, "zsortanyfunc.go:12", #[{ on := 10, ground := Ground.data }, { on := 3, ground := Ground.guard }], some (3, true)⟩) [(3, some 21), (10, some 28)] (by kernel_rfl) (by kernel_rfl) (by simp only [frD, e3, e10]; rfl) rfl (by simp)
      | 12, _ =>
       have e3 : vs 3 = .bool false := hd 3 (List.contains_iff_mem.1 (by kernel_rfl))
       have e9 : vs 9 = undef := hd 9 (List.contains_iff_mem.1 (by kernel_rfl))
       have e11 : vs 11 = undef := hd 11 (List.contains_iff_mem.1 (by kernel_rfl))
       refine step_no (o := ⟨some 30, Op.indexAddr 43 (Operand.tmp 27) (Operand.tmp 29), 0, "zsortanyfunc.go:12", #[{ on := 9, ground := Ground.data }, { on := 11, ground := Ground.data }, { on := 3, ground := Ground.guard }], some (3, true)⟩) [(3, some 21), (9, some 27), (11, some 29)] (by kernel_rfl) (by kernel_rfl) (by simp only [frD, e3, e9, e11]; rfl) rfl (by simp)
      | 13, _ =>
       have e3 : vs 3 = .bool false := hd 3 (List.contains_iff_mem.1 (by kernel_rfl))
       have e12 : vs 12 = undef := hd 12 (List.contains_iff_mem.1 (by kernel_rfl))
       refine step_no (o := ⟨some 31, Op.load 3 (Operand.tmp 30), 3, "zsortanyfunc.go:12", #[{ on := 12, ground := Ground.data }, { on := 3, ground := Ground.guard }], some (3, true)⟩) [(3, some 21), (12, some 30)] (by kernel_rfl) (by kernel_rfl) (by simp only [frD, e3, e12]; rfl) rfl (by simp)
      | 14, _ =>
       have e3 : vs 3 = .bool false := hd 3 (List.contains_iff_mem.1 (by kernel_rfl))
       have e4 : vs 4 = undef := hd 4 (List.contains_iff_mem.1 (by kernel_rfl))
       have e8 : vs 8 = undef := hd 8 (List.contains_iff_mem.1 (by kernel_rfl))
       have e13 : vs 13 = undef := hd 13 (List.contains_iff_mem.1 (by kernel_rfl))
       refine step_no (o := ⟨some 32, Op.call { callee := Callee.value (Operand.tmp 22), args := #[Operand.tmp 26, Operand.tmp 31], argTypes := #[3, 3] }, 3, "zsortanyfunc.go:12", #[{ on := 4, ground := Ground.data }, { on := 8, ground := Ground.data }, { on := 13, ground := Ground.data }, { on := 3, ground := Ground.chain }, { on := 3, ground := Ground.guard }], some (3, true)⟩) [(3, some 21), (4, some 22), (8, some 26), (13, some 31)] (by kernel_rfl) (by kernel_rfl) (by simp only [frD, e3, e4, e8, e13]; rfl) rfl (by simp)
      | 15, _ =>
       have e3 : vs 3 = .bool false := hd 3 (List.contains_iff_mem.1 (by kernel_rfl))
       have e14 : vs 14 = undef := hd 14 (List.contains_iff_mem.1 (by kernel_rfl))
       refine step_no (o := ⟨some 33, Op.binOp BinOp.lss 3 (Operand.tmp 32) (Operand.const (Value.int IntKind.i64 0)) 3, 4, "zsortanyfunc.go:12", #[{ on := 14, ground := Ground.data }, { on := 3, ground := Ground.guard }], some (3, true)⟩) [(3, some 21), (14, some 32)] (by kernel_rfl) (by kernel_rfl) (by simp only [frD, e3, e14]; rfl) rfl (by simp)
      | 16, _ =>
       have e3 : vs 3 = .bool false := hd 3 (List.contains_iff_mem.1 (by kernel_rfl))
       have e15 : vs 15 = undef := hd 15 (List.contains_iff_mem.1 (by kernel_rfl))
       refine step_yes [(3, some 21), (15, some 33)] rfl (by kernel_rfl) fun K hK => ?_
       simp only [frD, e3, e15] at hK ⊢
       refine ⟨by rfl, ?_⟩
       go_simp
       exact hK _ _ ⟨Below.refl _ _, rfl, by simp⟩
      | i + 17, hi => exact absurd hi (by omega)
     ·intro vs wph3 hk3 hΦ _
      simp only [List.drop_succ_cons, List.drop_zero]
      rw [fr_frD, show (List.range 17).map _ = [(0, some 18), (1, some 19), (2, some 20), (3, some 21), (4, some 22), (5, some 23), (6, some 24), (7, some 25), (8, some 26), (9, some 27), (10, some 28), (11, some 29), (12, some 30), (13, some 31), (14, some 32), (15, some 33), (16, some 34)] by kernel_rfl]
      have ph0 := hΦ 0 (by omega)
      have ph1 := hΦ 1 (by omega)
      have ph2 := hΦ 2 (by omega)
      have ph3 := hΦ 3 (by omega)
      have ph4 := hΦ 4 (by omega)
      have ph5 := hΦ 5 (by omega)
      have ph6 := hΦ 6 (by omega)
      have ph7 := hΦ 7 (by omega)
      have ph8 := hΦ 8 (by omega)
      have ph9 := hΦ 9 (by omega)
      have ph10 := hΦ 10 (by omega)
      have ph11 := hΦ 11 (by omega)
      have ph12 := hΦ 12 (by omega)
      have ph13 := hΦ 13 (by omega)
      have ph14 := hΦ 14 (by omega)
      have ph15 := hΦ 15 (by omega)
      have ph16 := hΦ 16 (by omega)
      simp only [si4bΦ] at ph0 ph1 ph2 ph3 ph4 ph5 ph6 ph7 ph8 ph9 ph10 ph11 ph12 ph13 ph14 ph15 ph16
      clear hΦ
      simp only [frD, ph0, ph1, ph2, ph3, ph4, ph5, ph6, ph7, ph8, ph9, ph10, ph11, ph12, ph13, ph14, ph15, ph16]
      simp only [Act.put, List.setIfInBounds_toArray, List.set_cons_zero, List.set_cons_succ]
      clear ph0
      clear ph1
      clear ph2
      clear ph3
      clear ph4
      clear ph5
      clear ph6
      clear ph7
      clear ph8
      clear ph9
      clear ph10
      clear ph11
      clear ph12
      clear ph13
      clear ph14
      clear ph15
      clear ph16
      have hk30 := Keeps.trans' (w1 := wr.drew) (Below.drew (Below.refl _ wr)) hk3
      have hkt3 := hkt.trans (Turn.of_keeps (T := [g]) hk30) (fun _ h _ => h)
      have HR3 : Hid (RowI wph3 g (srtI f (k + 1) l) rest) := Lib.hid (Own.below HRE.out hk30)
      go_wp2
      go_roundw
      case rel => exact ⟨k + 1, by omega, .inl (by omega), by go_num, HR3, hkt3⟩
      case measure => simp [intOf]; omega
    | succ ii =>
     obtain ⟨j, hj⟩ : ∃ j, ii + 1 = j := ⟨_, rfl⟩
     have hLn := HRL.out.2.1
     have hjl : j < L.length := by omega
     have hil : ii < L.length := by omega
     have hij : (j : Int) - 1 = (ii : Int) := by omega
     have hjp : (0 : Int) < (j : Int) := by omega
     have hjn : (j : Int) < (n : Int) := by omega
     have hin : (ii : Int) < (n : Int) := by omega
     have hii4 : (ii : Int) ≤ 4096 := by omega
     have hwr : IntKind.i64.wrap (ii : Int) = (ii : Int) := by rw [IntKind.wrap_i64]; omega
     have hj4 : (j : Int) ≤ 4096 := by omega
     have hjp2 : (0 < j) = True := eq_true (by omega)
     have hcast : ((ii + 1 : Nat) : Int) = (j : Int) := by rw [hj]
     have da := HRL.out.2.2 _ (mem_getD hjl)
     have db := HRL.out.2.2 _ (mem_getD hil)
     have x0 := HRL.out.1.c hjl
     have y0 := HRL.out.1.c hil
     have hbu := HBU.out
     rw [bubI, hj] at hbu
     generalize L.getD j 0 = xa at *
     generalize L.getD ii 0 = xb at *
     have X0 := Lib.hid x0
     have Y0 := Lib.hid y0
     have HGL := Lib.hid (Own.lt HRL.out.1)
     have HJI := Lib.hid (And.intro hj (And.intro hjl hil))
     have HDA := Lib.hid da
     have HDB := Lib.hid db
     have HCM := Lib.hid (fun (u : World) (hk : Keeps wr u) => HC.out u (hkt.trans (Turn.of_keeps (T := [g]) hk) (fun _ h _ => h)) xa xb da db)
     obtain ⟨q, hq⟩ : ∃ q, f xa xb = q := ⟨_, rfl⟩
     rw [hq] at HCM hbu
     have HBUL := Lib.hid hbu
     rw [hcast]
     clear hbu x0 y0 hj hjl hil hq hcast hLn da db
     obtain ⟨B, hB⟩ : ∃ B, decide (q < 0) = B := ⟨_, rfl⟩
     have HB := Lib.hid hB
     go_wp2
     refine wp_region_steps (m := 17) rfl (by kernel_rfl) (si4aΦ (.slice (some ⟨g, 0, none⟩) n c) (.func (.func 29) #[] #[.pointer (some ⟨bp, 0, none⟩)]) xa xb ⟨g, j, none⟩ ⟨g, ii, none⟩ j ii q B) [] ?_ ?_ ?_
     ·intro i v w w' hi h hk
      match i, hi with
      | 0, _ | 1, _ | 2, _ | 3, _ | 4, _ | 5, _ | 6, _ | 7, _ | 8, _ | 9, _ | 10, _ | 11, _ | 12, _ | 13, _ | 14, _ | 15, _ | 16, _ => exact h
      | i + 17, hi => exact absurd hi (by omega)
     ·intro i hi vs wph3 hk3 hd
      have hkq := Keeps.trans' (w1 := wr.drew) (Below.drew (Below.refl _ wr)) hk3
      have x0 := (hkq.cell (p := ⟨g, j, none⟩) HGL.out).trans X0.out
      have y0 := (hkq.cell (p := ⟨g, ii, none⟩) HGL.out).trans Y0.out
      match i, hi with
      | 0, _ =>
       refine step_yes [] rfl (by kernel_rfl) fun K hK => ?_
       simp only [frD] at hK ⊢
       refine ⟨by rfl, ?_⟩
       go_simp
       exact hK _ _ ⟨Below.refl _ _, rfl, by simp⟩
      | 1, _ =>
       refine step_yes [] rfl (by kernel_rfl) fun K hK => ?_
       simp only [frD] at hK ⊢
       refine ⟨by rfl, ?_⟩
       go_simp
       exact hK _ _ ⟨Below.refl _ _, rfl, by simp⟩
      | 2, _ =>
       have e0 : vs 0 = .int .i64 (j : Nat) := hd 0 (List.contains_iff_mem.1 (by kernel_rfl))
       have e1 : vs 1 = .int .i64 0 := hd 1 (List.contains_iff_mem.1 (by kernel_rfl))
       refine step_yes [(0, some 18), (1, some 19)] rfl (by kernel_rfl) fun K hK => ?_
       simp only [frD, e0, e1] at hK ⊢
       refine ⟨by rfl, ?_⟩
       go_simp
       exact hK _ _ ⟨Below.refl _ _, rfl, by simp⟩
      | 3, _ =>
       have e2 : vs 2 = .bool true := hd 2 (List.contains_iff_mem.1 (by kernel_rfl))
       refine step_yes [(2, some 20)] rfl (by kernel_rfl) fun K hK => ?_
       simp only [frD, e2] at hK ⊢
       refine ⟨by rfl, ?_⟩
       go_simp
       exact hK _ _ ⟨Below.refl _ _, rfl, by simp⟩
      | 4, _ =>
       have e3 : vs 3 = .bool true := hd 3 (List.contains_iff_mem.1 (by kernel_rfl))
       refine step_yes [(3, some 21)] rfl (by kernel_rfl) fun K hK => ?_
       simp only [frD, e3] at hK ⊢
       refine ⟨by rfl, ?_⟩
       go_simp
       exact hK _ _ ⟨Below.refl _ _, rfl, by simp⟩
      | 5, _ =>
       have e3 : vs 3 = .bool true := hd 3 (List.contains_iff_mem.1 (by kernel_rfl))
       refine step_yes [(3, some 21)] rfl (by kernel_rfl) fun K hK => ?_
       simp only [frD, e3] at hK ⊢
       refine ⟨by rfl, ?_⟩
       go_simp
       exact hK _ _ ⟨Below.refl _ _, rfl, by simp⟩
      | 6, _ =>
       have e3 : vs 3 = .bool true := hd 3 (List.contains_iff_mem.1 (by kernel_rfl))
       refine step_yes [(3, some 21)] rfl (by kernel_rfl) fun K hK => ?_
       simp only [frD, e3] at hK ⊢
       refine ⟨by rfl, ?_⟩
       go_simp
       exact hK _ _ ⟨Below.refl _ _, rfl, by simp⟩
      | 7, _ =>
       have e3 : vs 3 = .bool true := hd 3 (List.contains_iff_mem.1 (by kernel_rfl))
       have e5 : vs 5 = (.slice (some ⟨g, 0, none⟩) n c) := hd 5 (List.contains_iff_mem.1 (by kernel_rfl))
       have e6 : vs 6 = .int .i64 (j : Nat) := hd 6 (List.contains_iff_mem.1 (by kernel_rfl))
       refine step_yes [(3, some 21), (5, some 23), (6, some 24)] rfl (by kernel_rfl) fun K hK => ?_
       simp only [frD, e3, e5, e6] at hK ⊢
       refine ⟨by rfl, ?_⟩
       go_simp
       exact hK _ _ ⟨Below.refl _ _, rfl, by simp⟩
      | 8, _ =>
       have e3 : vs 3 = .bool true := hd 3 (List.contains_iff_mem.1 (by kernel_rfl))
       have e7 : vs 7 = .pointer (some (⟨g, j, none⟩ : Addr)) := hd 7 (List.contains_iff_mem.1 (by kernel_rfl))
       refine step_yes [(3, some 21), (7, some 25)] rfl (by kernel_rfl) fun K hK => ?_
       simp only [frD, e3, e7] at hK ⊢
       refine ⟨by rfl, ?_⟩
       go_simp
       exact hK _ _ ⟨Below.refl _ _, rfl, by simp⟩
      | 9, _ =>
       have e3 : vs 3 = .bool true := hd 3 (List.contains_iff_mem.1 (by kernel_rfl))
       refine step_yes [(3, some 21)] rfl (by kernel_rfl) fun K hK => ?_
       simp only [frD, e3] at hK ⊢
       refine ⟨by rfl, ?_⟩
       go_simp
       exact hK _ _ ⟨Below.refl _ _, rfl, by simp⟩
      | 10, _ =>
       have e3 : vs 3 = .bool true := hd 3 (List.contains_iff_mem.1 (by kernel_rfl))
       refine step_yes [(3, some 21)] rfl (by kernel_rfl) fun K hK => ?_
       simp only [frD, e3] at hK ⊢
       refine ⟨by rfl, ?_⟩
       go_simp
       exact hK _ _ ⟨Below.refl _ _, rfl, by simp⟩
      | 11, _ =>
       have e3 : vs 3 = .bool true := hd 3 (List.contains_iff_mem.1 (by kernel_rfl))
       have e10 : vs 10 = .int .i64 (j : Nat) := hd 10 (List.contains_iff_mem.1 (by kernel_rfl))
       refine step_yes [(3, some 21), (10, some 28)] rfl (by kernel_rfl) fun K hK => ?_
       simp only [frD, e3, e10] at hK ⊢
       refine ⟨by rfl, ?_⟩
       go_simp
       exact hK _ _ ⟨Below.refl _ _, rfl, by simp⟩
      | 12, _ =>
       have e3 : vs 3 = .bool true := hd 3 (List.contains_iff_mem.1 (by kernel_rfl))
       have e9 : vs 9 = (.slice (some ⟨g, 0, none⟩) n c) := hd 9 (List.contains_iff_mem.1 (by kernel_rfl))
       have e11 : vs 11 = .int .i64 (ii : Nat) := hd 11 (List.contains_iff_mem.1 (by kernel_rfl))
       refine step_yes [(3, some 21), (9, some 27), (11, some 29)] rfl (by kernel_rfl) fun K hK => ?_
       simp only [frD, e3, e9, e11] at hK ⊢
       refine ⟨by rfl, ?_⟩
       go_simp
       exact hK _ _ ⟨Below.refl _ _, rfl, by simp⟩
      | 13, _ =>
       have e3 : vs 3 = .bool true := hd 3 (List.contains_iff_mem.1 (by kernel_rfl))
       have e12 : vs 12 = .pointer (some (⟨g, ii, none⟩ : Addr)) := hd 12 (List.contains_iff_mem.1 (by kernel_rfl))
       refine step_yes [(3, some 21), (12, some 30)] rfl (by kernel_rfl) fun K hK => ?_
       simp only [frD, e3, e12] at hK ⊢
       refine ⟨by rfl, ?_⟩
       go_simp
       exact hK _ _ ⟨Below.refl _ _, rfl, by simp⟩
      | 14, _ =>
       have e3 : vs 3 = .bool true := hd 3 (List.contains_iff_mem.1 (by kernel_rfl))
       have e4 : vs 4 = (.func (.func 29) #[] #[.pointer (some ⟨bp, 0, none⟩)]) := hd 4 (List.contains_iff_mem.1 (by kernel_rfl))
       have e8 : vs 8 = .int .i64 xa := hd 8 (List.contains_iff_mem.1 (by kernel_rfl))
       have e13 : vs 13 = .int .i64 xb := hd 13 (List.contains_iff_mem.1 (by kernel_rfl))
       refine step_yes [(3, some 21), (4, some 22), (8, some 26), (13, some 31)] rfl (by kernel_rfl) fun K hK => ?_
       simp only [frD, e3, e4, e8, e13] at hK ⊢
       refine ⟨by rfl, ?_⟩
       go_simp
       refine (HCM.out _ hkq).mono ?_
       rintro e wph4 ⟨rfl, hk4⟩
       exact hK _ _ ⟨hk4, rfl, by simp⟩
      | 15, _ =>
       have e3 : vs 3 = .bool true := hd 3 (List.contains_iff_mem.1 (by kernel_rfl))
       have e14 : vs 14 = .int .i64 q := hd 14 (List.contains_iff_mem.1 (by kernel_rfl))
       refine step_yes [(3, some 21), (14, some 32)] rfl (by kernel_rfl) fun K hK => ?_
       simp only [frD, e3, e14] at hK ⊢
       refine ⟨by rfl, ?_⟩
       go_simp
       exact hK _ _ ⟨Below.refl _ _, rfl, by simp⟩
      | 16, _ =>
       have e3 : vs 3 = .bool true := hd 3 (List.contains_iff_mem.1 (by kernel_rfl))
       have e15 : vs 15 = .bool B := hd 15 (List.contains_iff_mem.1 (by kernel_rfl))
       refine step_yes [(3, some 21), (15, some 33)] rfl (by kernel_rfl) fun K hK => ?_
       simp only [frD, e3, e15] at hK ⊢
       refine ⟨by rfl, ?_⟩
       go_simp
       exact hK _ _ ⟨Below.refl _ _, rfl, by simp⟩
      | i + 17, hi => exact absurd hi (by omega)
     ·intro vs wph3 hk3 hΦ _
      simp only [List.drop_succ_cons, List.drop_zero]
      rw [fr_frD, show (List.range 17).map _ = [(0, some 18), (1, some 19), (2, some 20), (3, some 21), (4, some 22), (5, some 23), (6, some 24), (7, some 25), (8, some 26), (9, some 27), (10, some 28), (11, some 29), (12, some 30), (13, some 31), (14, some 32), (15, some 33), (16, some 34)] by kernel_rfl]
      have ph0 := hΦ 0 (by omega)
      have ph1 := hΦ 1 (by omega)
      have ph2 := hΦ 2 (by omega)
      have ph3 := hΦ 3 (by omega)
      have ph4 := hΦ 4 (by omega)
      have ph5 := hΦ 5 (by omega)
      have ph6 := hΦ 6 (by omega)
      have ph7 := hΦ 7 (by omega)
      have ph8 := hΦ 8 (by omega)
      have ph9 := hΦ 9 (by omega)
      have ph10 := hΦ 10 (by omega)
      have ph11 := hΦ 11 (by omega)
      have ph12 := hΦ 12 (by omega)
      have ph13 := hΦ 13 (by omega)
      have ph14 := hΦ 14 (by omega)
      have ph15 := hΦ 15 (by omega)
      have ph16 := hΦ 16 (by omega)
      simp only [si4aΦ] at ph0 ph1 ph2 ph3 ph4 ph5 ph6 ph7 ph8 ph9 ph10 ph11 ph12 ph13 ph14 ph15 ph16
      clear hΦ
      simp only [frD, ph0, ph1, ph2, ph3, ph4, ph5, ph6, ph7, ph8, ph9, ph10, ph11, ph12, ph13, ph14, ph15, ph16]
      simp only [Act.put, List.setIfInBounds_toArray, List.set_cons_zero, List.set_cons_succ]
      clear ph0
      clear ph1
      clear ph2
      clear ph3
      clear ph4
      clear ph5
      clear ph6
      clear ph7
      clear ph8
      clear ph9
      clear ph10
      clear ph11
      clear ph12
      clear ph13
      clear ph14
      clear ph15
      clear ph16
      have hk30 := Keeps.trans' (w1 := wr.drew) (Below.drew (Below.refl _ wr)) hk3
      have hkt3 := hkt.trans (Turn.of_keeps (T := [g]) hk30) (fun _ h _ => h)
      have HR3 : Hid (RowI wph3 g L rest) := Lib.hid (Own.below HRL.out.1 hk30)
      clear hk3
      cases B with
      | false =>
       have HRE : Hid (RowI wph3 g (srtI f (k + 1) l) rest) := Lib.hid (by have h2 := HBUL.out; rw [if_neg (of_decide_eq_false HB.out)] at h2; rw [← h2]; exact HR3.out)
       clear hB
       go_wp2
       go_roundw
       case rel => exact ⟨k + 1, by omega, .inl (by omega), by go_num, HRE, hkt3⟩
       case measure => simp [intOf]; omega
      | true =>
       have HBE : Hid (bubI f ii ((L.set j xb).set ii xa) = srtI f (k + 1) l) := Lib.hid (by have h2 := HBUL.out; rwa [if_pos (of_decide_eq_true HB.out)] at h2)
       have HGM := Lib.hid (Own.lt HR3.out)
       have XX0 := Lib.hid ((hk30.cell (p := ⟨g, j, none⟩) HGL.out).trans X0.out)
       have YY0 := Lib.hid ((hk30.cell (p := ⟨g, ii, none⟩) HGL.out).trans Y0.out)
       clear hB
       go_wp2
       have hr6 : RowI wph3 g L rest := HR3.out
       have x0 := XX0.out
       have y0 := YY0.out
       have f0 := Own.frozen hr6 j
       have hr7 := hr6.set (j := j) HJI.out.2.1 xb
       have hr8 := hr7.set (j := ii) (by rw [List.length_set]; exact HJI.out.2.2) xa
       have u0 := (hr7.c (j := ii) (by rw [List.length_set]; exact HJI.out.2.2))
       have e0 := Own.frozen hr7 ii
       have HR8 := Lib.hid hr8
       have HLL8 : Hid (((L.set j xb).set ii xa).length = n ∧ ∀ x ∈ (L.set j xb).set ii xa, D x) := Lib.hid ⟨by rw [List.length_set, List.length_set]; exact HRL.out.2.1, set_all (set_all HRL.out.2.2 HDB.out _) HDA.out _⟩
       have HT8 := Lib.hid ((hkt3.set (p := ⟨g, j, none⟩) (by simp) (.int .i64 xb)).set (p := ⟨g, ii, none⟩) (by simp) (.int .i64 xa))
       clear hr6 hr7 hr8 u0
       go_region
       go_wp2
       go_roundw
       case rel => exact ⟨ii, (L.set j xb).set ii xa, by omega, rfl, Lib.hid ⟨Own.drew HR8.out, HLL8.out⟩, HBE, HT8.out.drew⟩
       case measure => simp [intOf]; omega
  ·have t1 : decide ((k : Int) < (m : Int)) = false := decide_eq_false (by omega)
   have t1n : (k < m) = False := eq_false hlt
   have HRE : Hid (RowI wr g (srtI f m l) rest) := Lib.hid (by
    rcases hkm with h | h
    ·obtain rfl : k = m := by omega
     exact HRK.out
    ·have := HRK.out
     rw [h] at this
     have hm0 : m = 0 ∨ m = 1 := by omega
     rcases hm0 with rfl | rfl
     ·exact this
     ·exact this)
   clear hkm hlt
   go_wp2
   refine bodyPost_end (results_none rfl _ _ _) rfl ?_
   exact ⟨rfl, HRE.out, hkt⟩
end Go.Proofs.YtgcigdahjabimaaGreatDoor
namespace Go.Proofs.YtgcigdahjabimaaGreatDoor
def ctlN (s : Sm) : List Nat := (List.range s.rd.length).filter (ctlB s)
theorem ctlK_N (s : Sm) : ctlK s s.rd.length = (ctlN s).map fun (i : Nat) => (i : Int) := rfl
theorem ctlN_lt {s : Sm} {i : Nat} (h : i ∈ ctlN s) : i < s.rd.length := List.mem_range.1 (List.mem_filter.1 h).1
theorem ctlN_len (s : Sm) : (ctlN s).length ≤ s.rd.length := by
 have h := ctlK_len s s.rd.length
 rwa [ctlK_N, List.length_map] at h
def bumpS (s : Sm) (es : List QV) (h : List Int) (i : Nat) : List Int := h.set (binK es (sxq s i)) (h.getD (binK es (sxq s i)) 0 + 1)
def cntL (s : Sm) (es : List QV) (m : Nat) : List Int := ((ctlN s).take m).foldl (bumpS s es) (List.replicate (es.length + 1) 0)
theorem foldl_all {α β : Type} (f : β → α → β) (p : β → Prop) (h : ∀ b a, p b → p (f b a)) : ∀ (l : List α) (b : β), p b → p (l.foldl f b)
 | [], _, hb => hb
 | a :: l, b, hb => foldl_all f p h l _ (h b a hb)
theorem cntL_len (s : Sm) (es : List QV) (m : Nat) : (cntL s es m).length = es.length + 1 :=
 foldl_all (bumpS s es) (fun l => l.length = es.length + 1) (fun b a h => by unfold bumpS; rw [List.length_set]; exact h) _ _ (by simp)
theorem cntL_next (s : Sm) (es : List QV) {m i : Nat} (h : (ctlN s)[m]? = some i) : cntL s es (m + 1) = bumpS s es (cntL s es m) i := by
 unfold cntL
 rw [List.take_add_one, h, List.foldl_append]
 rfl
theorem cntL_bd (s : Sm) (es : List QV) : ∀ m j, 0 ≤ (cntL s es m).getD j 0 ∧ (cntL s es m).getD j 0 ≤ (m : Nat)
 | 0, j => by
  unfold cntL
  simp only [List.take_zero, List.foldl_nil, List.getD, List.getElem?_replicate]
  split <;> simp
 | m + 1, j => by
  have ih := cntL_bd s es m
  cases h : (ctlN s)[m]? with
  | none =>
   have e : cntL s es (m + 1) = cntL s es m := by
    unfold cntL
    rw [List.take_add_one, h]
    simp
   rw [e]
   have := ih j
   omega
  | some i =>
   rw [cntL_next s es h, bumpS]
   have h2 := ih (binK es (sxq s i))
   generalize binK es (sxq s i) = b at *
   rw [List.getD, List.getElem?_set]
   split
   ·split
    ·simp only [Option.getD_some]; omega
    ·simp; omega
   ·have := ih j; rw [List.getD] at this; omega
theorem form_pos {s : Sm} (h : formB s = true) : ∀ x ∈ s.rd, 0 ≤ x.1 := fun x hx => by
 obtain ⟨-, -, -, -, -, -, -, -, -, h1, -⟩ := form_ok h
 exact (h1 x hx).2.1
theorem form_len {s : Sm} (h : formB s = true) : s.sx.length = s.rd.length := by
 obtain ⟨-, -, -, -, -, -, h1, h2, -⟩ := form_ok h
 omega
theorem ctlB_ne {s : Sm} (h : formB s = true) {i : Nat} (hi : i < s.rd.length) : ctlB s i = decide ((s.rd.getD i (0, false)).1 ≠ 0) := by
 unfold ctlB
 have h1 := form_pos h (s.rd.getD i (0, false)) (by rw [List.getD, List.getElem?_eq_getElem hi]; exact List.getElem_mem hi)
 generalize (s.rd.getD i (0, false)).1 = q at *
 by_cases h0 : q = 0
 ·subst h0; simp
 ·rw [decide_eq_true h0, decide_eq_true]
  exact Rat.lt_of_le_of_ne h1 (Ne.symm h0)
theorem foldl_congr_mem {α β : Type} {f g : β → α → β} : ∀ {l : List α}, (∀ b, ∀ a ∈ l, f b a = g b a) → ∀ b, l.foldl f b = l.foldl g b
 | [], _, _ => rfl
 | a :: l, h, b => by
  rw [List.foldl_cons, List.foldl_cons, h b a List.mem_cons_self]
  exact foldl_congr_mem (fun b a ha => h b a (List.mem_cons_of_mem _ ha)) _
theorem his_cnt {s : Sm} (es : List QV) (h : formB s = true) : hisL s es s.sx.length = cntL s es (ctlN s).length := by
 have hl := form_len h
 unfold hisL cntL
 rw [List.take_length, ctlN, List.foldl_filter, hl]
 refine foldl_congr_mem (fun b i hi => ?_) _
 rw [ctlB_ne h (List.mem_range.1 hi), hisS]
 by_cases h0 : (s.rd.getD i (0, false)).1 = 0
 ·rw [if_pos h0, if_neg fun h => (of_decide_eq_true h) h0]
 ·rw [if_neg h0, if_pos (decide_eq_true h0)]
  rfl
def abwB (s : Sm) (cr : Rat) (i : Nat) : Bool := decide (cr < sxq s i)
def abwL (s : Sm) (cr : Rat) (m : Nat) : List Int := (((ctlN s).take m).filter (abwB s cr)).map fun (i : Nat) => (i : Int)
theorem abwL_next (s : Sm) (cr : Rat) {m i : Nat} (h : (ctlN s)[m]? = some i) : abwL s cr (m + 1) = abwL s cr m ++ if abwB s cr i then [(i : Int)] else [] := by
 unfold abwL
 rw [List.take_add_one, h, List.filter_append, List.map_append]
 congr 1
 by_cases h : abwB s cr i = true
 ·simp [h]
 ·simp [h]
theorem abwL_len (s : Sm) (cr : Rat) (m : Nat) : (abwL s cr m).length ≤ m := by
 unfold abwL
 rw [List.length_map]
 exact Nat.le_trans (List.length_filter_le _ _) (by rw [List.length_take]; omega)
theorem abwL_mem (s : Sm) (cr : Rat) (m : Nat) : ∀ x ∈ abwL s cr m, ∃ i, i < s.rd.length ∧ x = ((i : Nat) : Int) := fun x hx => by
 unfold abwL at hx
 obtain ⟨i, hi, rfl⟩ := List.mem_map.1 hx
 exact ⟨i, ctlN_lt (List.mem_of_mem_take (List.mem_filter.1 hi).1), rfl⟩
theorem abw_abv {s : Sm} (cr : Rat) (h : formB s = true) : abwL s cr (ctlN s).length = abvK s cr s.sx.length := by
 have hl := form_len h
 unfold abwL abvK
 rw [List.take_length, ctlN, List.filter_filter, hl]
 congr 1
 refine List.filter_congr fun i hi => ?_
 simp [abwB, abvB, ctlB, sxq, Bool.and_comm]
theorem range_grows (p : Nat → Bool) (n : Nat) : ((List.range n).filter p).Pairwise (fun i j => i < j) := List.pairwise_lt_range.filter p
theorem abvK_grows (s : Sm) (cr : Rat) (k : Nat) : ∀ i j, i < j → j < (abvK s cr k).length → (abvK s cr k).getD i 0 < (abvK s cr k).getD j 0 := fun i j hij hj => by
 have h : (abvK s cr k).Pairwise (fun x y => x < y) := by
  unfold abvK
  rw [List.pairwise_map]
  exact (range_grows (abvB s cr) k).imp fun h => by omega
 have h1 := List.pairwise_iff_getElem.1 h i j (by omega) hj hij
 simpa [List.getD, List.getElem?_eq_getElem hj, List.getElem?_eq_getElem (show i < (abvK s cr k).length by omega)] using h1
theorem abvL_law (s : Sm) (cr : Rat) : abvL s cr = srtI (lawF s) (abvK s cr s.sx.length).length (abvK s cr s.sx.length) :=
 srtI_congr (fun x y h => abvF_lawF s x y h) _ (abvK_grows s cr _) _ (Nat.le_refl _)
end Go.Proofs.YtgcigdahjabimaaGreatDoor
namespace Go.Proofs.YtgcigdahjabimaaGreatDoor
open Go.RowKit Go.WideShapes Go.ChangeShapes Go.Joins

theorem laidOutP : laidOutB Tryz.prog = true := by kernel_rfl
section
variable {H : Type} {enc : TypeId × Value → H} {P : Program}
theorem post_of_below {f : Func} {s : ChangeSpec} {apart fresh handsOn again : Bool} {W W' : World} {args : Array Value} {v : Value} {ds gs : List (DataW H)} {before pa pv : List MemPlace}
 (hW : DataW.Whole enc P f.params.toList s.vars apart W args.toList ds gs before)
 (hres : ∀ (b : Nat) (sp : Nat → Bool) (hd : Bool), DataW.TrodAll enc P W' b sp hd f.resultTypes.toList (v.resultList f.resultTypes.size) (s.fn H (ds ++ gs)).results [])
 (hargs : ∀ sp : Nat → Bool, (∀ p ∈ before, sp p.block = true) → DataW.TrodAll enc P W' 0 sp true f.params.toList args.toList (s.fn H (ds ++ gs)).args pa)
 (hvars : ∀ sp : Nat → Bool, (∀ p ∈ before, sp p.block = true) → DataW.TrodVars enc P W' sp s.vars (s.fn H (ds ++ gs)).vars pv)
 (hps : before = pa ++ pv) (hb : Below W.heap.size W W')
 (hok : ∀ (j : Nat) (t : TypeId) (r : Value), f.resultTypes[j]? = some t → (v.resultList f.resultTypes.size)[j]? = some r → Value.okWide P W' .any 0 t r) :
 s.post enc P f apart fresh handsOn again W args v W' := by
 have hlt : ∀ p ∈ before, p.block < W.heap.size := fun p hp => hW.lt p hp
 have hold : ∀ p ∈ before, (fun b => decide (b < W.heap.size)) p.block = true := fun p hp => by simpa using hlt p hp
 refine ⟨ds, gs, before, [], pa, pv, hW, hres _ _ _, hargs _ hold, hvars _ hold, World.keptBut_mono (fun p hp => ⟨hp, ?_⟩) (hb.frame (· ∈ before)), fun _ => ?_⟩
 ·rw [hps, List.mem_append] at hp
  exact Or.inr hp
 ·obtain ⟨_, _, _, _, _, hz, hn⟩ := hW
  refine ⟨hok, _, _, ([] ++ pa) ++ pv, ⟨[] ++ pa, pv, trodAll_append (hargs _ (fun _ _ => rfl)) (hres _ _ _), hvars _ (fun _ _ => rfl), rfl, ?_, ?_⟩, ?_⟩
  ·intro b off hp
   have hin : MemPlace.cell b off ∈ before := by rw [hps]; simpa using hp
   rw [hb.frozen (hlt _ hin)]
   exact hz b off hin
  ·intro ha
   have := hn ha
   rw [hps] at this
   simpa using this
  ·intro p hp _
   rw [hps]
   simpa using hp
theorem trodAll_stays (hl : laidOutB P = true) {W W' : World} {sp : Nat → Bool} (hb : Below W.heap.size W W') : ∀ (ts : List TypeId) (vs : List Value) (ds : List (DataW H)) (ps : List MemPlace),
 (∀ t ∈ ts, P.readableRec t = true ∧ t < P.types.size) → DataW.TrodAll enc P W 0 (fun _ => true) true ts vs ds ps → (∀ x ∈ ps, x.block < W.heap.size) → (∀ x ∈ ps, sp x.block = true) → DataW.TrodAll enc P W' 0 sp true ts vs ds ps
 | [], _, _, _, _, h, _, _ => by
  obtain ⟨rfl, rfl, rfl⟩ := trodAll_nil h
  exact trodAll_mk0
 | t :: ts, vs, ds, ps, ht, h, hlt, hsp => by
  obtain ⟨v, vs', d, ds', p, q, rfl, rfl, rfl, h1, h2⟩ := trodAll_cons h
  refine trodAll_cons_mk (WideElems.Trod_stays hl (ht t List.mem_cons_self).1 (ht t List.mem_cons_self).2 h1 (fun x hx => hb.same (hlt x (List.mem_append_left _ hx))) (fun x hx => hsp x (List.mem_append_left _ hx))) ?_
  exact trodAll_stays hl hb ts vs' ds' q (fun t' h' => ht t' (List.mem_cons_of_mem _ h')) h2 (fun x hx => hlt x (List.mem_append_right _ hx)) (fun x hx => hsp x (List.mem_append_right _ hx))
end

set_option maxRecDepth 100000 in
theorem intCells_of {H : Type} {enc : TypeId × Value → H} {W : World} {base : Nat} {sp : Nat → Bool} {held : Bool} {v0 v1 : Value} {m : Nat} {y : DataW H × List MemPlace}
 (h : DataW.trod enc Tryz.prog W base sp held m 29 [v0, v1] = some y) (hz : ∀ n ∈ DataW.weights Tryz.prog 29 y.1, n ≤ reachBytes) : ∃ neg xs, IntArg W (.agg #[v0, v1]) neg xs ∧ xs.length ≤ 35184372088832 := by
 obtain ⟨y0, y1, n, rfl, -, h0, h1⟩ := trod_struct2 Tryz.underlying29 h
 have c0 : Tryz.prog.cellsOf 4 = 1 := by kernel_rfl
 have c1 : Tryz.prog.cellsOf 27 = 1 := by kernel_rfl
 have c2 : Tryz.prog.bytesOf 109 = 4 := by kernel_rfl
 simp only [c0, c1, List.drop_zero, List.drop_succ_cons, List.take_succ_cons, List.take_zero] at h0 h1
 have hz1 : ∀ n ∈ DataW.weights Tryz.prog 27 y1.1, n ≤ reachBytes := fun n hn => hz n (by
  simp only [DataW.weights, Tryz.underlying29, List.map_cons, List.map_nil, DataW.weightsEach, List.mem_append]
  exact Or.inr (Or.inl hn))
 clear hz
 obtain ⟨neg, e, -⟩ := DataW.trod_bool Tryz.underlying4 h0
 obtain rfl : v0 = .bool neg := by simpa using e
 rcases open_ints Tryz.underlying27 Tryz.underlying109 (by kernel_rfl) h1 with ⟨e, -⟩ | ⟨a, len, cap, zs, e, hb, hl, hm, hz, ey, hc, hw⟩
 ·obtain rfl : v1 = .slice none 0 0 := by simpa using e
  exact ⟨neg, [], ⟨_, rfl, U32.nil⟩, by simp⟩
 ·obtain rfl : v1 = .slice (some a) len cap := by simpa using e
  have hlz : len ≤ zs.length := by rw [hz]; split <;> omega
  have hxl : ((zs.take len).map Int.toNat).length = len := by simp; omega
  have hnn : ∀ j, j < len → zs.getD j 0 = ((((zs.take len).map Int.toNat).getD j 0 : Nat) : Int) := fun j hj => by
   have hm : zs.getD j 0 ∈ zs := by
    have : zs.getD j 0 = zs[j]'(by omega) := by simp [List.getD, show j < zs.length by omega]
    rw [this]
    exact List.getElem_mem _
   have := hw _ hm
   simp only [Lit.wf, Bool.and_eq_true, decide_eq_true_eq] at this
   have h0 : 0 ≤ zs.getD j 0 := this.1
   have e : ((zs.take len).map Int.toNat).getD j 0 = (zs.getD j 0).toNat := by
    simp [List.getD, hj, show j < zs.length by omega]
   rw [e]
   omega
  have hsz : len ≤ 35184372088832 := by
   have := hz1 ((lits .u32 (zs.take len) : List (DataW H)).length * 4 + (lits .u32 (zs.drop len) : List (DataW H)).length * 4) (by
    rw [ey]
    simp only [DataW.weights, Tryz.underlying27, c2]
    rw [Nat.add_mul]
    exact List.mem_cons_self)
   have hl1 : (lits .u32 (zs.take len) : List (DataW H)).length = len := by simp [lits]; omega
   rw [hl1] at this
   unfold reachBytes at this
   omega
  refine ⟨neg, (zs.take len).map Int.toNat, ⟨_, rfl, some a, cap, by rw [hxl], by omega, hm, by simp, ?_⟩, by rw [hxl]; exact hsz⟩
  rw [hxl]
  intro hp
  have c0 := hc 0 (by omega)
  have hs : a.spot = none := by
   have := World.cell?_spot c0
   simpa [Addr.add] using this
  obtain ⟨bk, off, spot⟩ := a
  obtain rfl : spot = none := hs
  refine ⟨bk, off, rfl, ?_, fun j hj => ?_⟩
  ·rcases Nat.lt_or_ge bk W.heap.size with h | h
   ·exact h
   ·simp [World.cell?, Addr.add, Array.getElem?_eq_none h] at c0
  ·have := hc j (by omega)
   rw [add_plain, hnn j hj] at this
   exact this
set_option maxRecDepth 100000 in
theorem ratCells_of {H : Type} {enc : TypeId × Value → H} {W : World} {base : Nat} {sp : Nat → Bool} {held : Bool} {c0 c1 c2 c3 : Value} {m : Nat} {y : DataW H × List MemPlace}
 (h : DataW.trod enc Tryz.prog W base sp held m 31 [c0, c1, c2, c3] = some y) (hz : ∀ n ∈ DataW.weights Tryz.prog 31 y.1, n ≤ reachBytes) :
 ∃ n1 xs n2 ys, RatArg W (.agg #[c0, c1, c2, c3]) n1 xs n2 ys ∧ xs.length ≤ 35184372088832 ∧ ys.length ≤ 35184372088832 := by
 obtain ⟨y0, y1, n, rfl, -, h0, h1⟩ := trod_struct2 Tryz.underlying31 h
 have cc : Tryz.prog.cellsOf 29 = 2 := by kernel_rfl
 simp only [cc, List.drop_zero, List.drop_succ_cons, List.take_succ_cons, List.take_zero] at h0 h1
 have hz' : ∀ n, n ∈ DataW.weights Tryz.prog 29 y0.1 ∨ n ∈ DataW.weights Tryz.prog 29 y1.1 → n ≤ reachBytes := fun n hn => hz n (by
  simp only [DataW.weights, Tryz.underlying31, List.map_cons, List.map_nil, DataW.weightsEach, List.mem_append]
  rcases hn with hn | hn
  ·exact Or.inl hn
  ·exact Or.inr (Or.inl hn))
 obtain ⟨n1, xs, i1, l1⟩ := intCells_of h0 fun n hn => hz' n (.inl hn)
 obtain ⟨n2, ys, i2, l2⟩ := intCells_of h1 fun n hn => hz' n (.inr hn)
 exact ⟨n1, xs, n2, ys, ⟨_, _, _, _, rfl, i1, i2⟩, l1, l2⟩
set_option maxRecDepth 100000 in
theorem ratArg_of {H : Type} {enc : TypeId × Value → H} {W : World} {base b0 : Nat} {sp : Nat → Bool} {held : Bool} {r : Reach} {v : Value} {d : DataW H} {p : List MemPlace}
 (hv : Value.okWide Tryz.prog W r b0 31 v) (h : DataW.Trod enc Tryz.prog W base sp held 31 v d p) (hz : ∀ n ∈ DataW.weights Tryz.prog 31 d, n ≤ reachBytes) :
 ∃ n1 xs n2 ys, RatArg W v n1 xs n2 ys ∧ xs.length ≤ 35184372088832 ∧ ys.length ≤ 35184372088832 := by
 obtain ⟨cs, rfl, hsz⟩ := okWide_struct Tryz.underlying31 hv
 obtain ⟨c0, c1, c2, c3, rfl⟩ := array4 (hsz.trans (by kernel_rfl))
 obtain ⟨fuel, hf⟩ := h
 exact ratCells_of (y := (d, p)) (by simpa [Value.cells] using hf) hz
end Go.Proofs.YtgcigdahjabimaaGreatDoor
namespace Go.Proofs.YtgcigdahjabimaaGreatDoor
open Go.RowKit Go.WideShapes Go.ChangeShapes Go.ChangeAt

theorem ownP : ownKnob Tryz.prog.godebug = none := by kernel_rfl
theorem gPow : Tryz.prog.globalNamed "internal/strconv.uint64pow10" = some 3 := by kernel_rfl

theorem tabIs_of_vars {P : Program} {W : World} {name : String} {k : IntKind} {zs : List Int} {rest : List (String × DataW Unit)} {g : Nat} {t e : TypeId} {n : Nat} {ps : List MemPlace}
 (hg : P.globalNamed name = some g) (hty : (P.globals[g]?).map (·.type) = some t) (ht : P.underlying t = some (.array n e)) (he : P.underlying e = some (.int k)) (hce : P.cellsOf e = 1) (hct : P.cellsOf t = n)
 (h : DataW.LaidVars P W ((name, Lib.tabData k zs) :: rest) ps) : Lib.TabIs P W name k zs := by
 obtain ⟨g', t', cs, fuel, p, q, hg', ht', hvar, hd, _, _⟩ := h
 obtain rfl := Option.some.inj (hg.symm.trans hg')
 obtain rfl := Option.some.inj (hty.symm.trans ht')
 unfold Lib.TabIs
 rw [hvar, ← Lib.cells_of_tab ht he hce hct hd]
theorem laidVars_tail {P : Program} {W : World} {x : String × DataW Unit} {rest : List (String × DataW Unit)} {ps : List MemPlace} (h : DataW.LaidVars P W (x :: rest) ps) : ∃ q, DataW.LaidVars P W rest q := by
 obtain ⟨g', t', cs, fuel, p, q, hg', ht', hvar, hd, hr, _⟩ := h
 exact ⟨_, hr⟩

def cellsOfData : DataW Unit → Array Value
 | .agg l => (l.map fun d => match d with | .lit (.int k n) => Value.int k n | _ => undef).toArray
 | _ => #[]
def strOfData : DataW Unit → ByteArray
 | .iface _ (.ptr (.agg [.lit (.string bs)])) => ⟨bs.toArray⟩
 | _ => ⟨#[]⟩
noncomputable def lowB : Nat := (World.holding Tryz.prog default ⟨#[], #[], []⟩).heap.size
def putCells (h : Array Obj) (g : Nat) (cs : Array Value) : Array Obj := h.modify g fun
 | .cells _ t frozen => .cells cs t frozen
 | o => o
noncomputable def laidWorld (os : Os) : World :=
 let w0 := World.holding Tryz.prog os ⟨#[.cells #[.string (strOfData Rows.laid_bytes_ErrTooLarge)] 207], #[], []⟩
 { w0 with heap := putCells (putCells (putCells (putCells w0.heap 5 (cellsOfData Rows.laid_math_bits_deBruijn32tab)) 6 (cellsOfData Rows.laid_math_bits_deBruijn64tab))
  3 (cellsOfData Rows.laid_internal_strconv_uint64pow10)) 4 #[.iface 205 (.pointer (some ⟨lowB, 0, none⟩))] }
def laid4 : List (String × DataW Unit) := Rows.reportCountsRow.laid
theorem powTab_of {W : World} (h : laidMetH Tryz.prog laid4 W) : PowTab W := by
 have h' : laidMet Tryz.prog laid4 W := h
 obtain ⟨ps, hv, _⟩ := h'
 obtain ⟨q1, hv⟩ := laidVars_tail hv
 obtain ⟨q2, hv⟩ := laidVars_tail hv
 exact tabIs_of_vars (rest := [("bytes.ErrTooLarge", Rows.laid_bytes_ErrTooLarge)]) gPow (t := 209) (by kernel_rfl) Tryz.underlying209 Tryz.underlying111 (by kernel_rfl) (by kernel_rfl) hv
theorem laid_met (os : Os) (args : Array Value) : laidMet Tryz.prog laid4 ((laidWorld os).forCall (fun _ _ => 0) ⟨#[], args, []⟩).memory :=
 laidMet_of_run3 8 (by kernel_rfl) (by kernel_rfl) (by kernel_rfl)
open Go.Joins
theorem weightsAll_mem {H : Type} {P : Program} {e : TypeId} : ∀ {l : List (DataW H)} {d : DataW H}, d ∈ l → ∀ n ∈ d.weights P e, n ∈ DataW.weightsAll P e l
 | x :: r, d, hd, n, hn => by
  rw [DataW.weightsAll, List.mem_append]
  rcases List.mem_cons.1 hd with rfl | h
  ·exact .inl hn
  ·exact .inr (weightsAll_mem h n hn)
section
variable {H : Type} {enc : TypeId × Value → H} {W : World} {base b0 : Nat} {sp : Nat → Bool} {held : Bool} {r : Reach} {v : Value} {d : DataW H} {p : List MemPlace}
theorem field_of {P : Program} {t : TypeId} {fs : Array Field} {fuel : Nat} {cs : List Value} {x : DataW H × List MemPlace} (ht : P.underlying t = some (.struct fs)) (h : DataW.trod enc P W base sp held fuel t cs = some x) {i : Nat} {f : Field} (hf : fs[i]? = some f) :
 ∃ y n, DataW.trod enc P W base sp held n f.type ((cs.drop f.offset).take (P.cellsOf f.type)) = some y ∧ ∀ k, k ∈ DataW.weights P f.type y.1 → k ∈ DataW.weights P t x.1 := by
 obtain ⟨xs, n, -, rfl, -, hlen, hall⟩ := DataW.trod_struct ht h
 have hi : i < xs.length := by rw [hlen]; exact (Array.getElem?_eq_some_iff.1 hf).1
 refine ⟨xs[i], n, by rw [hall i f hf]; exact List.getElem?_eq_getElem hi, fun k hk => ?_⟩
 simp only [DataW.weights, ht]
 exact DataW.weights_mem_each (j := i) (t := f.type) (by simp [hf]) (by simp [hi]) k hk
set_option maxRecDepth 100000 in
theorem ratsRaw_of {m : Nat} {y : DataW H × List MemPlace} (h : DataW.trod enc Tryz.prog W base sp held m 34 [v] = some y) (hz : ∀ n ∈ DataW.weights Tryz.prog 34 y.1, n ≤ reachBytes) :
 ∃ A len cap l, v = .slice A len cap ∧ l.length = len ∧ len ≤ maxLen ∧ (A = none → cap = 0) ∧ Row4 RatA W A l := by
 have c4 : Tryz.prog.cellsOf 31 = 4 := by kernel_rfl
 rcases Go.Deep.open_slice Tryz.underlying34 h with ⟨e, -⟩ | ⟨a, len, cap, m, n, D, Pl, e, hb, hl, hm, hmm, hx, hel⟩
 ·obtain rfl : v = .slice none 0 0 := by simpa using e
  exact ⟨none, 0, 0, [], rfl, rfl, by simp [maxLen], fun _ => rfl, fun j x hj => by simp at hj⟩
 ·obtain rfl : v = .slice (some a) len cap := by simpa using e
  have hlm : len ≤ m := by rw [hmm]; split <;> omega
  have hd : y.1 = .slice ((List.range len).map D) ((List.range (m - len)).map fun j => D (len + j)) := congrArg Prod.fst hx
  rw [c4] at hel
  have hsp : 0 < len → a.spot = none := fun h0 => by
   obtain ⟨cs, h1, -⟩ := hel 0 (by omega)
   obtain ⟨-, hlen, hc⟩ := World.cells?_some h1
   match cs, hlen with
   | [c0, c1, c2, c3], _ =>
    have g0 := World.cell?_spot (hc 0 (by omega))
    simpa [Addr.add] using g0
  have key : ∀ i, i < len → ∃ x : RA, ∃ B o c0 c1 c2 c3, some a = some (⟨B, o, none⟩ : Addr) ∧ (W.cell? ⟨B, o + i * 4, none⟩ = some c0 ∧ W.cell? ⟨B, o + i * 4 + 1, none⟩ = some c1 ∧ W.cell? ⟨B, o + i * 4 + 2, none⟩ = some c2 ∧ W.cell? ⟨B, o + i * 4 + 3, none⟩ = some c3) ∧ RatA W (.agg #[c0, c1, c2, c3]) x := by
   intro i hi
   obtain ⟨cs, h1, h2⟩ := hel i (by omega)
   obtain ⟨-, hlen, hc⟩ := World.cells?_some h1
   match cs, hlen with
   | [c0, c1, c2, c3], _ =>
    have g0 := hc 0 (by omega)
    have g1 := hc 1 (by omega)
    have g2 := hc 2 (by omega)
    have g3 := hc 3 (by omega)
    have hs : a.spot = none := hsp (by omega)
    obtain ⟨bk, off, spot⟩ := a
    obtain rfl : spot = none := hs
    rw [add_plain, add_plain] at g0 g1 g2 g3
    obtain ⟨n1, xs, n2, ys, hA, l1, l2⟩ := ratCells_of h2 (fun n hn => hz n (by
     rw [hd]
     simp only [DataW.weights, Tryz.underlying34]
     exact List.mem_cons_of_mem _ (List.mem_append_left _ (weightsAll_mem (List.mem_map.2 ⟨i, List.mem_range.2 hi, rfl⟩) n hn))))
    exact ⟨(n1, xs, n2, ys), bk, off, c0, c1, c2, c3, rfl, ⟨g0, g1, g2, g3⟩, hA, l1, l2⟩
  obtain ⟨f, hf⟩ : ∃ f : Nat → RA, ∀ i, i < len → ∃ B o c0 c1 c2 c3, some a = some (⟨B, o, none⟩ : Addr) ∧ (W.cell? ⟨B, o + i * 4, none⟩ = some c0 ∧ W.cell? ⟨B, o + i * 4 + 1, none⟩ = some c1 ∧ W.cell? ⟨B, o + i * 4 + 2, none⟩ = some c2 ∧ W.cell? ⟨B, o + i * 4 + 3, none⟩ = some c3) ∧ RatA W (.agg #[c0, c1, c2, c3]) (f i) :=
   ⟨fun i => if h : i < len then Classical.choose (key i h) else (false, [], false, []), fun i hi => by simp only [dif_pos hi]; exact Classical.choose_spec (key i hi)⟩
  refine ⟨some a, len, cap, (List.range len).map f, rfl, by simp, Nat.le_trans hl hm, (by intro h; cases h), fun j x hj => ?_⟩
  rw [List.getElem?_map] at hj
  obtain ⟨i, hi, rfl⟩ := Option.map_eq_some_iff.1 hj
  obtain ⟨hlt, rfl⟩ := List.getElem?_eq_some_iff.1 hi
  rw [List.getElem_range]
  exact hf j (by simpa using hlt)
set_option maxRecDepth 100000 in
theorem ratsArg_raw (hv : Value.okWide Tryz.prog W r b0 34 v) (h : DataW.Trod enc Tryz.prog W base sp held 34 v d p) (hz : ∀ n ∈ DataW.weights Tryz.prog 34 d, n ≤ reachBytes) :
 ∃ A len cap l, v = .slice A len cap ∧ Row4 RatA W A l ∧ l.length = len ∧ len ≤ maxLen := by
 obtain ⟨A, len, cap, rfl⟩ := okWide_slice Tryz.underlying34 hv
 obtain ⟨fuel, hf⟩ := h
 obtain ⟨A, len, cap, l, e, h1, h2, -, h3⟩ := ratsRaw_of (y := (d, p)) (by simpa [Value.cells] using hf) hz
 exact ⟨A, len, cap, l, e, h3, h1, h2⟩
set_option maxRecDepth 100000 in
theorem list17 {α : Type} {cs : Array α} (h : cs.size = 17) : ∃ a b c d e f g i j k l m n o p q r, cs = #[a, b, c, d, e, f, g, i, j, k, l, m, n, o, p, q, r] := by
 obtain ⟨l⟩ := cs
 match l, h with
 | [a, b, c, d, e, f, g, i, j, k, l, m, n, o, p, q, r], _ => exact ⟨a, b, c, d, e, f, g, i, j, k, l, m, n, o, p, q, r, rfl⟩
theorem RatA.cap {c0 c1 c2 c3 : Value} {x : RA} (h : RatA W (.agg #[c0, c1, c2, c3]) x) : (∀ n c, c0 ≠ .slice none n c) ∧ (∀ n c, c1 = .slice none n c → c = 0) ∧ (∀ n c, c2 ≠ .slice none n c) ∧ ∀ n c, c3 = .slice none n c → c = 0 := by
 obtain ⟨⟨x0, x1, x2, x3, e, ⟨u, e1, A1, a1, rfl, -, -, k1, -⟩, ⟨u2, e2, A2, a2, rfl, -, -, k2, -⟩⟩, -⟩ := h
 simp only [Value.agg.injEq, Array.mk.injEq, List.cons.injEq, and_true] at e e1 e2
 obtain ⟨rfl, rfl, rfl, rfl⟩ := e
 obtain ⟨rfl, rfl⟩ := e1
 obtain ⟨rfl, rfl⟩ := e2
 exact ⟨fun n c h => (by cases h), fun n c h => (by cases h; exact k1 rfl), fun n c h => (by cases h), fun n c h => (by cases h; exact k2 rfl)⟩
set_option maxRecDepth 100000 in
set_option maxHeartbeats 1000000 in
theorem smArg_of (hv : Value.okWide Tryz.prog W r b0 49 v) (h : DataW.Trod enc Tryz.prog W base sp held 49 v d p) (hz : ∀ n ∈ DataW.weights Tryz.prog 49 d, n ≤ reachBytes) : ∃ r, SmRA W v r ∧ CapOk v := by
 obtain ⟨cs, rfl, hsz⟩ := okWide_struct Tryz.underlying49 hv
 obtain ⟨c0, c1, c2, c3, c4, c5, c6, c7, c8, c9, c10, c11, c12, c13, c14, c15, c16, rfl⟩ := list17 (hsz.trans (by kernel_rfl))
 obtain ⟨fuel, hf⟩ := h
 replace hf : DataW.trod enc Tryz.prog W base sp held fuel 49 [c0, c1, c2, c3, c4, c5, c6, c7, c8, c9, c10, c11, c12, c13, c14, c15, c16] = some (d, p) := by simpa [Value.cells] using hf
 obtain ⟨y0, n0, e0, -⟩ := field_of Tryz.underlying49 hf (i := 0) rfl
 obtain ⟨y1, n1, e1, -⟩ := field_of Tryz.underlying49 hf (i := 1) rfl
 obtain ⟨y2, n2, e2, -⟩ := field_of Tryz.underlying49 hf (i := 2) rfl
 obtain ⟨y3, n3, e3, -⟩ := field_of Tryz.underlying49 hf (i := 3) rfl
 obtain ⟨y4, n4, e4, -⟩ := field_of Tryz.underlying49 hf (i := 4) rfl
 obtain ⟨y5, n5, e5, -⟩ := field_of Tryz.underlying49 hf (i := 5) rfl
 obtain ⟨y6, n6, e6, z6⟩ := field_of Tryz.underlying49 hf (i := 6) rfl
 obtain ⟨y7, n7, e7, z7⟩ := field_of Tryz.underlying49 hf (i := 7) rfl
 obtain ⟨y8, n8, e8, z8⟩ := field_of Tryz.underlying49 hf (i := 8) rfl
 obtain ⟨y9, n9, e9, z9⟩ := field_of Tryz.underlying49 hf (i := 9) rfl
 obtain ⟨y10, n10, e10, -⟩ := field_of Tryz.underlying49 hf (i := 10) rfl
 obtain ⟨a0, q0, -, -⟩ := DataW.trod_int Tryz.underlying3 e0
 obtain ⟨a1, q1, -, -⟩ := DataW.trod_int Tryz.underlying3 e1
 obtain ⟨a2, q2, -, -⟩ := DataW.trod_int Tryz.underlying3 e2
 obtain ⟨a3, q3, -, -⟩ := DataW.trod_int Tryz.underlying3 e3
 obtain ⟨a4, q4, -, -⟩ := DataW.trod_int Tryz.underlying3 e4
 obtain ⟨a5, q5, -, -⟩ := DataW.trod_int Tryz.underlying3 e5
 obtain ⟨a10, q10, -, -⟩ := DataW.trod_int Tryz.underlying3 e10
 cases q0; cases q1; cases q2; cases q3; cases q4; cases q5; cases q10
 obtain ⟨g1, xs1, g2, ys1, h6, l6, m6⟩ := ratCells_of e6 fun n hn => hz n (z6 n hn)
 obtain ⟨g3, xs2, g4, ys2, h7, l7, m7⟩ := ratCells_of e7 fun n hn => hz n (z7 n hn)
 obtain ⟨A8, len8, cap8, L8, rfl, h8, k8, j8, r8⟩ := ratsRaw_of e8 fun n hn => hz n (z8 n hn)
 obtain ⟨A9, len9, cap9, L9, rfl, h9, k9, j9, r9⟩ := ratsRaw_of e9 fun n hn => hz n (z9 n hn)
 subst h8 h9
 have R6 : RatA W (.agg #[c6, c7, c8, c9]) (g1, xs1, g2, ys1) := ⟨h6, l6, m6⟩
 have R7 : RatA W (.agg #[c10, c11, c12, c13]) (g3, xs2, g4, ys2) := ⟨h7, l7, m7⟩
 refine ⟨⟨a0, a1, a2, a3, a4, a5, (g1, xs1, g2, ys1), (g3, xs2, g4, ys2), L8, L9, a10⟩, ⟨_, _, _, _, _, _, _, _, A8, A9, cap8, cap9, by simp [smL, SmR.s], R6, R7, r8, r9, k8, k9⟩, ?_⟩
 obtain ⟨u0, u1, u2, u3⟩ := R6.cap
 obtain ⟨v0, v1, v2, v3⟩ := R7.cap
 intro cs e i n c hi
 cases e
 match i, hi with
 | 0, hi => cases hi
 | 1, hi => cases hi
 | 2, hi => cases hi
 | 3, hi => cases hi
 | 4, hi => cases hi
 | 5, hi => cases hi
 | 6, hi => exact absurd (Option.some.inj hi) (u0 n c)
 | 7, hi => exact u1 n c (Option.some.inj hi)
 | 8, hi => exact absurd (Option.some.inj hi) (u2 n c)
 | 9, hi => exact u3 n c (Option.some.inj hi)
 | 10, hi => exact absurd (Option.some.inj hi) (v0 n c)
 | 11, hi => exact v1 n c (Option.some.inj hi)
 | 12, hi => exact absurd (Option.some.inj hi) (v2 n c)
 | 13, hi => exact v3 n c (Option.some.inj hi)
 | 14, hi => cases hi; exact j8 rfl
 | 15, hi => cases hi; exact j9 rfl
 | 16, hi => cases hi
 | i + 17, hi => simp at hi
end
end Go.Proofs.YtgcigdahjabimaaGreatDoor
