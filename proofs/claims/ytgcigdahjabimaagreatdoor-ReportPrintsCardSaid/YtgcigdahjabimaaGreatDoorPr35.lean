/- report.Above's order, and sorting few ints: the walks. -/
import Derived.Test.YtgcigdahjabimaaGreatDoorPr34
import Derived.Test.YtgcigdahjabimaaGreatDoorPr9
namespace Go.Proofs.YtgcigdahjabimaaGreatDoor
open Go.RowKit Go.Shelf
def sxq (s : Sm) (x : Int) : Rat := (s.sx.getD x.toNat (0, false)).1
def abvF (s : Sm) (x y : Int) : Int := if cmpR (sxq s y) (sxq s x) = 0 then x - y else cmpR (sxq s y) (sxq s x)
set_option maxRecDepth 100000 in
set_option maxHeartbeats 1000000 in
theorem abvcmp_any {w : World} {bp : Nat} {s : Sm} {o0 o1 o2 o3 p0 p1 p2 p3 : Value} {A B : Option Addr} {c d : Nat} (hO : Own w bp 49 (smL s o0 o1 o2 o3 p0 p1 p2 p3 A B c d)) (h4 : Row4 RatV2 w B s.sx) (h6 : s.sx.length ≤ 1024)
 {ki kj : Nat} (hi : ki < s.sx.length) (hj : kj < s.sx.length) :
 Calls Tryz.prog 61 #[.int .i64 (ki : Nat), .int .i64 (kj : Nat), .pointer (some ⟨bp, 0, none⟩)] w fun e w' => e = .returned (.int .i64 (abvF s ki kj)) ∧ Keeps w w' := by
 obtain ⟨⟨qi, vi⟩, hqi⟩ : ∃ x, s.sx[ki]? = some x := ⟨_, List.getElem?_eq_getElem hi⟩
 obtain ⟨⟨qj, vj⟩, hqj⟩ : ∃ x, s.sx[kj]? = some x := ⟨_, List.getElem?_eq_getElem hj⟩
 have hf : abvF s ki kj = if cmpR qj qi = 0 then (ki : Int) - kj else cmpR qj qi := by
  unfold abvF sxq
  simp only [Int.toNat_natCast, List.getD, hqi, hqj, Option.getD_some]
 have HF := Lib.hid hf
 obtain ⟨Bs, os, u0, u1, u2, u3, hA1, hc1, hx1⟩ := h4.get lasts_v hqi
 obtain ⟨B2, o2', v0, v1, v2, v3, hA2, hc2, hx2⟩ := h4.get lasts_v hqj
 subst hA1
 cases hA2
 obtain ⟨bx, Ax, nx, cx, dx, Bx, mx, ex, rfl, rfl, rfl, rfl⟩ := (hx1 w bl).open4
 obtain ⟨by', Ay, ny, cy, dy, Bz, my, ey, rfl, rfl, rfl, rfl⟩ := (hx2 w bl).open4
 have HB15 : Hid (∀ u, Keeps w u → u.cell? ⟨bp, 15, none⟩ = some (.slice (some ⟨Bs, os, none⟩) s.sx.length d)) := Lib.hid fun u hk => by rw [(hO.below hk).cell]; rfl
 have HC1 := Lib.hid hc1
 have HC2 := Lib.hid hc2
 have hX1 := (hx1 w bl).num'
 have hX2 := (hx2 w bl).num'
 simp only at hX1 hX2
 have S := ((St.start w).addR hX1).addR hX2
 have hiI : (ki : Int) < (s.sx.length : Int) := by omega
 have hjI : (kj : Int) < (s.sx.length : Int) := by omega
 have hl6 : (s.sx.length : Int) ≤ 1024 := by omega
 generalize s.sx.length = n at *
 clear hO h4 h6 hqi hqj hf hc1 hc2 hx1 hx2 hX1 hX2
 go_enter Tryz.func61, Tryz.ntmps61
 go_upto_region 1 with fail
 obtain ⟨s1, hs1⟩ : ∃ s, cmpR qj qi = s := ⟨_, rfl⟩
 have HS1 := Lib.hid hs1
 clear hs1
 go_upto_region 1 with fail
 refine wp_region_steps (m := 11) rfl (by kernel_rfl) (fun iF vF wF => (List.getD [ve (.pointer (some ⟨bp, 15, none⟩)), ve (.slice (some ⟨Bs, os, none⟩) n d), ve (.int .i64 (kj : Int)), ve (.pointer (some ⟨Bs, os + kj * 4, none⟩)), ve (.agg #[.bool by', .slice Ay ny cy, .bool dy, .slice Bz my ey]), ve (.pointer (some ⟨bp, 15, none⟩)), ve (.slice (some ⟨Bs, os, none⟩) n d), ve (.int .i64 (ki : Int)), ve (.pointer (some ⟨Bs, os + ki * 4, none⟩)), ve (.agg #[.bool bx, .slice Ax nx cx, .bool dx, .slice Bx mx ex]), ve (.int .i64 s1)] iF (fun _ _ => True)) vF wF) [] ?_ ?_ ?_
 ·intro i v w w' _ h hk
  refine stabL_get ?_ i v w w' h hk
  exact stab_cons st_e (stab_cons st_e (stab_cons st_e (stab_cons st_e (stab_cons st_e (stab_cons st_e (stab_cons st_e (stab_cons st_e (stab_cons st_e (stab_cons st_e (stab_cons st_e stab_nil))))))))))
 ·intro i hi vs w3 hk3 hd
  have S3 := S.drew.below hk3
  have a15 := HB15.out _ S3.k
  obtain ⟨g0, g1, g2, g3⟩ := HC1.out _ S3.k
  obtain ⟨y0, y1, y2, y3⟩ := HC2.out _ S3.k
  match i, hi with
  | 0, _ =>
   refine sv0 [] (ve (.pointer (some ⟨bp, 15, none⟩))) rfl fun K hK => ?_; clear hd; simp only [frD] at hK ⊢; go_simp
   exact hK _ _ bl rfl
  | 1, _ =>
   have qe0 : (vs 0) = .pointer (some ⟨bp, 15, none⟩) := hdk hd 0
   refine sv0 [(0, some 7)] (ve (.slice (some ⟨Bs, os, none⟩) n d)) rfl fun K hK => ?_; clear hd; simp only [frD, qe0] at hK ⊢; go_simp
   exact hK _ _ bl rfl
  | 2, _ =>
   refine sv0 [] (ve (.int .i64 (kj : Int))) rfl fun K hK => ?_; clear hd; simp only [frD] at hK ⊢; go_simp
   exact hK _ _ bl rfl
  | 3, _ =>
   have qe1 : (vs 1) = .slice (some ⟨Bs, os, none⟩) n d := hdk hd 1; have qe2 : (vs 2) = .int .i64 (kj : Int) := hdk hd 2
   refine sv0 [(1, some 8), (2, some 9)] (ve (.pointer (some ⟨Bs, os + kj * 4, none⟩))) rfl fun K hK => ?_; clear hd; simp only [frD, qe1, qe2] at hK ⊢; go_simp
   exact hK _ _ bl rfl
  | 4, _ =>
   have qe3 : (vs 3) = .pointer (some ⟨Bs, os + kj * 4, none⟩) := hdk hd 3
   refine sv0 [(3, some 10)] (ve (.agg #[.bool by', .slice Ay ny cy, .bool dy, .slice Bz my ey])) rfl fun K hK => ?_; clear hd; simp only [frD, qe3] at hK ⊢; go_simp
   exact hK _ _ bl rfl
  | 5, _ =>
   refine sv0 [] (ve (.pointer (some ⟨bp, 15, none⟩))) rfl fun K hK => ?_; clear hd; simp only [frD] at hK ⊢; go_simp
   exact hK _ _ bl rfl
  | 6, _ =>
   have qe5 : (vs 5) = .pointer (some ⟨bp, 15, none⟩) := hdk hd 5
   refine sv0 [(5, some 12)] (ve (.slice (some ⟨Bs, os, none⟩) n d)) rfl fun K hK => ?_; clear hd; simp only [frD, qe5] at hK ⊢; go_simp
   exact hK _ _ bl rfl
  | 7, _ =>
   refine sv0 [] (ve (.int .i64 (ki : Int))) rfl fun K hK => ?_; clear hd; simp only [frD] at hK ⊢; go_simp
   exact hK _ _ bl rfl
  | 8, _ =>
   have qe6 : (vs 6) = .slice (some ⟨Bs, os, none⟩) n d := hdk hd 6; have qe7 : (vs 7) = .int .i64 (ki : Int) := hdk hd 7
   refine sv0 [(6, some 13), (7, some 14)] (ve (.pointer (some ⟨Bs, os + ki * 4, none⟩))) rfl fun K hK => ?_; clear hd; simp only [frD, qe6, qe7] at hK ⊢; go_simp
   exact hK _ _ bl rfl
  | 9, _ =>
   have qe8 : (vs 8) = .pointer (some ⟨Bs, os + ki * 4, none⟩) := hdk hd 8
   refine sv0 [(8, some 15)] (ve (.agg #[.bool bx, .slice Ax nx cx, .bool dx, .slice Bx mx ex])) rfl fun K hK => ?_; clear hd; simp only [frD, qe8] at hK ⊢; go_simp
   exact hK _ _ bl rfl
  | 10, _ =>
   have qe4 : (vs 4) = .agg #[.bool by', .slice Ay ny cy, .bool dy, .slice Bz my ey] := hdk hd 4; have qe9 : (vs 9) = .agg #[.bool bx, .slice Ax nx cx, .bool dx, .slice Bx mx ex] := hdk hd 9
   refine sc (A := #[(vs 4), (vs 9)]) (B := #[.agg #[.bool by', .slice Ay ny cy, .bool dy, .slice Bz my ey], .agg #[.bool bx, .slice Ax nx cx, .bool dx, .slice Bx mx ex]]) [(4, some 11), (9, some 16)] (ve (.int .i64 s1)) rfl (wanted_none rfl) (by rw [qe4, qe9]) Tryz.func47 ?_
   refine ((fcompare_s (S3.ri 0 rfl) (S3.ri 1 rfl) HS1.out)).mono ?_; rintro e w4 ⟨rfl, hk4⟩; exact ⟨_, rfl, hk4, rfl⟩
  | i + 11, hi => exact absurd hi (by omega)
 ·intro vs W21 hk3 hΦ _
  simp only [List.drop_succ_cons, List.drop_zero]
  rw [fr_frD, show (List.range 11).map _ = [(0, some 7), (1, some 8), (2, some 9), (3, some 10), (4, some 11), (5, some 12), (6, some 13), (7, some 14), (8, some 15), (9, some 16), (10, some 17)] by kernel_rfl]
  have pd0 : (vs 0) = .pointer (some ⟨bp, 15, none⟩) := hΦ 0 (by decide)
  have pd1 : (vs 1) = .slice (some ⟨Bs, os, none⟩) n d := hΦ 1 (by decide)
  have pd2 : (vs 2) = .int .i64 (kj : Int) := hΦ 2 (by decide)
  have pd3 : (vs 3) = .pointer (some ⟨Bs, os + kj * 4, none⟩) := hΦ 3 (by decide)
  have pd4 : (vs 4) = .agg #[.bool by', .slice Ay ny cy, .bool dy, .slice Bz my ey] := hΦ 4 (by decide)
  have pd5 : (vs 5) = .pointer (some ⟨bp, 15, none⟩) := hΦ 5 (by decide)
  have pd6 : (vs 6) = .slice (some ⟨Bs, os, none⟩) n d := hΦ 6 (by decide)
  have pd7 : (vs 7) = .int .i64 (ki : Int) := hΦ 7 (by decide)
  have pd8 : (vs 8) = .pointer (some ⟨Bs, os + ki * 4, none⟩) := hΦ 8 (by decide)
  have pd9 : (vs 9) = .agg #[.bool bx, .slice Ax nx cx, .bool dx, .slice Bx mx ex] := hΦ 9 (by decide)
  have pd10 : (vs 10) = .int .i64 s1 := hΦ 10 (by decide)
  clear hΦ
  simp only [frD, pd0, pd1, pd2, pd3, pd4, pd5, pd6, pd7, pd8, pd9, pd10]
  simp only [Act.put, List.setIfInBounds_toArray, List.set_cons_zero, List.set_cons_succ]
  clear pd0 pd1 pd2 pd3 pd4 pd5 pd6 pd7 pd8 pd9 pd10
  replace S := S.drew.below hk3
  clear hk3
  rcases Bool.eq_false_or_eq_true ((s1 != 0)) with t1 | t1
  ·skip
   go_wp2
   go_ret
   exact ⟨congrArg (fun z => Ending.returned (.int .i64 z)) (show s1 = abvF s ki kj by rw [HF.out, HS1.out, if_neg (by simpa using t1)]), S.k⟩
  ·skip
   go_wp2
   go_ret
   exact ⟨congrArg (fun z => Ending.returned (.int .i64 z)) (show (ki : Int) - kj = abvF s ki kj by rw [HF.out, HS1.out, if_pos (by simpa using t1)]), S.k⟩
theorem pdqI_any {w : World} {V F : Value} {n : Nat} {k : Int} {R : World → Prop} (hn : n ≤ 12) (h : Calls Tryz.prog 111 #[V, .int .i64 0, .int .i64 (n : Nat), F] w fun e w' => e = .returned (.tuple #[]) ∧ R w') :
 Calls Tryz.prog 104 #[V, .int .i64 0, .int .i64 (n : Nat), .int .i64 k, F] w fun e w' => e = .returned (.tuple #[]) ∧ R w' := by
 have HI := Lib.hid h
 have hnI : (n : Int) ≤ 12 := by omega
 have t1 : decide ((n : Int) ≤ 12) = true := decide_eq_true hnI
 clear h
 go_enter Tryz.func104, Tryz.ntmps104
 go_wp2
 go_loopw [1, 2] (fun V1 V2 wr => V1 = .int .i64 0 ∧ V2 = .int .i64 (n : Nat) ∧ wr = w) (fun _ _ _ => 0)
 case atStart => exact ⟨rfl, rfl, rfl⟩
 case round =>
  obtain ⟨rfl, rfl, rfl⟩ := hrel
  go_wp2_with fail
  refine HI.out.mono ?_
  rintro e w1 ⟨rfl, h⟩
  go_wp2
  refine bodyPost_ret (results_none rfl _ _ _) rfl ?_
  exact ⟨rfl, h⟩
theorem sortI_any {w : World} {A : Option Addr} {c : Nat} {F : Value} {n : Nat} {R : World → Prop} (hn : n ≤ 12) (h : Calls Tryz.prog 111 #[.slice A n c, .int .i64 0, .int .i64 (n : Nat), F] w fun e w' => e = .returned (.tuple #[]) ∧ R w') :
 Calls Tryz.prog 60 #[.slice A n c, F] w fun e w' => e = .returned (.tuple #[]) ∧ R w' := by
 have HL := Lib.hid (Tryz.bits_Len (n : Nat) w (by omega) (by omega))
 have HP := Lib.hid (fun k => pdqI_any (k := k) hn h)
 have hnI : (n : Int) ≤ 12 := by omega
 clear h
 go_enter Tryz.func60, Tryz.ntmps60
 go_wp2_with fail
 refine HL.out.mono ?_
 rintro e w1 ⟨rfl, rfl⟩
 go_wp2_with fail
 refine (HP.out _).mono ?_
 rintro e w2 ⟨rfl, h⟩
 go_wp2
 refine bodyPost_end (results_none rfl _ _ _) rfl ?_
 exact ⟨rfl, h⟩
theorem insI_nil (w : World) (V F : Value) (a b : Int) (ha : 0 ≤ a ∧ a ≤ 4096) (h : b ≤ a + 1) : Calls Tryz.prog 111 #[V, .int .i64 a, .int .i64 b, F] w fun e w' => e = .returned (.tuple #[]) ∧ w' = w := by
 have t1 : decide (a + 1 < b) = false := decide_eq_false (by omega)
 obtain ⟨a1, a2⟩ := ha
 go_enter Tryz.func111, Tryz.ntmps111
 go_wp2
 go_loop [8] (fun i => i = .int .i64 (a + 1)) (fun _ => 0)
 case atStart => rfl
 case round =>
  subst hrel
  go_wp2
  refine bodyPost_end (results_none rfl _ _ _) rfl ?_
  exact ⟨rfl, rfl⟩
end Go.Proofs.YtgcigdahjabimaaGreatDoor
