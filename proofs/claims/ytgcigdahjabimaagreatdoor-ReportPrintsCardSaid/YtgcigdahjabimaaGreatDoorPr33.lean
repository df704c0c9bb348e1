/- report.Histogram: the walk. -/
import Derived.Test.YtgcigdahjabimaaGreatDoorPr28
import Derived.Test.YtgcigdahjabimaaGreatDoorPr32
import Derived.Laws.MakeOwn
namespace Go.Proofs.YtgcigdahjabimaaGreatDoor
open Go.RowKit Go.Shelf
def ordK (es : List QV) (i : Nat) : Bool := decide ((es.getD i (0, false)).1 < (es.getD (i + 1) (0, false)).1)
def ordB (es : List QV) : Bool := (List.range (es.length - 1)).all (ordK es)
def hisC (s : Sm) (es : List QV) : Int := if formB s then (if es.any (fun x => !x.2) then 1 else if ordB es then (if 64 < es.length then 3 else 0) else 5) else 1
def binK (es : List QV) (t : Rat) : Nat := (es.takeWhile fun e => decide (e.1 ≤ t)).length
def hisS (s : Sm) (es : List QV) (h : List Int) (i : Nat) : List Int := if (s.rd.getD i (0, false)).1 = 0 then h else h.set (binK es (s.sx.getD i (0, false)).1) (h.getD (binK es (s.sx.getD i (0, false)).1) 0 + 1)
def hisL (s : Sm) (es : List QV) (k : Nat) : List Int := (List.range k).foldl (hisS s es) (List.replicate (es.length + 1) 0)
theorem hisL_next (s : Sm) (es : List QV) (k : Nat) : hisL s es (k + 1) = hisS s es (hisL s es k) k := by simp [hisL, List.range_succ]
theorem hisS_len (s : Sm) (es : List QV) (h : List Int) (i : Nat) : (hisS s es h i).length = h.length := by unfold hisS; split <;> simp
theorem hisL_len (s : Sm) (es : List QV) : ∀ k, (hisL s es k).length = es.length + 1
 | 0 => by simp [hisL]
 | k + 1 => by rw [hisL_next, hisS_len, hisL_len s es k]
theorem madeZ (n : Nat) : madeCells #[.int .i64 0] n = (i64s (List.replicate n 0)).toArray := by
 apply Array.ext
 ·simp [madeCells, i64s]
 ·intro i h1 h2
  simp [madeCells, i64s, Nat.mod_one]
theorem make_ints (n : Nat) (h : n ≤ 1000000) : ∀ u : World, (Instr.makeSlice 43 (.int .i64 (n : Nat)) (.int .i64 (n : Nat))).run Tryz.prog u =
 .ok (.slice (some ⟨u.heap.size, 0, none⟩) n n) (u.alloc (.cells (i64s (List.replicate n 0)).toArray 3)) := fun u => by
 obtain ⟨i0, hi, hz0, hz1, hz2⟩ := info_parts info_i64
 have h := run_make (P := Tryz.prog) u 43 3 i0 (.int .i64 0) Tryz.underlying43 hi hz0 .i64 .i64 (n : Int) (n : Int) (by omega) (by omega) (by rw [hz2]; omega) (by omega)
 rw [← madeZ]
 simpa [hz1, Value.cells] using h
theorem hisL_bd (s : Sm) (es : List QV) : ∀ k j, 0 ≤ (hisL s es k).getD j 0 ∧ (hisL s es k).getD j 0 ≤ (k : Nat)
 | 0, j => by
  unfold hisL
  simp only [List.range_zero, List.foldl_nil, List.getD, List.getElem?_replicate]
  split <;> simp
 | k + 1, j => by
  have ih := hisL_bd s es k
  rw [hisL_next, hisS]
  split
  ·have := ih j; omega
  ·have h1 := ih j
   have h2 := ih (binK es (s.sx.getD k (0, false)).1)
   generalize binK es (s.sx.getD k (0, false)).1 = b at *
   rw [List.getD, List.getElem?_set]
   split
   ·split
    ·simp only [Option.getD_some]; omega
    ·simp; omega
   ·have := ih j; rw [List.getD] at this; omega
theorem rsgn_zero (x : Rat) : x.num.sign = 0 ↔ x = 0 := by
 constructor
 ·intro h
  have a := rsgn_pos x
  have b := rsgn_neg x
  have h1 : ¬ 0 < x := fun hp => by have := a.2 hp; omega
  have h2 : ¬ x < 0 := fun hp => by have := b.2 hp; omega
  exact Rat.le_antisymm (Rat.not_lt.1 h1) (Rat.not_lt.1 h2)
 ·rintro rfl
  rfl
theorem i64s_at2 {l : List Int} {k : Nat} (h : k < l.length) : (i64s l)[k]? = some (.int .i64 (l.getD k 0)) := by simp [i64s, List.getD, h]
theorem i64s_set (l : List Int) (k : Nat) (x : Int) : (i64s l).set k (.int .i64 x) = i64s (l.set k x) := by simp [i64s, List.map_set]
theorem St.put0 {w0 w : World} {bs : List Bx} (S : St w0 w bs []) (i j : Nat) {B : Nat} {t : TypeId} {vs : List Value} (hi : bs[i]? = some (B, t, vs)) (u : Value) :
 St w0 (w.setCell ⟨B, j, none⟩ u) (bs.set i (B, t, vs.set j u)) [] := by
 have hO := S.o i hi
 have hlo := S.lo _ (List.mem_of_getElem? hi)
 exact ⟨S.k.set hlo u, Bxs.set (hO.set j u) hi rfl S.d (fun q _ e h => h.far e u) S.b, set_lo hi S.lo, set_d hi S.d, trivial⟩
def HisP (w : World) (s : Sm) (es : List QV) (e : Ending) (w' : World) : Prop := ∃ V, e = .returned (.tuple #[V, .int .i64 (hisC s es)]) ∧ Keeps w w' ∧ (hisC s es ≠ 0 → V = .slice none 0 0) ∧
 (hisC s es = 0 → ∃ g, V = .slice (some ⟨g, 0, none⟩) (es.length + 1) (es.length + 1) ∧ w.heap.size ≤ g ∧ Own w' g 3 (i64s (hisL s es s.sx.length)))
theorem HisP.bad {w w' : World} {s : Sm} {es : List QV} {z : Int} (h : hisC s es = z) (hz : z ≠ 0) (hk : Keeps w w') : HisP w s es (.returned (.tuple #[.slice none 0 0, .int .i64 z])) w' :=
 ⟨_, by rw [h], hk, fun _ => rfl, fun h0 => absurd (h.symm.trans h0) hz⟩
set_option maxRecDepth 100000 in
set_option maxHeartbeats 2000000 in
theorem hist_any {w : World} {V : Value} {s : Sm} (h : SmArg w V s) {A : Option Addr} {n c : Nat} {es : List QV} (he : Row4 RatV2 w A es) (hn : es.length = n) (hl : n ≤ 100000) (hz : SmSz s) (hze : ∀ x ∈ es, szR x.1 ≤ 1000) :
 Calls Tryz.prog 22 #[V, .slice A n c] w (HisP w s es) := by
 have HC := Lib.hid (fun (u : World) (hk : Keeps w u) => check_any (h.below hk) hz.2.2.1)
 have HCF := Lib.hid (fun (u : World) (hk : Keeps w u) => rh1_c (c := c) (he.below lasts_v hk) hn (by simp only [maxLen]; omega) (fun x => !x.2) (hist1_any u))
 have HE := Lib.hid he
 have HN := Lib.hid hn
 have HZE := Lib.hid hze
 have HSA := Lib.hid h
 have hnI : (n : Int) ≤ 100000 := by omega
 have hHC : hisC s es = if formB s then (if es.any (fun x => !x.2) then 1 else if ordB es then (if 64 < es.length then 3 else 0) else 5) else 1 := rfl
 obtain ⟨fb, hfb⟩ : ∃ b, formB s = b := ⟨_, rfl⟩
 obtain ⟨vb, hvb⟩ : ∃ b, es.any (fun x => !x.2) = b := ⟨_, rfl⟩
 rw [hfb] at HC hHC
 rw [hvb] at HCF hHC
 have HHC := Lib.hid hHC
 have HFB := Lib.hid hfb
 obtain ⟨o0, o1, o2, o3, p0, p1, p2, p3, AA, B, cc, d, rfl, h1, h2, h3, h4, h5, h6⟩ := h
 have S := (St.start w).alloc 49 (smL s o0 o1 o2 o3 p0 p1 p2 p3 AA B cc d)
 obtain ⟨W0, hW0, S⟩ := S.pack
 have H3 := Lib.hid h3
 have H4 := Lib.hid h4
 clear he hn hl hze hHC hfb hvb h1 h2 h3 h4
 have x0 := S.c 0 0 rfl rfl
 have x1 := S.c 0 1 rfl rfl
 have x2 := S.c 0 2 rfl rfl
 have x3 := S.c 0 3 rfl rfl
 have x4 := S.c 0 4 rfl rfl
 have x5 := S.c 0 5 rfl rfl
 have x6 := S.c 0 6 rfl rfl
 have x7 := S.c 0 7 rfl rfl
 have x8 := S.c 0 8 rfl rfl
 have x9 := S.c 0 9 rfl rfl
 have x10 := S.c 0 10 rfl rfl
 have x11 := S.c 0 11 rfl rfl
 have x12 := S.c 0 12 rfl rfl
 have x13 := S.c 0 13 rfl rfl
 have x14 := S.c 0 14 rfl rfl
 have x15 := S.c 0 15 rfl rfl
 have x16 := S.c 0 16 rfl rfl
 go_enter Tryz.func22, Tryz.ntmps22
 go_wp2_with fail
 refine (HC.out _ S.k).mono ?_
 rintro e W1 ⟨rfl, hk1⟩
 replace S := S.below hk1
 clear hk1 hW0
 clear x0 x1 x2 x3 x4 x5 x6 x7 x8 x9 x10 x11 x12 x13 x14 x15 x16
 cases fb with
 | false =>
  have HE1 := Lib.hid (HisP.bad (w := w) (es := es) (s := s) (z := 1) (by rw [HHC.out]; rfl) (by decide) S.k)
  go_wp2
  go_ret2
  exact HE1.out
 | true =>
  go_wp2_with fail
  refine (HCF.out _ S.k).mono ?_
  rintro e W2 ⟨rfl, hk2⟩
  replace S := S.below hk2
  clear hk2
  cases vb with
  | true =>
   have HE1 := Lib.hid (HisP.bad (w := w) (es := es) (s := s) (z := 1) (by rw [HHC.out]; rfl) (by decide) S.k)
   go_wp2
   go_ret2
   exact HE1.out
  | false =>
   go_wp2
   go_loopw [7] (fun i wr => ∃ k : Nat, 1 ≤ k ∧ k ≤ n + 1 ∧ i = .int .i64 (k : Nat) ∧ Hid ((List.range (k - 1)).all (ordK es) = true) ∧ St w wr [(w.heap.size, 49, smL s o0 o1 o2 o3 p0 p1 p2 p3 AA B cc d)] []) (fun i _ => n - (intOf i).toNat)
   case atStart => exact ⟨1, Nat.le_refl _, by omega, rfl, Lib.hid rfl, S⟩
   case round =>
    clear S
    obtain ⟨k, hk1, hk, rfl, HA, S⟩ := hrel
    by_cases hlt : k < n
    ·obtain ⟨m, hm⟩ : ∃ m, k - 1 = m := ⟨_, rfl⟩
     obtain ⟨⟨q1, vb1⟩, hq1⟩ : ∃ x, es[m]? = some x := ⟨_, List.getElem?_eq_getElem (by rw [HN.out]; omega)⟩
     obtain ⟨⟨q2, vb2⟩, hq2⟩ : ∃ x, es[k]? = some x := ⟨_, List.getElem?_eq_getElem (by rw [HN.out]; omega)⟩
     obtain ⟨Be, oe, u0, u1, u2, u3, rfl, hc1, hx1⟩ := HE.out.get lasts_v hq1
     obtain ⟨B2, o2', v0, v1, v2, v3, hA2, hc2, hx2⟩ := HE.out.get lasts_v hq2
     cases hA2
     obtain ⟨bx, Ax, nx, cx, dx, Bx, mx, ex, rfl, rfl, rfl, rfl⟩ := (hx1 w bl).open4
     obtain ⟨by', Ay, ny, cy, dy, Bz, my, ey, rfl, rfl, rfl, rfl⟩ := (hx2 w bl).open4
     have hX1 := (hx1 wr S.k).num'
     have hX2 := (hx2 wr S.k).num'
     have HC1 := Lib.hid hc1
     have HC2 := Lib.hid hc2
     have s1' := HZE.out _ (List.mem_of_getElem? hq1)
     have s2' := HZE.out _ (List.mem_of_getElem? hq2)
     simp only at hX1 hX2 s1' s2'
     replace S := (S.addR hX1).addR hX2
     have hok : ordK es m = decide (q1 < q2) := by
      unfold ordK
      simp only [List.getD, hq1, show m + 1 = k by omega, hq2, Option.getD_some]
     have HOK : Hid (q1 < q2 → (List.range (k + 1 - 1)).all (ordK es) = true) := Lib.hid fun hlt2 => by
      rw [show k + 1 - 1 = m + 1 by omega, List.range_succ, List.all_append, show m = k - 1 by omega, HA.out]
      simp only [List.all_cons, List.all_nil, Bool.and_true, Bool.true_and]
      rw [show k - 1 = m by omega, hok]
      exact decide_eq_true hlt2
     have hHB : ¬ q1 < q2 → ∀ w', Keeps w w' → HisP w s es (.returned (.tuple #[.slice none 0 0, .int .i64 5])) w' := fun hn w' hk => by
      have ho : ordB es = false := by
       unfold ordB
       rw [List.all_eq_false]
       exact ⟨m, List.mem_range.2 (by rw [HN.out]; omega), by rw [hok]; simpa using hn⟩
      exact HisP.bad (by rw [HHC.out, ho]; rfl) (by decide) hk
     have hHB := Lib.hid hHB
     have hm1 : (k : Int) - 1 = (m : Int) := by omega
     have hkI : (k : Int) < (n : Int) := by omega
     have hmn : m < n := by omega
     have hmI : (m : Int) < (n : Int) := by omega
     have hwm : IntKind.i64.wrap (m : Int) = (m : Int) := IntWalk.i64_in _ (by omega)
     clear hok hc1 hc2 hx1 hx2 hX1 hX2 hq1 hq2 HA hm
     obtain ⟨s1, hs1⟩ : ∃ s, cmpR q1 q2 = s := ⟨_, rfl⟩
     have t1 : decide ((k : Int) < (n : Int)) = true := by exact decide_eq_true (by omega)
     have HS1 := Lib.hid hs1
     clear hs1
     go_upto_region 9 with fail
     refine wp_region_steps (m := 10) rfl (by kernel_rfl) (fun iF vF wF => (List.getD [ve (.slice (some ⟨Be, oe, none⟩) n c), ve (.int .i64 (k : Int)), ve (.int .i64 ((m : Nat) : Int)), ve (.pointer (some ⟨Be, oe + m * 4, none⟩)), ve (.agg #[.bool bx, .slice Ax nx cx, .bool dx, .slice Bx mx ex]), ve (.slice (some ⟨Be, oe, none⟩) n c), ve (.int .i64 (k : Int)), ve (.pointer (some ⟨Be, oe + k * 4, none⟩)), ve (.agg #[.bool by', .slice Ay ny cy, .bool dy, .slice Bz my ey]), ve (.int .i64 s1)] iF (fun _ _ => True)) vF wF) [] ?_ ?_ ?_
     ·intro i v w w' _ h hk
      refine stabL_get ?_ i v w w' h hk
      exact stab_cons st_e (stab_cons st_e (stab_cons st_e (stab_cons st_e (stab_cons st_e (stab_cons st_e (stab_cons st_e (stab_cons st_e (stab_cons st_e (stab_cons st_e stab_nil)))))))))
     ·intro i hi vs w3 hk3 hd
      have S3 := S.drew.below hk3
      obtain ⟨g0, g1, g2, g3⟩ := HC1.out _ S3.k
      obtain ⟨y0, y1, y2, y3⟩ := HC2.out _ S3.k
      match i, hi with
      | 0, _ =>
       refine sv0 [] (ve (.slice (some ⟨Be, oe, none⟩) n c)) rfl fun K hK => ?_; clear hd; simp only [frD] at hK ⊢; go_simp
       exact hK _ _ bl rfl
      | 1, _ =>
       refine sv0 [] (ve (.int .i64 (k : Int))) rfl fun K hK => ?_; clear hd; simp only [frD] at hK ⊢; go_simp
       exact hK _ _ bl rfl
      | 2, _ =>
       have qe1 : (vs 1) = .int .i64 (k : Int) := hdk hd 1
       refine sv0 [(1, some 26)] (ve (.int .i64 ((m : Nat) : Int))) rfl fun K hK => ?_; clear hd; simp only [frD, qe1] at hK ⊢; go_simp
       exact hK _ _ bl rfl
      | 3, _ =>
       have qe0 : (vs 0) = .slice (some ⟨Be, oe, none⟩) n c := hdk hd 0; have qe2 : (vs 2) = .int .i64 ((m : Nat) : Int) := hdk hd 2
       refine sv0 [(0, some 25), (2, some 27)] (ve (.pointer (some ⟨Be, oe + m * 4, none⟩))) rfl fun K hK => ?_; clear hd; simp only [frD, qe0, qe2] at hK ⊢; go_simp
       exact hK _ _ bl rfl
      | 4, _ =>
       have qe3 : (vs 3) = .pointer (some ⟨Be, oe + m * 4, none⟩) := hdk hd 3
       refine sv0 [(3, some 28)] (ve (.agg #[.bool bx, .slice Ax nx cx, .bool dx, .slice Bx mx ex])) rfl fun K hK => ?_; clear hd; simp only [frD, qe3] at hK ⊢; go_simp
       exact hK _ _ bl rfl
      | 5, _ =>
       refine sv0 [] (ve (.slice (some ⟨Be, oe, none⟩) n c)) rfl fun K hK => ?_; clear hd; simp only [frD] at hK ⊢; go_simp
       exact hK _ _ bl rfl
      | 6, _ =>
       refine sv0 [] (ve (.int .i64 (k : Int))) rfl fun K hK => ?_; clear hd; simp only [frD] at hK ⊢; go_simp
       exact hK _ _ bl rfl
      | 7, _ =>
       have qe5 : (vs 5) = .slice (some ⟨Be, oe, none⟩) n c := hdk hd 5; have qe6 : (vs 6) = .int .i64 (k : Int) := hdk hd 6
       refine sv0 [(5, some 30), (6, some 31)] (ve (.pointer (some ⟨Be, oe + k * 4, none⟩))) rfl fun K hK => ?_; clear hd; simp only [frD, qe5, qe6] at hK ⊢; go_simp
       exact hK _ _ bl rfl
      | 8, _ =>
       have qe7 : (vs 7) = .pointer (some ⟨Be, oe + k * 4, none⟩) := hdk hd 7
       refine sv0 [(7, some 32)] (ve (.agg #[.bool by', .slice Ay ny cy, .bool dy, .slice Bz my ey])) rfl fun K hK => ?_; clear hd; simp only [frD, qe7] at hK ⊢; go_simp
       exact hK _ _ bl rfl
      | 9, _ =>
       have qe4 : (vs 4) = .agg #[.bool bx, .slice Ax nx cx, .bool dx, .slice Bx mx ex] := hdk hd 4; have qe8 : (vs 8) = .agg #[.bool by', .slice Ay ny cy, .bool dy, .slice Bz my ey] := hdk hd 8
       refine sc (A := #[(vs 4), (vs 8)]) (B := #[.agg #[.bool bx, .slice Ax nx cx, .bool dx, .slice Bx mx ex], .agg #[.bool by', .slice Ay ny cy, .bool dy, .slice Bz my ey]]) [(4, some 29), (8, some 33)] (ve (.int .i64 s1)) rfl (wanted_none rfl) (by rw [qe4, qe8]) Tryz.func47 ?_
       refine ((fcompare_s (S3.ri 1 rfl) (S3.ri 0 rfl) HS1.out)).mono ?_; rintro e w4 ⟨rfl, hk4⟩; exact ⟨_, rfl, hk4, rfl⟩
      | i + 10, hi => exact absurd hi (by omega)
     ·intro vs W41 hk3 hΦ _
      simp only [List.drop_succ_cons, List.drop_zero]
      rw [fr_frD, show (List.range 10).map _ = [(0, some 25), (1, some 26), (2, some 27), (3, some 28), (4, some 29), (5, some 30), (6, some 31), (7, some 32), (8, some 33), (9, some 34)] by kernel_rfl]
      have pi0 : (vs 0) = .slice (some ⟨Be, oe, none⟩) n c := hΦ 0 (by decide)
      have pi1 : (vs 1) = .int .i64 (k : Int) := hΦ 1 (by decide)
      have pi2 : (vs 2) = .int .i64 ((m : Nat) : Int) := hΦ 2 (by decide)
      have pi3 : (vs 3) = .pointer (some ⟨Be, oe + m * 4, none⟩) := hΦ 3 (by decide)
      have pi4 : (vs 4) = .agg #[.bool bx, .slice Ax nx cx, .bool dx, .slice Bx mx ex] := hΦ 4 (by decide)
      have pi5 : (vs 5) = .slice (some ⟨Be, oe, none⟩) n c := hΦ 5 (by decide)
      have pi6 : (vs 6) = .int .i64 (k : Int) := hΦ 6 (by decide)
      have pi7 : (vs 7) = .pointer (some ⟨Be, oe + k * 4, none⟩) := hΦ 7 (by decide)
      have pi8 : (vs 8) = .agg #[.bool by', .slice Ay ny cy, .bool dy, .slice Bz my ey] := hΦ 8 (by decide)
      have pi9 : (vs 9) = .int .i64 s1 := hΦ 9 (by decide)
      clear hΦ
      simp only [frD, pi0, pi1, pi2, pi3, pi4, pi5, pi6, pi7, pi8, pi9]
      simp only [Act.put, List.setIfInBounds_toArray, List.set_cons_zero, List.set_cons_succ]
      clear pi0 pi1 pi2 pi3 pi4 pi5 pi6 pi7 pi8 pi9
      replace S := S.drew.below hk3
      clear hk3
      rcases Bool.eq_false_or_eq_true (decide (0 ≤ s1)) with t2 | t2
      ·skip
       go_wp2
       go_ret2
       exact hHB.out (by have h1 := of_decide_eq_true t2; rw [← HS1.out] at h1; exact fun h => absurd ((cmpR_lt _ _).2 h) (by omega)) _ S.k
      ·skip
       go_wp2
       have HN1 := Lib.hid (HOK.out (by have h1 := of_decide_eq_false t2; rw [← HS1.out] at h1; exact (cmpR_lt _ _).1 (by omega)))
       go_roundw
       case rel => exact ⟨k + 1, by omega, by omega, by go_num, HN1, S.onlyL⟩
       case measure => simp [intOf]; omega
    ·have hkI : ¬ (k : Int) < (n : Int) := by omega
     have t1 : decide ((k : Int) < (n : Int)) = false := decide_eq_false hkI
     have ho : ordB es = true := by
      unfold ordB
      rw [List.all_eq_true]
      intro i hi
      exact List.all_eq_true.1 HA.out i (List.mem_range.2 (by have := List.mem_range.1 hi; rw [HN.out] at this; omega))
     have hhc : hisC s es = if 64 < es.length then 3 else 0 := by rw [HHC.out, ho]; rfl
     rw [HN.out] at hhc
     clear ho HA HCF HC
     by_cases h64 : 64 < n
     ·have t2 : decide ((64 : Int) < (n : Int)) = true := decide_eq_true (by omega)
      have HE1 := Lib.hid (HisP.bad (w := w) (es := es) (s := s) (z := 3) (by rw [hhc, if_pos h64]) (by decide) S.k)
      clear hhc
      go_wp2
      go_ret2
      exact HE1.out
     ·have t2 : decide ((64 : Int) < (n : Int)) = false := decide_eq_false (by omega)
      have HH0 : Hid (hisC s es = 0) := Lib.hid (by rw [hhc, if_neg h64])
      clear hhc
      have hmk := make_ints (n + 1) (by omega)
      have hc1 : ((n + 1 : Nat) : Int) = (n : Int) + 1 := by omega
      rw [hc1] at hmk
      go_upto_region 14 with fail
      replace S := S.alloc 3 (i64s (List.replicate (n + 1) 0))
      obtain ⟨W6, eW, S⟩ := S.pack
      rw [eW]
      clear eW hmk hc1
      generalize wr.heap.size = gh at *
      have x15 := S.c 1 15 rfl rfl
      have hsl : (s.sx.length : Int) ≤ 9223372036854775807 := by simp only [maxLen] at h6; omega
      go_wp2
      clear x15
      have HH : Hid (hisL s es 0 = List.replicate (n + 1) 0) := Lib.hid (by rw [← HN.out]; rfl)
      go_loopw [46] (fun i wr => ∃ k : Nat, k ≤ s.sx.length ∧ i = .int .i64 (k : Nat) ∧ St w wr [(gh, 3, i64s (hisL s es k)), (w.heap.size, 49, smL s o0 o1 o2 o3 p0 p1 p2 p3 AA B cc d)] []) (fun i _ => s.sx.length - (intOf i).toNat)
      case atStart => exact ⟨0, Nat.zero_le _, rfl, by rw [HH.out]; exact S⟩
      case round =>
       clear S HH
       obtain ⟨k', hk', rfl, S⟩ := hrel
       by_cases hlt2 : k' < s.sx.length
       ·have hfo := form_ok HFB.out
        have hlr : k' < s.rd.length := by omega
        obtain ⟨⟨qt, vbt⟩, hqt⟩ : ∃ x, s.sx[k']? = some x := ⟨_, List.getElem?_eq_getElem hlt2⟩
        obtain ⟨⟨qr, vbr⟩, hqr⟩ : ∃ x, s.rd[k']? = some x := ⟨_, List.getElem?_eq_getElem hlr⟩
        obtain ⟨Bs, os, u0, u1, u2, u3, rfl, hc1, hx1⟩ := H4.out.get lasts_v hqt
        obtain ⟨Br, or', v0, v1, v2, v3, rfl, hc2, hx2⟩ := H3.out.get lasts_v hqr
        obtain ⟨bt, At, nt, ct, dt, Bt, mt, et, rfl, rfl, rfl, rfl⟩ := (hx1 w bl).open4
        obtain ⟨br, Ar, nr, cr, dr, Bq, mr, er, rfl, rfl, rfl, rfl⟩ := (hx2 w bl).open4
        have hkI2 : (k' : Int) < (s.sx.length : Int) := by omega
        have hkI3 : (k' : Int) < (s.rd.length : Int) := by omega
        have t3 : decide ((k' : Int) < (s.sx.length : Int)) = true := decide_eq_true hkI2
        have hst : hisL s es (k' + 1) = if qr = 0 then hisL s es k' else (hisL s es k').set (binK es qt) ((hisL s es k').getD (binK es qt) 0 + 1) := by
         rw [hisL_next, hisS]
         simp only [List.getD, hqr, hqt, Option.getD_some]
        have HST := Lib.hid hst
        have HX1 : Hid (∀ W, Keeps w W → RatNum W (.agg #[.bool bt, .slice At nt ct, .bool dt, .slice Bt mt et]) qt) := Lib.hid fun W hk => (hx1 W hk).num'
        have HX2 : Hid (∀ W, Keeps w W → RatNum W (.agg #[.bool br, .slice Ar nr cr, .bool dr, .slice Bq mr er]) qr) := Lib.hid fun W hk => (hx2 W hk).num'
        have HC2 := Lib.hid hc2
        obtain ⟨g0, g1, g2, g3⟩ := hc1 wr S.k
        clear hfo hqt hqr hc1 hc2 hx1 hx2 hst
        go_upto_region 17 with fail
        replace S := S.alloc 31 [.bool bt, .slice At nt ct, .bool dt, .slice Bt mt et]
        obtain ⟨W7, eW, S⟩ := S.pack
        rw [eW]
        clear eW g0 g1 g2 g3
        generalize wr.heap.size = P8 at *
        obtain ⟨y0, y1, y2, y3⟩ := HC2.out _ S.k
        have x14 := S.c 2 14 rfl rfl
        obtain ⟨sg, hsg⟩ : ∃ s, qr.num.sign = s := ⟨_, rfl⟩
        have HSG := Lib.hid hsg
        have hs0 : sg = 0 ↔ qr = 0 := by rw [← hsg]; exact rsgn_zero qr
        clear hsg
        go_wp2_with fail
        refine (fsign_s (HX2.out _ S.k) HSG.out).mono ?_
        rintro e W8 ⟨rfl, hk8⟩
        replace S := S.below hk8
        clear hk8 y0 y1 y2 y3 x14
        by_cases hsz : sg = 0
        ·have t4 : (sg == 0) = true := by simp [hsz]
         have HS2 : Hid (hisL s es (k' + 1) = hisL s es k') := Lib.hid (by rw [HST.out, if_pos (hs0.1 hsz)])
         clear hs0 hsz
         go_wp2
         go_roundw
         case rel => exact ⟨k' + 1, by omega, by go_num, by rw [HS2.out]; exact S.dropb⟩
         case measure => simp [intOf]; omega
        ·have t4 : (sg == 0) = false := by simp [hsz]
         have HS2 : Hid (hisL s es (k' + 1) = (hisL s es k').set (binK es qt) ((hisL s es k').getD (binK es qt) 0 + 1)) := Lib.hid (by rw [HST.out, if_neg fun h => hsz (hs0.2 h)])
         clear hs0 hsz HST
         go_wp2
         have hbd := hisL_bd s es k'
         have hln := hisL_len s es k'
         rw [HN.out] at hln
         obtain ⟨hs, hhs⟩ : ∃ h, hisL s es k' = h := ⟨_, rfl⟩
         rw [hhs] at hbd hln S HS2
         clear hhs
         go_loopw [11] (fun a wr => ∃ j : Nat, j ≤ n ∧ a = .int .i64 (j : Nat) ∧ Hid ((es.take j).all (fun e => decide (e.1 ≤ qt)) = true) ∧ St w wr [(P8, 31, [.bool bt, .slice At nt ct, .bool dt, .slice Bt mt et]), (gh, 3, i64s hs), (w.heap.size, 49, smL s o0 o1 o2 o3 p0 p1 p2 p3 (some ⟨Br, or', none⟩) (some ⟨Bs, os, none⟩) cc d)] []) (fun a _ => n - (intOf a).toNat)
         case atStart => exact ⟨0, Nat.zero_le _, rfl, Lib.hid rfl, S⟩
         case round =>
          clear S
          obtain ⟨j, hj, rfl, HJ, S⟩ := hrel
          by_cases hjl : j < n
          ·obtain ⟨⟨q2, vb2⟩, hq2⟩ : ∃ x, es[j]? = some x := ⟨_, List.getElem?_eq_getElem (by rw [HN.out]; exact hjl)⟩
           obtain ⟨Be, oe, z0, z1, z2, z3, rfl, hc2, hx2⟩ := HE.out.get lasts_v hq2
           obtain ⟨by', Ay, ny, cy, dy, Bz, my, ey, rfl, rfl, rfl, rfl⟩ := (hx2 w bl).open4
           have HC2 := Lib.hid hc2
           have hX2 := (hx2 wr S.k).num'
           have HGO : Hid (q2 ≤ qt → (es.take (j + 1)).all (fun e => decide (e.1 ≤ qt)) = true) := Lib.hid fun h => all_snoc hq2 HJ.out (by simpa using h)
           have HBK : Hid (¬ q2 ≤ qt → binK es qt = j) := Lib.hid fun h => takeW_len (by rw [HN.out]; exact hj) HJ.out fun x hx => by
            rw [hq2] at hx
            obtain rfl := Option.some.inj hx
            simpa using h
           replace S := (S.addR (HX1.out _ S.k)).addR hX2
           have hjI : (j : Int) < (n : Int) := by omega
           have tj : decide ((j : Int) < (n : Int)) = true := decide_eq_true hjI
           clear hc2 hx2 hX2 hq2 HJ
           obtain ⟨s1, hs1⟩ : ∃ s, cmpR qt q2 = s := ⟨_, rfl⟩
           have HS1 := Lib.hid hs1
           clear hs1
           go_upto_region 19 with fail
           rcases Bool.eq_false_or_eq_true (decide (0 ≤ s1)) with t1 | t1
           ·skip
            refine wp_region_steps (m := 12) rfl (by kernel_rfl) (fun iF vF wF => (List.getD [ve (.int .i64 (j : Int)), ve (.slice (some ⟨Be, oe, none⟩) n c), ve (.int .i64 (n : Int)), ve (.bool true), ve (.bool true), ve (.agg #[.bool bt, .slice At nt ct, .bool dt, .slice Bt mt et]), ve (.slice (some ⟨Be, oe, none⟩) n c), ve (.int .i64 (j : Int)), ve (.pointer (some ⟨Be, oe + j * 4, none⟩)), ve (.agg #[.bool by', .slice Ay ny cy, .bool dy, .slice Bz my ey]), ve (.int .i64 s1), ve (.bool true)] iF (fun _ _ => True)) vF wF) [] ?_ ?_ ?_
            ·intro i v w w' _ h hk
             refine stabL_get ?_ i v w w' h hk
             exact stab_cons st_e (stab_cons st_e (stab_cons st_e (stab_cons st_e (stab_cons st_e (stab_cons st_e (stab_cons st_e (stab_cons st_e (stab_cons st_e (stab_cons st_e (stab_cons st_e (stab_cons st_e stab_nil)))))))))))
            ·intro i hi vs w3 hk3 hd
             have S3 := S.drew.below hk3
             obtain ⟨y0, y1, y2, y3⟩ := HC2.out _ S3.k
             obtain ⟨a0, a1, a2, a3⟩ := S3.cc4 0 rfl
             match i, hi with
             | 0, _ =>
              refine sv0 [] (ve (.int .i64 (j : Int))) rfl fun K hK => ?_; clear hd; simp only [frD] at hK ⊢; go_simp
              exact hK _ _ bl rfl
             | 1, _ =>
              refine sv0 [] (ve (.slice (some ⟨Be, oe, none⟩) n c)) rfl fun K hK => ?_; clear hd; simp only [frD] at hK ⊢; go_simp
              exact hK _ _ bl rfl
             | 2, _ =>
              have qe1 : (vs 1) = .slice (some ⟨Be, oe, none⟩) n c := hdk hd 1
              refine sv0 [(1, some 59)] (ve (.int .i64 (n : Int))) rfl fun K hK => ?_; clear hd; simp only [frD, qe1] at hK ⊢; go_simp
              exact hK _ _ bl rfl
             | 3, _ =>
              have qe0 : (vs 0) = .int .i64 (j : Int) := hdk hd 0; have qe2 : (vs 2) = .int .i64 (n : Int) := hdk hd 2
              refine sv0 [(0, some 58), (2, some 60)] (ve (.bool true)) rfl fun K hK => ?_; clear hd; simp only [frD, qe0, qe2] at hK ⊢; go_simp
              exact hK _ _ bl rfl
             | 4, _ =>
              have qe3 : (vs 3) = .bool true := hdk hd 3
              refine sv0 [(3, some 61)] (ve (.bool true)) rfl fun K hK => ?_; clear hd; simp only [frD, qe3] at hK ⊢; go_simp
              exact hK _ _ bl rfl
             | 5, _ =>
              have qe4 : (vs 4) = .bool true := hdk hd 4
              refine svg [(4, some 62)] (ve (.agg #[.bool bt, .slice At nt ct, .bool dt, .slice Bt mt et])) rfl (ws 62 qe4) fun K hK => ?_; clear hd; simp only [frD, qe4] at hK ⊢; go_simp
              exact hK _ _ bl rfl
             | 6, _ =>
              have qe4 : (vs 4) = .bool true := hdk hd 4
              refine svg [(4, some 62)] (ve (.slice (some ⟨Be, oe, none⟩) n c)) rfl (ws 62 qe4) fun K hK => ?_; clear hd; simp only [frD, qe4] at hK ⊢; go_simp
              exact hK _ _ bl rfl
             | 7, _ =>
              have qe4 : (vs 4) = .bool true := hdk hd 4
              refine svg [(4, some 62)] (ve (.int .i64 (j : Int))) rfl (ws 62 qe4) fun K hK => ?_; clear hd; simp only [frD, qe4] at hK ⊢; go_simp
              exact hK _ _ bl rfl
             | 8, _ =>
              have qe4 : (vs 4) = .bool true := hdk hd 4; have qe6 : (vs 6) = .slice (some ⟨Be, oe, none⟩) n c := hdk hd 6; have qe7 : (vs 7) = .int .i64 (j : Int) := hdk hd 7
              refine svg [(4, some 62), (6, some 64), (7, some 65)] (ve (.pointer (some ⟨Be, oe + j * 4, none⟩))) rfl (ws 62 qe4) fun K hK => ?_; clear hd; simp only [frD, qe4, qe6, qe7] at hK ⊢; go_simp
              exact hK _ _ bl rfl
             | 9, _ =>
              have qe4 : (vs 4) = .bool true := hdk hd 4; have qe8 : (vs 8) = .pointer (some ⟨Be, oe + j * 4, none⟩) := hdk hd 8
              refine svg [(4, some 62), (8, some 66)] (ve (.agg #[.bool by', .slice Ay ny cy, .bool dy, .slice Bz my ey])) rfl (ws 62 qe4) fun K hK => ?_; clear hd; simp only [frD, qe4, qe8] at hK ⊢; go_simp
              exact hK _ _ bl rfl
             | 10, _ =>
              have qe4 : (vs 4) = .bool true := hdk hd 4; have qe5 : (vs 5) = .agg #[.bool bt, .slice At nt ct, .bool dt, .slice Bt mt et] := hdk hd 5; have qe9 : (vs 9) = .agg #[.bool by', .slice Ay ny cy, .bool dy, .slice Bz my ey] := hdk hd 9
              refine sc (A := #[(vs 5), (vs 9)]) (B := #[.agg #[.bool bt, .slice At nt ct, .bool dt, .slice Bt mt et], .agg #[.bool by', .slice Ay ny cy, .bool dy, .slice Bz my ey]]) [(4, some 62), (5, some 63), (9, some 67)] (ve (.int .i64 s1)) rfl (ws 62 qe4) (by rw [qe5, qe9]) Tryz.func47 ?_
              refine ((fcompare_s (S3.ri 1 rfl) (S3.ri 0 rfl) HS1.out)).mono ?_; rintro e w4 ⟨rfl, hk4⟩; exact ⟨_, rfl, hk4, rfl⟩
             | 11, _ =>
              have qe4 : (vs 4) = .bool true := hdk hd 4; have qe10 : (vs 10) = .int .i64 s1 := hdk hd 10
              refine svg [(4, some 62), (10, some 68)] (ve (.bool true)) rfl (ws 62 qe4) fun K hK => ?_; clear hd; simp only [frD, qe4, qe10] at hK ⊢; go_simp
              exact hK _ _ bl rfl
             | i + 12, hi => exact absurd hi (by omega)
            ·intro vs W61 hk3 hΦ _
             simp only [List.drop_succ_cons, List.drop_zero]
             rw [fr_frD, show (List.range 12).map _ = [(0, some 58), (1, some 59), (2, some 60), (3, some 61), (4, some 62), (5, some 63), (6, some 64), (7, some 65), (8, some 66), (9, some 67), (10, some 68), (11, some 69)] by kernel_rfl]
             have pu0 : (vs 0) = .int .i64 (j : Int) := hΦ 0 (by decide)
             have pu1 : (vs 1) = .slice (some ⟨Be, oe, none⟩) n c := hΦ 1 (by decide)
             have pu2 : (vs 2) = .int .i64 (n : Int) := hΦ 2 (by decide)
             have pu3 : (vs 3) = .bool true := hΦ 3 (by decide)
             have pu4 : (vs 4) = .bool true := hΦ 4 (by decide)
             have pu5 : (vs 5) = .agg #[.bool bt, .slice At nt ct, .bool dt, .slice Bt mt et] := hΦ 5 (by decide)
             have pu6 : (vs 6) = .slice (some ⟨Be, oe, none⟩) n c := hΦ 6 (by decide)
             have pu7 : (vs 7) = .int .i64 (j : Int) := hΦ 7 (by decide)
             have pu8 : (vs 8) = .pointer (some ⟨Be, oe + j * 4, none⟩) := hΦ 8 (by decide)
             have pu9 : (vs 9) = .agg #[.bool by', .slice Ay ny cy, .bool dy, .slice Bz my ey] := hΦ 9 (by decide)
             have pu10 : (vs 10) = .int .i64 s1 := hΦ 10 (by decide)
             have pu11 : (vs 11) = .bool true := hΦ 11 (by decide)
             clear hΦ
             simp only [frD, pu0, pu1, pu2, pu3, pu4, pu5, pu6, pu7, pu8, pu9, pu10, pu11]
             simp only [Act.put, List.setIfInBounds_toArray, List.set_cons_zero, List.set_cons_succ]
             clear pu0 pu1 pu2 pu3 pu4 pu5 pu6 pu7 pu8 pu9 pu10 pu11
             replace S := S.drew.below hk3
             clear hk3
             go_wp2
             have HN1 := Lib.hid (HGO.out (by have h1 := of_decide_eq_true t1; rw [← HS1.out] at h1; exact Rat.not_lt.1 fun h => absurd ((cmpR_lt _ _).2 h) (by omega)))
             go_roundw
             case rel => exact ⟨j + 1, by omega, by go_num, HN1, S.onlyL⟩
             case measure => simp [intOf]; omega
           ·skip
            refine wp_region_steps (m := 12) rfl (by kernel_rfl) (fun iF vF wF => (List.getD [ve (.int .i64 (j : Int)), ve (.slice (some ⟨Be, oe, none⟩) n c), ve (.int .i64 (n : Int)), ve (.bool true), ve (.bool true), ve (.agg #[.bool bt, .slice At nt ct, .bool dt, .slice Bt mt et]), ve (.slice (some ⟨Be, oe, none⟩) n c), ve (.int .i64 (j : Int)), ve (.pointer (some ⟨Be, oe + j * 4, none⟩)), ve (.agg #[.bool by', .slice Ay ny cy, .bool dy, .slice Bz my ey]), ve (.int .i64 s1), ve (.bool false)] iF (fun _ _ => True)) vF wF) [] ?_ ?_ ?_
            ·intro i v w w' _ h hk
             refine stabL_get ?_ i v w w' h hk
             exact stab_cons st_e (stab_cons st_e (stab_cons st_e (stab_cons st_e (stab_cons st_e (stab_cons st_e (stab_cons st_e (stab_cons st_e (stab_cons st_e (stab_cons st_e (stab_cons st_e (stab_cons st_e stab_nil)))))))))))
            ·intro i hi vs w3 hk3 hd
             have S3 := S.drew.below hk3
             obtain ⟨y0, y1, y2, y3⟩ := HC2.out _ S3.k
             obtain ⟨a0, a1, a2, a3⟩ := S3.cc4 0 rfl
             match i, hi with
             | 0, _ =>
              refine sv0 [] (ve (.int .i64 (j : Int))) rfl fun K hK => ?_; clear hd; simp only [frD] at hK ⊢; go_simp
              exact hK _ _ bl rfl
             | 1, _ =>
              refine sv0 [] (ve (.slice (some ⟨Be, oe, none⟩) n c)) rfl fun K hK => ?_; clear hd; simp only [frD] at hK ⊢; go_simp
              exact hK _ _ bl rfl
             | 2, _ =>
              have qe1 : (vs 1) = .slice (some ⟨Be, oe, none⟩) n c := hdk hd 1
              refine sv0 [(1, some 59)] (ve (.int .i64 (n : Int))) rfl fun K hK => ?_; clear hd; simp only [frD, qe1] at hK ⊢; go_simp
              exact hK _ _ bl rfl
             | 3, _ =>
              have qe0 : (vs 0) = .int .i64 (j : Int) := hdk hd 0; have qe2 : (vs 2) = .int .i64 (n : Int) := hdk hd 2
              refine sv0 [(0, some 58), (2, some 60)] (ve (.bool true)) rfl fun K hK => ?_; clear hd; simp only [frD, qe0, qe2] at hK ⊢; go_simp
              exact hK _ _ bl rfl
             | 4, _ =>
              have qe3 : (vs 3) = .bool true := hdk hd 3
              refine sv0 [(3, some 61)] (ve (.bool true)) rfl fun K hK => ?_; clear hd; simp only [frD, qe3] at hK ⊢; go_simp
              exact hK _ _ bl rfl
             | 5, _ =>
              have qe4 : (vs 4) = .bool true := hdk hd 4
              refine svg [(4, some 62)] (ve (.agg #[.bool bt, .slice At nt ct, .bool dt, .slice Bt mt et])) rfl (ws 62 qe4) fun K hK => ?_; clear hd; simp only [frD, qe4] at hK ⊢; go_simp
              exact hK _ _ bl rfl
             | 6, _ =>
              have qe4 : (vs 4) = .bool true := hdk hd 4
              refine svg [(4, some 62)] (ve (.slice (some ⟨Be, oe, none⟩) n c)) rfl (ws 62 qe4) fun K hK => ?_; clear hd; simp only [frD, qe4] at hK ⊢; go_simp
              exact hK _ _ bl rfl
             | 7, _ =>
              have qe4 : (vs 4) = .bool true := hdk hd 4
              refine svg [(4, some 62)] (ve (.int .i64 (j : Int))) rfl (ws 62 qe4) fun K hK => ?_; clear hd; simp only [frD, qe4] at hK ⊢; go_simp
              exact hK _ _ bl rfl
             | 8, _ =>
              have qe4 : (vs 4) = .bool true := hdk hd 4; have qe6 : (vs 6) = .slice (some ⟨Be, oe, none⟩) n c := hdk hd 6; have qe7 : (vs 7) = .int .i64 (j : Int) := hdk hd 7
              refine svg [(4, some 62), (6, some 64), (7, some 65)] (ve (.pointer (some ⟨Be, oe + j * 4, none⟩))) rfl (ws 62 qe4) fun K hK => ?_; clear hd; simp only [frD, qe4, qe6, qe7] at hK ⊢; go_simp
              exact hK _ _ bl rfl
             | 9, _ =>
              have qe4 : (vs 4) = .bool true := hdk hd 4; have qe8 : (vs 8) = .pointer (some ⟨Be, oe + j * 4, none⟩) := hdk hd 8
              refine svg [(4, some 62), (8, some 66)] (ve (.agg #[.bool by', .slice Ay ny cy, .bool dy, .slice Bz my ey])) rfl (ws 62 qe4) fun K hK => ?_; clear hd; simp only [frD, qe4, qe8] at hK ⊢; go_simp
              exact hK _ _ bl rfl
             | 10, _ =>
              have qe4 : (vs 4) = .bool true := hdk hd 4; have qe5 : (vs 5) = .agg #[.bool bt, .slice At nt ct, .bool dt, .slice Bt mt et] := hdk hd 5; have qe9 : (vs 9) = .agg #[.bool by', .slice Ay ny cy, .bool dy, .slice Bz my ey] := hdk hd 9
              refine sc (A := #[(vs 5), (vs 9)]) (B := #[.agg #[.bool bt, .slice At nt ct, .bool dt, .slice Bt mt et], .agg #[.bool by', .slice Ay ny cy, .bool dy, .slice Bz my ey]]) [(4, some 62), (5, some 63), (9, some 67)] (ve (.int .i64 s1)) rfl (ws 62 qe4) (by rw [qe5, qe9]) Tryz.func47 ?_
              refine ((fcompare_s (S3.ri 1 rfl) (S3.ri 0 rfl) HS1.out)).mono ?_; rintro e w4 ⟨rfl, hk4⟩; exact ⟨_, rfl, hk4, rfl⟩
             | 11, _ =>
              have qe4 : (vs 4) = .bool true := hdk hd 4; have qe10 : (vs 10) = .int .i64 s1 := hdk hd 10
              refine svg [(4, some 62), (10, some 68)] (ve (.bool false)) rfl (ws 62 qe4) fun K hK => ?_; clear hd; simp only [frD, qe4, qe10] at hK ⊢; go_simp
              exact hK _ _ bl rfl
             | i + 12, hi => exact absurd hi (by omega)
            ·intro vs W61 hk3 hΦ _
             simp only [List.drop_succ_cons, List.drop_zero]
             rw [fr_frD, show (List.range 12).map _ = [(0, some 58), (1, some 59), (2, some 60), (3, some 61), (4, some 62), (5, some 63), (6, some 64), (7, some 65), (8, some 66), (9, some 67), (10, some 68), (11, some 69)] by kernel_rfl]
             have pu0 : (vs 0) = .int .i64 (j : Int) := hΦ 0 (by decide)
             have pu1 : (vs 1) = .slice (some ⟨Be, oe, none⟩) n c := hΦ 1 (by decide)
             have pu2 : (vs 2) = .int .i64 (n : Int) := hΦ 2 (by decide)
             have pu3 : (vs 3) = .bool true := hΦ 3 (by decide)
             have pu4 : (vs 4) = .bool true := hΦ 4 (by decide)
             have pu5 : (vs 5) = .agg #[.bool bt, .slice At nt ct, .bool dt, .slice Bt mt et] := hΦ 5 (by decide)
             have pu6 : (vs 6) = .slice (some ⟨Be, oe, none⟩) n c := hΦ 6 (by decide)
             have pu7 : (vs 7) = .int .i64 (j : Int) := hΦ 7 (by decide)
             have pu8 : (vs 8) = .pointer (some ⟨Be, oe + j * 4, none⟩) := hΦ 8 (by decide)
             have pu9 : (vs 9) = .agg #[.bool by', .slice Ay ny cy, .bool dy, .slice Bz my ey] := hΦ 9 (by decide)
             have pu10 : (vs 10) = .int .i64 s1 := hΦ 10 (by decide)
             have pu11 : (vs 11) = .bool false := hΦ 11 (by decide)
             clear hΦ
             simp only [frD, pu0, pu1, pu2, pu3, pu4, pu5, pu6, pu7, pu8, pu9, pu10, pu11]
             simp only [Act.put, List.setIfInBounds_toArray, List.set_cons_zero, List.set_cons_succ]
             clear pu0 pu1 pu2 pu3 pu4 pu5 pu6 pu7 pu8 pu9 pu10 pu11
             replace S := S.drew.below hk3
             clear hk3
             have HBK2 := Lib.hid (HBK.out (by have h1 := of_decide_eq_false t1; rw [← HS1.out] at h1; exact fun h => h1 (by have h2 : ¬ cmpR qt q2 < 0 := fun hc => absurd ((cmpR_lt qt q2).1 hc) (Rat.not_lt.2 h); omega)))
             have hjn : j < hs.length := by omega
             have hwk := S.c 1 j rfl (i64s_at2 hjn)
             have hfk := S.f 1 j rfl
             have hbj := hbd j
             have HS3 : Hid (hisL s es (k' + 1) = hs.set j (hs.getD j 0 + 1)) := Lib.hid (by rw [HS2.out, HBK2.out])
             generalize hs.getD j 0 = vj at *
             have S9 := (S.onlyL.put0 1 j rfl (.int .i64 (vj + 1))).dropb
             have hjI3 : (j : Int) < (n : Int) + 1 := by omega
             have hwv : IntKind.i64.wrap (vj + 1) = vj + 1 := IntWalk.i64_in _ (by simp only [maxLen] at h6; omega)
             go_wp2
             go_roundw
             case rel => exact ⟨k' + 1, by omega, by go_num, by rw [HS3.out, ← i64s_set]; exact S9⟩
             case measure => simp [intOf]; omega
          ·have hjI : ¬ (j : Int) < (n : Int) := by omega
           have tj : decide ((j : Int) < (n : Int)) = false := decide_eq_false hjI
           have HBJ : Hid (binK es qt = j) := Lib.hid (takeW_len (by rw [HN.out]; exact hj) HJ.out fun x hx => by
            have := (List.getElem?_eq_some_iff.1 hx).1
            rw [HN.out] at this
            omega)
           have HBK2 := HBJ
           replace S := S.addR (HX1.out _ S.k)
           clear HJ
           go_upto_region 19 with fail
           refine wp_region_steps (m := 12) rfl (by kernel_rfl) (fun iF vF wF => (List.getD [ve (.int .i64 (j : Int)), ve (.slice A n c), ve (.int .i64 (n : Int)), ve (.bool false), ve (.bool false), ve undef, ve undef, ve undef, ve undef, ve undef, ve undef, ve undef] iF (fun _ _ => True)) vF wF) [] ?_ ?_ ?_
           ·intro i v w w' _ h hk
            refine stabL_get ?_ i v w w' h hk
            exact stab_cons st_e (stab_cons st_e (stab_cons st_e (stab_cons st_e (stab_cons st_e (stab_cons st_e (stab_cons st_e (stab_cons st_e (stab_cons st_e (stab_cons st_e (stab_cons st_e (stab_cons st_e stab_nil)))))))))))
           ·intro i hi vs w3 hk3 hd
            have S3 := S.drew.below hk3
            match i, hi with
            | 0, _ =>
             refine sv0 [] (ve (.int .i64 (j : Int))) rfl fun K hK => ?_; clear hd; simp only [frD] at hK ⊢; go_simp
             exact hK _ _ bl rfl
            | 1, _ =>
             refine sv0 [] (ve (.slice A n c)) rfl fun K hK => ?_; clear hd; simp only [frD] at hK ⊢; go_simp
             exact hK _ _ bl rfl
            | 2, _ =>
             have qe1 : (vs 1) = .slice A n c := hdk hd 1
             refine sv0 [(1, some 59)] (ve (.int .i64 (n : Int))) rfl fun K hK => ?_; clear hd; simp only [frD, qe1] at hK ⊢; go_simp
             exact hK _ _ bl rfl
            | 3, _ =>
             have qe0 : (vs 0) = .int .i64 (j : Int) := hdk hd 0; have qe2 : (vs 2) = .int .i64 (n : Int) := hdk hd 2
             refine sv0 [(0, some 58), (2, some 60)] (ve (.bool false)) rfl fun K hK => ?_; clear hd; simp only [frD, qe0, qe2] at hK ⊢; go_simp
             exact hK _ _ bl rfl
            | 4, _ =>
             have qe3 : (vs 3) = .bool false := hdk hd 3
             refine sv0 [(3, some 61)] (ve (.bool false)) rfl fun K hK => ?_; clear hd; simp only [frD, qe3] at hK ⊢; go_simp
             exact hK _ _ bl rfl
            | 5, _ =>
             have qe4 : (vs 4) = .bool false := hdk hd 4
             exact step_no [(4, some 62)] rfl (by kernel_rfl) (by simp only [frD, qe4]; rfl) rfl (by simp)
            | 6, _ =>
             have qe4 : (vs 4) = .bool false := hdk hd 4
             exact step_no [(4, some 62)] rfl (by kernel_rfl) (by simp only [frD, qe4]; rfl) rfl (by simp)
            | 7, _ =>
             have qe4 : (vs 4) = .bool false := hdk hd 4
             exact step_no [(4, some 62)] rfl (by kernel_rfl) (by simp only [frD, qe4]; rfl) rfl (by simp)
            | 8, _ =>
             have qe4 : (vs 4) = .bool false := hdk hd 4; have qe6 : (vs 6) = undef := hdk hd 6; have qe7 : (vs 7) = undef := hdk hd 7
             exact step_no [(4, some 62), (6, some 64), (7, some 65)] rfl (by kernel_rfl) (by simp only [frD, qe4, qe6, qe7]; rfl) rfl (by simp)
            | 9, _ =>
             have qe4 : (vs 4) = .bool false := hdk hd 4; have qe8 : (vs 8) = undef := hdk hd 8
             exact step_no [(4, some 62), (8, some 66)] rfl (by kernel_rfl) (by simp only [frD, qe4, qe8]; rfl) rfl (by simp)
            | 10, _ =>
             have qe4 : (vs 4) = .bool false := hdk hd 4; have qe5 : (vs 5) = undef := hdk hd 5; have qe9 : (vs 9) = undef := hdk hd 9
             exact step_no [(4, some 62), (5, some 63), (9, some 67)] rfl (by kernel_rfl) (by simp only [frD, qe4, qe5, qe9]; rfl) rfl (by simp)
            | 11, _ =>
             have qe4 : (vs 4) = .bool false := hdk hd 4; have qe10 : (vs 10) = undef := hdk hd 10
             exact step_no [(4, some 62), (10, some 68)] rfl (by kernel_rfl) (by simp only [frD, qe4, qe10]; rfl) rfl (by simp)
            | i + 12, hi => exact absurd hi (by omega)
           ·intro vs W61 hk3 hΦ _
            simp only [List.drop_succ_cons, List.drop_zero]
            rw [fr_frD, show (List.range 12).map _ = [(0, some 58), (1, some 59), (2, some 60), (3, some 61), (4, some 62), (5, some 63), (6, some 64), (7, some 65), (8, some 66), (9, some 67), (10, some 68), (11, some 69)] by kernel_rfl]
            have pu0 : (vs 0) = .int .i64 (j : Int) := hΦ 0 (by decide)
            have pu1 : (vs 1) = .slice A n c := hΦ 1 (by decide)
            have pu2 : (vs 2) = .int .i64 (n : Int) := hΦ 2 (by decide)
            have pu3 : (vs 3) = .bool false := hΦ 3 (by decide)
            have pu4 : (vs 4) = .bool false := hΦ 4 (by decide)
            have pu5 : (vs 5) = undef := hΦ 5 (by decide)
            have pu6 : (vs 6) = undef := hΦ 6 (by decide)
            have pu7 : (vs 7) = undef := hΦ 7 (by decide)
            have pu8 : (vs 8) = undef := hΦ 8 (by decide)
            have pu9 : (vs 9) = undef := hΦ 9 (by decide)
            have pu10 : (vs 10) = undef := hΦ 10 (by decide)
            have pu11 : (vs 11) = undef := hΦ 11 (by decide)
            clear hΦ
            simp only [frD, pu0, pu1, pu2, pu3, pu4, pu5, pu6, pu7, pu8, pu9, pu10, pu11]
            simp only [Act.put, List.setIfInBounds_toArray, List.set_cons_zero, List.set_cons_succ]
            clear pu0 pu1 pu2 pu3 pu4 pu5 pu6 pu7 pu8 pu9 pu10 pu11
            replace S := S.drew.below hk3
            clear hk3
            have hjn : j < hs.length := by omega
            have hwk := S.c 1 j rfl (i64s_at2 hjn)
            have hfk := S.f 1 j rfl
            have hbj := hbd j
            have HS3 : Hid (hisL s es (k' + 1) = hs.set j (hs.getD j 0 + 1)) := Lib.hid (by rw [HS2.out, HBK2.out])
            generalize hs.getD j 0 = vj at *
            have S9 := (S.onlyL.put0 1 j rfl (.int .i64 (vj + 1))).dropb
            have hjI3 : (j : Int) < (n : Int) + 1 := by omega
            have hwv : IntKind.i64.wrap (vj + 1) = vj + 1 := IntWalk.i64_in _ (by simp only [maxLen] at h6; omega)
            go_wp2
            go_roundw
            case rel => exact ⟨k' + 1, by omega, by go_num, by rw [HS3.out, ← i64s_set]; exact S9⟩
            case measure => simp [intOf]; omega
       ·have hkI2 : ¬ (k' : Int) < (s.sx.length : Int) := by omega
        have t3 : decide ((k' : Int) < (s.sx.length : Int)) = false := decide_eq_false hkI2
        obtain rfl : k' = s.sx.length := by omega
        have hgl := S.lo _ List.mem_cons_self
        have hO9 := S.o 0 rfl
        go_wp2
        go_ret2
        exact ⟨.slice (some ⟨gh, 0, none⟩) (n + 1) (n + 1), by rw [HH0.out]; rfl, S.k, fun h => absurd HH0.out h, fun _ => ⟨gh, by rw [HN.out], hgl, hO9⟩⟩
end Go.Proofs.YtgcigdahjabimaaGreatDoor
