/- volume.Area: the walk. The volumes of a surface: sums over its triangles. No program in sight. volume.Between of two grids with data at the same points: the walk. -/
import Derived.Test.YtecibfncnaccjaaGreatPo47
import Derived.Test.YtecibfncnaccjaaGreatPo40
import Derived.Test.YtecibfncnaccjaaGreatPo42
namespace Go.Proofs.YtecibfncnaccjaaGreat
open Go.RowKit Go.Shelf
end Go.Proofs.YtecibfncnaccjaaGreat
namespace Go.Proofs.YtecibfncnaccjaaGreat
theorem sumR_cons (a : Rat) (l : List Rat) : sumR (a :: l) = a + sumR l := by
 have h : ∀ (l : List Rat) (s : Rat), l.foldl (· + ·) s = s + l.foldl (· + ·) 0 := by
  intro l
  induction l with
  | nil => intro s; simp [Rat.add_zero]
  | cons b l ih => intro s; rw [List.foldl_cons, List.foldl_cons, ih, ih (0 + b)]; grind
 unfold sumR
 rw [List.foldl_cons, h]
 grind
section
variable {α : Type} {l : List α} {f g h : α → Rat}
theorem sum_sub (hh : ∀ t ∈ l, f t = g t - h t) : sumR (l.map f) = sumR (l.map g) - sumR (l.map h) := by
 induction l with
 | nil => simp [sumR]; grind
 | cons a l ih =>
  rw [List.map_cons, List.map_cons, List.map_cons, sumR_cons, sumR_cons, sumR_cons, hh a List.mem_cons_self, ih fun t ht => hh t (List.mem_cons_of_mem _ ht)]
  grind
end
theorem divInt_two (n : Int) : Rat.divInt n 2 = (n : Rat) / 2 := by
 rw [Rat.divInt_eq_div]
 rfl
theorem half_step {st : Int} (h : st.tmod 2 = 0) : ((st * st / 2 : Int) : Rat) = Rat.divInt (st * st) 2 := by
 have h2 : st % 2 = 0 := by
  have := Int.tmod_add_mul_tdiv st 2
  omega
 obtain ⟨k, rfl⟩ : ∃ k, st = 2 * k := ⟨st / 2, by omega⟩
 have e : 2 * k * (2 * k) / 2 = 2 * (k * k) := by
  rw [show 2 * k * (2 * k) = 2 * (2 * (k * k)) by grind]
  omega
 rw [e, divInt_two]
 simp only [Rat.intCast_mul, Rat.intCast_ofNat]
 grind
theorem allT_lt {W H : Nat} {t : Tri} (h : t ∈ allT W (H - 1)) : t.1 < W * H ∧ t.2.1 < W * H ∧ t.2.2 < W * H := by
 obtain ⟨j, i, hj, hi, ht⟩ := allT_mem h
 simp only [pairT, List.mem_cons, List.not_mem_nil, or_false] at ht
 rcases ht with rfl | rfl
 ·exact ⟨idx_top hj hi (by simp only; omega), idx_top hj hi (by simp only; omega), idx_top hj hi (by simp only; omega)⟩
 ·exact ⟨idx_top hj hi (by simp only; omega), idx_top hj hi (by simp only; omega), idx_top hj hi (by simp only; omega)⟩
theorem triL_same {zs ys : List Int} {W H : Nat} (h : ∀ k, k < W * H → isZ ys k = isZ zs k) : triL W H ys = triL W H zs := by
 unfold triL
 apply List.filter_congr
 intro t ht
 obtain ⟨h1, h2, h3⟩ := allT_lt ht
 unfold hereT
 rw [h _ h1, h _ h2, h _ h3]
end Go.Proofs.YtecibfncnaccjaaGreat
namespace Go.Proofs.YtecibfncnaccjaaGreat
open Go.RowKit Go.Shelf
set_option maxRecDepth 100000 in
theorem between2_any {u : World} {A A' : Option Addr} {c c' n : Nat} {zs ys : List Int} {gx gy st W H : Int} {p1 p2 k : Nat} (hr : IRow u A zs) (hr' : IRow u A' ys) (hn : zs.length = n) (hn' : ys.length = n) (h1 : Own u p1 24 (grL gx gy st W H A n c)) (h2 : Own u p2 24 (grL gx gy st W H A' n c')) (hk : k < n) (hl : n ≤ 5000)
 (hb : -3000000 ≤ zs.getD k 0 ∧ zs.getD k 0 ≤ 3000000) (hb' : -3000000 ≤ ys.getD k 0 ∧ ys.getD k 0 ≤ 3000000) :
 HtC Tryz.prog 59 #[.pointer (some ⟨p1, 0, none⟩), .pointer (some ⟨p2, 0, none⟩)] u k (zs.getD k 0 - ys.getD k 0) := by
 show Calls Tryz.prog 59 #[.int .i64 (k : Nat), .pointer (some ⟨p1, 0, none⟩), .pointer (some ⟨p2, 0, none⟩)] u _
 obtain ⟨b, o, rfl, c1⟩ := IRow.at hr (j := k) (by omega)
 obtain ⟨b', o', rfl, c2⟩ := IRow.at hr' (j := k) (by omega)
 have x5 := h1.cell 5
 have y5 := h2.cell 5
 simp only [List.getElem?_cons_zero, List.getElem?_cons_succ] at x5 y5
 have hkI : (k : Int) < n := by omega
 have hlI : (n : Int) ≤ 5000 := by omega
 obtain ⟨v, hv⟩ : ∃ v, zs.getD k 0 = v := ⟨_, rfl⟩
 obtain ⟨v', hv'⟩ : ∃ v, ys.getD k 0 = v := ⟨_, rfl⟩
 rw [hv] at c1 hb ⊢
 rw [hv'] at c2 hb' ⊢
 obtain ⟨b1, b2⟩ := hb
 obtain ⟨b3, b4⟩ := hb'
 have hw : IntKind.i64.wrap (v - v') = v - v' := by rw [IntKind.wrap_i64]; omega
 clear hr hr' h1 h2 hv hv' hk hl hn hn'
 go_enter Tryz.func59, Tryz.ntmps59
 go_wp2
 go_quiet (fail)
 go_wp2
 go_ret
 exact ⟨by first | rfl | (rw [hw]; rfl), by first | exact Below.refl _ _ | exact below_drewN bl _ | exact Below.drew bl⟩
set_option maxRecDepth 100000 in
set_option maxHeartbeats 2000000 in
theorem between_any {w : World} {A A' : Option Addr} {c c' n : Nat} {zs ys : List Int} (hr : IRow w A zs) (hr' : IRow w A' ys) (gx gy st : Int) (W H : Nat) (hn : zs.length = n) (hn' : ys.length = n) (hc : chkG gx gy st (W : Nat) (H : Nat) zs = 0) (hc' : chkG gx gy st (W : Nat) (H : Nat) ys = 0) (hlm : n ≤ 1000)
 (hsame : ∀ k, k < W * H → isZ ys k = isZ zs k) :
 Calls Tryz.prog 23 #[grV gx gy st (W : Nat) (H : Nat) A n c, grV gx gy st (W : Nat) (H : Nat) A' n c'] w fun e w' => ∃ U V, e = .returned (.tuple #[U, V, .int .i64 0]) ∧ RatRep w' U (((st * st / 2 : Int) : Rat) * sumR ((triL W H zs).map (upI fun k => zs.getD k 0 - ys.getD k 0))) ∧ RatRep w' V (((st * st / 2 : Int) : Rat) * sumR ((triL W H zs).map (dnI fun k => zs.getD k 0 - ys.getD k 0))) ∧ Keeps w w' := by
 obtain ⟨hW, hH, ⟨hs1, hs2, -⟩, hl, hzs, -, -⟩ := chkG_ok hc
 obtain ⟨-, -, -, hl', hys, -, -⟩ := chkG_ok hc'
 have hlN : zs.length = W * H := by exact_mod_cast hl
 have hlN' : ys.length = W * H := by exact_mod_cast hl'
 have htl : triL W H ys = triL W H zs := triL_same hsame
 have S := ((((St.start w).alloc 24 [.int .i64 gx, .int .i64 gy, .int .i64 st, .int .i64 (W : Nat), .int .i64 (H : Nat), .slice A n c]).alloc 24 [.int .i64 gx, .int .i64 gy, .int .i64 st, .int .i64 (W : Nat), .int .i64 (H : Nat), .slice A' n c']).alloc 35 [.bool false, .slice none 0 0, .bool false, .slice none 0 0]).alloc 35 [.bool false, .slice none 0 0, .bool false, .slice none 0 0]
 simp only [World.size_alloc] at S
 obtain ⟨W0, hW0, S⟩ := S.pack
 obtain ⟨L, hL⟩ : ∃ L, triL W H zs = L := ⟨_, rfl⟩
 have hLlen : L.length ≤ 3000 := by have := triL_len W H zs; rw [hL, ← hlN] at this; omega
 have HCK : Hid (∀ (u : World) (hk : Keeps w u) (k : Nat), k < 2 → Calls Tryz.prog 38 #[grV gx gy st (W : Nat) (H : Nat) (if k = 0 then A else A') n (if k = 0 then c else c')] u fun e w' => e = .returned (.int .i64 0) ∧ Keeps u w') := Lib.hid fun u hk k h2 => by
  by_cases h0 : k = 0
  ·rw [if_pos h0, if_pos h0]
   have := tcheck_any (c := c) (hr.below hk) gx gy st (W : Nat) (H : Nat) (by simp only [maxLen]; omega)
   rwa [hc, hn] at this
  ·rw [if_neg h0, if_neg h0]
   have := tcheck_any (c := c') (hr'.below hk) gx gy st (W : Nat) (H : Nat) (by simp only [maxLen]; omega)
   rwa [hc', hn'] at this
 have HTA := Lib.hid (fun (u : World) (hk : Keeps w u) => vtriangles_any (c := c) (hr.below hk) gx gy st W H (by omega) (by omega) hlN)
 have HTB := Lib.hid (fun (u : World) (hk : Keeps w u) => vtriangles_any (c := c') (hr'.below hk) gx gy st W H (by omega) (by omega) hlN')
 rw [htl] at HTB
 rw [hL, hn] at HTA
 rw [hL, hn'] at HTB
 have HTO := Lib.hid (fun (B : Option Addr) (cb : Nat) (u : World) (hk : Keeps w u) (h1 : Own u w.heap.size 24 (grL gx gy st (W : Nat) (H : Nat) A n c)) (h2 : Own u (w.heap.size + 1) 24 (grL gx gy st (W : Nat) (H : Nat) A' n c')) (hT : TRow u B L) =>
  vtotal_B (c := cb) (gx := gx) (gy := gy) (st := st) (gw := (W : Nat)) (gh := (H : Nat)) (Az := A) (nz := n) (cz := c) (p1 := w.heap.size) (p2 := w.heap.size + 1) (h := fun k => zs.getD k 0 - ys.getD k 0) hT hLlen hs1 hs2
   (fun t ht => by
    have hb := (triL_bd hlN hzs (hL ▸ ht)).2
    have hb' := (triL_bd hlN' hys (htl ▸ hL ▸ ht)).2
    omega)
   (fun v hv t ht => by
    obtain ⟨hi, hb⟩ := triL_bd hlN hzs (hL ▸ ht)
    obtain ⟨hi', hb'⟩ := triL_bd hlN' hys (htl ▸ hL ▸ ht)
    have hrv := (hr.below hk).below hv
    have hrv' := (hr'.below hk).below hv
    exact ⟨between2_any hrv hrv' hn hn' (h1.below hv) (h2.below hv) (by omega) (by omega) (by omega) (by omega), between2_any hrv hrv' hn hn' (h1.below hv) (h2.below hv) (by omega) (by omega) (by omega) (by omega), between2_any hrv hrv' hn hn' (h1.below hv) (h2.below hv) (by omega) (by omega) (by omega) (by omega)⟩))
 obtain ⟨qp, hqp⟩ : ∃ q, ((st * st / 2 : Int) : Rat) * sumR (L.map (upI fun k => zs.getD k 0 - ys.getD k 0)) = q := ⟨_, rfl⟩
 obtain ⟨qn, hqn⟩ : ∃ q, ((st * st / 2 : Int) : Rat) * sumR (L.map (dnI fun k => zs.getD k 0 - ys.getD k 0)) = q := ⟨_, rfl⟩
 simp only [hqp, hqn] at HTO
 rw [hL, hqp, hqn]
 have HLL := Lib.hid hLlen
 have hG : ∀ k, k < 2 → ∀ j, j < 5 → [Value.int .i64 gx, .int .i64 gy, .int .i64 st, .int .i64 (W : Nat), .int .i64 (H : Nat), .slice A n c, .int .i64 gx, .int .i64 gy, .int .i64 st, .int .i64 (W : Nat), .int .i64 (H : Nat), .slice A' n c'][k * 6 + j]? = [Value.int .i64 gx, .int .i64 gy, .int .i64 st, .int .i64 (W : Nat), .int .i64 (H : Nat)][j]? := fun k hk j hj => by
  have h1 : k = 0 ∨ k = 1 := by omega
  have h2 : j = 0 ∨ j = 1 ∨ j = 2 ∨ j = 3 ∨ j = 4 := by omega
  rcases h1 with rfl | rfl <;> rcases h2 with rfl | rfl | rfl | rfl | rfl <;> rfl
 have hG5 : ∀ k, k < 2 → [Value.int .i64 gx, .int .i64 gy, .int .i64 st, .int .i64 (W : Nat), .int .i64 (H : Nat), .slice A n c, .int .i64 gx, .int .i64 gy, .int .i64 st, .int .i64 (W : Nat), .int .i64 (H : Nat), .slice A' n c'][k * 6 + 5]? = some (.slice (if k = 0 then A else A') n (if k = 0 then c else c')) := fun k hk => by
  have h1 : k = 0 ∨ k = 1 := by omega
  rcases h1 with rfl | rfl <;> rfl
 have HG := Lib.hid hG
 have HG5 := Lib.hid hG5
 clear hr hr' hn hn' hc hc' hW hH hs1 hs2 hl hl' hzs hys hlN hlN' htl hL hLlen hqp hqn hlm hsame hG hG5
 obtain ⟨x0, x1, x2, x3, x4, x5⟩ := S.cc6 3 rfl
 obtain ⟨y0, y1, y2, y3, y4, y5⟩ := S.cc6 2 rfl
 go_enter Tryz.func23, Tryz.ntmps23
 go_wp2
 replace S := S.alloc 24 [.int .i64 gx, .int .i64 gy, .int .i64 st, .int .i64 (W : Nat), .int .i64 (H : Nat), .slice A n c, .int .i64 gx, .int .i64 gy, .int .i64 st, .int .i64 (W : Nat), .int .i64 (H : Nat), .slice A' n c']
 obtain ⟨W1, eW, S⟩ := S.pack
 rw [eW]
 clear eW hW0 x0 x1 x2 x3 x4 x5 y0 y1 y2 y3 y4 y5
 generalize W0.heap.size = P6 at *
 go_loopw [16] (fun i wr => ∃ k : Nat, k ≤ 2 ∧ i = .int .i64 (k : Nat) ∧ St w wr [(P6, 24, [.int .i64 gx, .int .i64 gy, .int .i64 st, .int .i64 (W : Nat), .int .i64 (H : Nat), .slice A n c, .int .i64 gx, .int .i64 gy, .int .i64 st, .int .i64 (W : Nat), .int .i64 (H : Nat), .slice A' n c']), (w.heap.size + 1 + 1 + 1, 35, [.bool false, .slice none 0 0, .bool false, .slice none 0 0]), (w.heap.size + 1 + 1, 35, [.bool false, .slice none 0 0, .bool false, .slice none 0 0]), (w.heap.size + 1, 24, [.int .i64 gx, .int .i64 gy, .int .i64 st, .int .i64 (W : Nat), .int .i64 (H : Nat), .slice A' n c']), (w.heap.size, 24, [.int .i64 gx, .int .i64 gy, .int .i64 st, .int .i64 (W : Nat), .int .i64 (H : Nat), .slice A n c])] []) (fun i _ => 2 - (intOf i).toNat)
 case atStart => exact ⟨0, Nat.zero_le _, rfl, S⟩
 case round =>
  clear S
  obtain ⟨k, hk, rfl, S⟩ := hrel
  by_cases hlt : k < 2
  ·have hkI : (k : Int) < 2 := by omega
   have t1 : decide ((k : Int) < 2) = true := decide_eq_true hkI
   have z0 := S.c 0 (k * 6) (v := .int .i64 gx) rfl (HG.out k hlt 0 (by omega))
   have z1 := S.c 0 (k * 6 + 1) (v := .int .i64 gy) rfl (HG.out k hlt 1 (by omega))
   have z2 := S.c 0 (k * 6 + 2) (v := .int .i64 st) rfl (HG.out k hlt 2 (by omega))
   have z3 := S.c 0 (k * 6 + 3) (v := .int .i64 (W : Nat)) rfl (HG.out k hlt 3 (by omega))
   have z4 := S.c 0 (k * 6 + 4) (v := .int .i64 (H : Nat)) rfl (HG.out k hlt 4 (by omega))
   have z5 := S.c 0 (k * 6 + 5) rfl (HG5.out k hlt)
   have HC := Lib.hid (fun (u : World) (hk : Keeps w u) => HCK.out u hk k hlt)
   generalize (if k = 0 then A else A') = Ak at *
   generalize (if k = 0 then c else c') = ck at *
   go_upto_region 4 with fail
   replace S := S.alloc 24 [.int .i64 gx, .int .i64 gy, .int .i64 st, .int .i64 (W : Nat), .int .i64 (H : Nat), .slice Ak n ck]
   obtain ⟨W2, eW, S⟩ := S.pack
   rw [eW]
   clear eW z0 z1 z2 z3 z4 z5
   generalize wr.heap.size = P7 at *
   obtain ⟨x0, x1, x2, x3, x4, x5⟩ := S.cc6 0 rfl
   go_wp2_with fail
   refine (HC.out _ S.k).mono ?_
   rintro e W3 ⟨rfl, hk3⟩
   replace S := (S.below hk3).dropb
   clear hk3 x0 x1 x2 x3 x4 x5
   go_wp2
   go_roundw
   case rel => exact ⟨k + 1, by omega, by go_num, S⟩
   case measure => simp [intOf]; omega
  ·have hkI : ¬ (k : Int) < 2 := by omega
   have t1 : decide ((k : Int) < 2) = false := decide_eq_false hkI
   obtain rfl : k = 2 := by omega
   replace S := S.dropb
   obtain ⟨x0, x1, x2, x3, x4, x5⟩ := S.cc6 3 rfl
   obtain ⟨y0, y1, y2, y3, y4, y5⟩ := S.cc6 2 rfl
   go_wp2_with fail
   refine (HTB.out _ S.k).mono ?_
   rintro e W3 ⟨B, cb, rfl, hown, hk3⟩
   have hTB := TRow.of_own hown
   replace S := S.below hk3
   clear hown hk3 x0 x1 x2 x3 x4 x5 y0 y1 y2 y3 y4 y5
   go_upto_region 11 with fail
   have hTB2 := hTB.below (box2 W3 (.cells #[.slice B L.length cb] 63))
   replace S := S.alloc 63 [.slice B L.length cb]
   obtain ⟨W4, eW, S⟩ := S.pack
   rw [eW] at hTB2 ⊢
   clear eW hTB
   generalize W3.heap.size = P8 at *
   obtain ⟨x0, x1, x2, x3, x4, x5⟩ := S.cc6 4 rfl
   go_wp2_with fail
   refine (HTA.out _ S.k).mono ?_
   rintro e W5 ⟨B', cb', rfl, hown, hk3⟩
   have hTA := TRow.of_own hown
   have hTB := hTB2.below hk3
   replace S := S.below hk3
   clear hown hk3 hTB2 x0 x1 x2 x3 x4 x5
   have hl9 : L.length ≤ 9000 := by have := HLL.out; omega
   have HDL := Lib.hid (delete_tri (c' := cb') hTB hl9 (S.o 0 rfl) hTA hl9 (fun t ht => ht))
   have HTA2 := Lib.hid hTA
   clear hTB hTA
   go_wp2_with fail
   refine HDL.out.mono ?_
   rintro e W6 ⟨rfl, hk3⟩
   have hTA := HTA2.out.below hk3
   replace S := S.below hk3
   clear hk3 HDL HTA2
   have HT := Lib.hid (trig_u (HTO.out B' cb' _ S.k (S.o 4 rfl) (S.o 3 rfl) hTA))
   clear hTA
   obtain ⟨x0, x1, x2, x3, x4, x5⟩ := S.cc6 4 rfl
   go_wp2_with fail
   refine HT.out.mono ?_
   rintro e W7 ⟨U, V, rfl, ph6, ph7, hk3⟩
   obtain ⟨b7, A7, n7, c7, d7, B7, m7, e7, rfl⟩ := ph6.open_
   obtain ⟨b8, A8, n8, c8, d8, B8, m8, e8, rfl⟩ := ph7.open_
   replace S := ((S.dropb.below hk3).addQ ph6).addQ ph7
   clear x0 x1 x2 x3 x4 x5 hk3 HT
   obtain ⟨r7_0, r7_1, r7_2, r7_3⟩ := S.cc4 1 rfl
   obtain ⟨f7_0, f7_1, f7_2, f7_3⟩ := S.ff4 1 rfl
   obtain ⟨r8_0, r8_1, r8_2, r8_3⟩ := S.cc4 0 rfl
   obtain ⟨f8_0, f8_1, f8_2, f8_3⟩ := S.ff4 0 rfl
   go_upto_region 13 with fail
   replace S := (S.put4 1 rfl rfl rfl (x' := .bool b7) (y' := .slice A7 n7 c7) (z' := .bool d7) (u' := .slice B7 m7 e7)).put4 0 rfl rfl rfl (x' := .bool b8) (y' := .slice A8 n8 c8) (z' := .bool d8) (u' := .slice B8 m8 e8)
   obtain ⟨W9, eW, S⟩ := S.pack
   rw [eW]
   clear eW r7_0 r7_1 r7_2 r7_3 f7_0 f7_1 f7_2 f7_3 r8_0 r8_1 r8_2 r8_3 f8_0 f8_1 f8_2 f8_3 ph6 ph7 HTO HTA HTB HCK HG HG5 HLL
   go_upto_region 13 with fail
   obtain ⟨W31, eX0, T0⟩ := S.drew.pack
   have r90_0 := T0.c 1 0 rfl rfl
   have f90_0 := T0.f 1 0 rfl
   have r90_1 := T0.c 1 1 rfl rfl
   have f90_1 := T0.f 1 1 rfl
   have r90_2 := T0.c 1 2 rfl rfl
   have f90_2 := T0.f 1 2 rfl
   have r90_3 := T0.c 1 3 rfl rfl
   have f90_3 := T0.f 1 3 rfl
   obtain ⟨W32, eX1, T1⟩ := (T0.put4 1 rfl rfl rfl (x' := .bool b7) (y' := .slice A7 n7 c7) (z' := .bool d7) (u' := .slice B7 m7 e7)).pack
   have r91_0 := T1.c 0 0 rfl rfl
   have f91_0 := T1.f 0 0 rfl
   have r91_1 := T1.c 0 1 rfl rfl
   have f91_1 := T1.f 0 1 rfl
   have r91_2 := T1.c 0 2 rfl rfl
   have f91_2 := T1.f 0 2 rfl
   have r91_3 := T1.c 0 3 rfl rfl
   have f91_3 := T1.f 0 3 rfl
   obtain ⟨W33, eX2, T2⟩ := (T1.put4 0 rfl rfl rfl (x' := .bool b8) (y' := .slice A8 n8 c8) (z' := .bool d8) (u' := .slice B8 m8 e8)).pack
   have C0_0 := Lib.hid (fun p => two_all (p := p) (a := 2) (b := 3) (X := fun w' => w'.cell? ⟨w.heap.size + 1 + 1, 0, none⟩ = some (.bool b7)) (T0.c 1 0 rfl rfl) (T1.c 1 0 rfl rfl) (T2.c 1 0 rfl rfl))
   have C0_1 := Lib.hid (fun p => two_all (p := p) (a := 2) (b := 3) (X := fun w' => w'.cell? ⟨w.heap.size + 1 + 1, 1, none⟩ = some (.slice A7 n7 c7)) (T0.c 1 1 rfl rfl) (T1.c 1 1 rfl rfl) (T2.c 1 1 rfl rfl))
   have C0_2 := Lib.hid (fun p => two_all (p := p) (a := 2) (b := 3) (X := fun w' => w'.cell? ⟨w.heap.size + 1 + 1, 2, none⟩ = some (.bool d7)) (T0.c 1 2 rfl rfl) (T1.c 1 2 rfl rfl) (T2.c 1 2 rfl rfl))
   have C0_3 := Lib.hid (fun p => two_all (p := p) (a := 2) (b := 3) (X := fun w' => w'.cell? ⟨w.heap.size + 1 + 1, 3, none⟩ = some (.slice B7 m7 e7)) (T0.c 1 3 rfl rfl) (T1.c 1 3 rfl rfl) (T2.c 1 3 rfl rfl))
   have C1_0 := Lib.hid (fun p => two_all (p := p) (a := 2) (b := 3) (X := fun w' => w'.cell? ⟨w.heap.size + 1 + 1 + 1, 0, none⟩ = some (.bool b8)) (T0.c 0 0 rfl rfl) (T1.c 0 0 rfl rfl) (T2.c 0 0 rfl rfl))
   have C1_1 := Lib.hid (fun p => two_all (p := p) (a := 2) (b := 3) (X := fun w' => w'.cell? ⟨w.heap.size + 1 + 1 + 1, 1, none⟩ = some (.slice A8 n8 c8)) (T0.c 0 1 rfl rfl) (T1.c 0 1 rfl rfl) (T2.c 0 1 rfl rfl))
   have C1_2 := Lib.hid (fun p => two_all (p := p) (a := 2) (b := 3) (X := fun w' => w'.cell? ⟨w.heap.size + 1 + 1 + 1, 2, none⟩ = some (.bool d8)) (T0.c 0 2 rfl rfl) (T1.c 0 2 rfl rfl) (T2.c 0 2 rfl rfl))
   have C1_3 := Lib.hid (fun p => two_all (p := p) (a := 2) (b := 3) (X := fun w' => w'.cell? ⟨w.heap.size + 1 + 1 + 1, 3, none⟩ = some (.slice B8 m8 e8)) (T0.c 0 3 rfl rfl) (T1.c 0 3 rfl rfl) (T2.c 0 3 rfl rfl))
   refine wp_region_det rfl (by kernel_rfl) (fun iF => List.getD [.agg #[.bool b7, .slice A7 n7 c7, .bool d7, .slice B7 m7 e7], .agg #[.bool b8, .slice A8 n8 c8, .bool d8, .slice B8 m8 e8], undef, undef, .int .i64 0] iF undef) (two W31 W32 W33 2 3) eX0.symm (two_cong (by decide) (by decide)) ?_ ?_
   ·intro i hi
    have hi' : i < 5 := hi
    match i, hi' with
    | 0, _ =>
     refine stepDet_at [] (some 76) rfl (by kernel_rfl) rfl (by kernel_rfl) fun p h1 h2 h3 K hK => ?_
     rw [two_other (by decide) (by decide)] at hK
     have c0_0 := C0_0.out p; have c0_1 := C0_1.out p; have c0_2 := C0_2.out p; have c0_3 := C0_3.out p; have c1_0 := C1_0.out p; have c1_1 := C1_1.out p; have c1_2 := C1_2.out p; have c1_3 := C1_3.out p
     simp only [frD, gz, Act.put, List.setIfInBounds_toArray, List.set_cons_zero, List.set_cons_succ] at hK ⊢
     clear h2 h3
     go_simp
     with_reducible exact hK
    | 1, _ =>
     refine stepDet_at [] (some 77) rfl (by kernel_rfl) rfl (by kernel_rfl) fun p h1 h2 h3 K hK => ?_
     rw [two_other (by decide) (by decide)] at hK
     have c0_0 := C0_0.out p; have c0_1 := C0_1.out p; have c0_2 := C0_2.out p; have c0_3 := C0_3.out p; have c1_0 := C1_0.out p; have c1_1 := C1_1.out p; have c1_2 := C1_2.out p; have c1_3 := C1_3.out p
     simp only [frD, gz, gs, Act.put, List.setIfInBounds_toArray, List.set_cons_zero, List.set_cons_succ] at hK ⊢
     clear h2 h3
     go_simp
     with_reducible exact hK
    | 2, _ =>
     refine stepDet_at [(0, some 76)] (none) rfl (by kernel_rfl) rfl (by kernel_rfl) fun p h1 h2 h3 K hK => ?_
     have pb : p 3 = false := by
      cases hc : p 3 with
      | false => rfl
      | true => exact absurd (h3 3 2 hc (List.contains_iff_mem.1 (by kernel_rfl))) (by simp [h1])
     have x := two_a (w0 := W31) (w1 := W32) (w2 := W33) (a := 2) (b := 3) (by decide) h1 pb
     rw [x.1]
     rw [x.2] at hK
     clear x
     simp only [frD, gz, Act.put, List.setIfInBounds_toArray, List.set_cons_zero, List.set_cons_succ] at hK ⊢
     clear h2 h3
     go_simp
     with_reducible exact hK
    | 3, _ =>
     refine stepDet_at [(0, some 76), (1, some 77), (2, none)] (none) rfl (by kernel_rfl) rfl (by kernel_rfl) fun p h1 h2 h3 K hK => ?_
     have pa : p 2 = true := h2 2 (List.contains_iff_mem.1 (by kernel_rfl))
     have x := two_b (w0 := W31) (w1 := W32) (w2 := W33) (a := 2) (b := 3) pa h1
     rw [x.1]
     rw [x.2] at hK
     clear x
     simp only [frD, gz, gs, Act.put, List.setIfInBounds_toArray, List.set_cons_zero, List.set_cons_succ] at hK ⊢
     clear h2 h3
     go_simp
     with_reducible exact hK
    | 4, _ =>
     refine stepDet_at [(0, some 76), (1, some 77), (2, none), (3, none)] (some 6) rfl (by kernel_rfl) rfl (by kernel_rfl) fun p h1 h2 h3 K hK => ?_
     rw [two_other (by decide) (by decide)] at hK
     have c0_0 := C0_0.out p; have c0_1 := C0_1.out p; have c0_2 := C0_2.out p; have c0_3 := C0_3.out p; have c1_0 := C1_0.out p; have c1_1 := C1_1.out p; have c1_2 := C1_2.out p; have c1_3 := C1_3.out p
     simp only [frD, gz, gs, Act.put, List.setIfInBounds_toArray, List.set_cons_zero, List.set_cons_succ] at hK ⊢
     clear h2 h3
     go_simp
     with_reducible exact hK
   ·rw [show two W31 W32 W33 2 3 (fun _ => true) = W33 from rfl, fr_frD, show (List.range _).map _ = [(0, some 76), (1, some 77), (2, none), (3, none), (4, some 6)] by kernel_rfl]
    simp only [frD, gz, gs, Act.put, List.setIfInBounds_toArray, List.set_cons_zero, List.set_cons_succ]
    clear S eX0 eX1 eX2 T0 T1 r90_0 f90_0 r90_1 f90_1 r90_2 f90_2 r90_3 f90_3 r91_0 f91_0 r91_1 f91_1 r91_2 f91_2 r91_3 f91_3
    clear C0_0
    clear C0_1
    clear C0_2
    clear C0_3
    clear C1_0
    clear C1_1
    clear C1_2
    clear C1_3
    have S := T2
    clear T2
    obtain ⟨r0_0, r0_1, r0_2, r0_3⟩ := S.cc4 1 rfl
    obtain ⟨r1_0, r1_1, r1_2, r1_3⟩ := S.cc4 0 rfl
    go_wp2
    refine bodyPost_ret (v := .tuple #[.agg #[.bool b7, .slice A7 n7 c7, .bool d7, .slice B7 m7 e7], .agg #[.bool b8, .slice A8 n8 c8, .bool d8, .slice B8 m8 e8], .int .i64 0]) (by simp [results, Tryz.results23, go_sem, S.c 1 0 rfl rfl, S.c 1 1 rfl rfl, S.c 1 2 rfl rfl, S.c 1 3 rfl rfl, S.c 0 0 rfl rfl, S.c 0 1 rfl rfl, S.c 0 2 rfl rfl, S.c 0 3 rfl rfl]) rfl ?_
    exact ⟨_, _, rfl, S.qi 1 rfl, S.qi 0 rfl, S.k⟩
end Go.Proofs.YtecibfncnaccjaaGreat
