/- terrain.Difference of two grids: the walk. fiducialref02.Int, SameRat: the walks. corner.Find's peak: the walk. The insertion sort of corners: the walk. -/
import Derived.Test.YtecibfncnaccjaaGreatPo48
import Derived.Test.YtecibfncnaccjaaGreatPo49
import Derived.Test.YtecibfncnaccjaaGreatPo40
import Derived.Test.YtecibfncnaccjaaGreatPo37
import Derived.Test.YtecibfncnaccjaaGreatPo28
import Derived.Test.YtecibfncnaccjaaGreatPo50
namespace Go.Proofs.YtecibfncnaccjaaGreat
open Go.RowKit Go.Shelf
def diffK (zs ys : List Int) (k : Nat) : Int := if isZ zs k && isZ ys k then zs.getD k 0 - ys.getD k 0 else noZ
def diffL (zs ys : List Int) : List Int := (List.range zs.length).map (diffK zs ys)
def partD (zs ys : List Int) (k : Nat) : List Int := (List.range zs.length).map fun m => if m < k then diffK zs ys m else noZ
section
variable {zs ys : List Int} {k : Nat}
theorem pd_length : (partD zs ys k).length = zs.length := by simp [partD]
theorem pd_0 : partD zs ys 0 = List.replicate zs.length noZ := by
 unfold partD
 simp [List.map_const']
theorem pd_end : partD zs ys zs.length = diffL zs ys := by
 unfold partD diffL
 exact List.map_congr_left fun m hm => by rw [if_pos (List.mem_range.1 hm)]
theorem pd_next (_ : k < zs.length) : (partD zs ys k).set k (diffK zs ys k) = partD zs ys (k + 1) := by
 apply List.ext_getElem
 ·simp [partD]
 ·intro m h1 h2
  simp only [partD, List.getElem_set, List.getElem_map, List.getElem_range]
  by_cases h : k = m
  ·subst h; simp
  ·rw [if_neg h]
   by_cases h3 : m < k
   ·rw [if_pos h3, if_pos (by omega)]
   ·rw [if_neg h3, if_neg (by omega)]
theorem pd_none (hk : k < zs.length) (hz : (isZ zs k && isZ ys k) = false) : partD zs ys k = partD zs ys (k + 1) := by
 rw [← pd_next hk]
 apply List.ext_getElem
 ·simp [partD]
 ·intro m h1 h2
  simp only [partD, List.getElem_set, List.getElem_map, List.getElem_range]
  by_cases h : k = m
  ·subst h; rw [if_pos rfl, if_neg (by omega), diffK, if_neg (by simp [hz])]
  ·rw [if_neg h]
end
set_option maxRecDepth 100000 in
set_option maxHeartbeats 2000000 in
theorem diff_any {w : World} {A A' : Option Addr} {c c' n : Nat} {zs ys : List Int} (hr : IRow w A zs) (hr' : IRow w A' ys) (gx gy st : Int) (W H : Nat) (hn : zs.length = n) (hn' : ys.length = n) (hc : chkG gx gy st (W : Nat) (H : Nat) zs = 0) (hc' : chkG gx gy st (W : Nat) (H : Nat) ys = 0) (hlm : n ≤ 1000)
 (hd : ∀ k, k < n → isZ zs k = true → isZ ys k = true → -1048576 ≤ zs.getD k 0 - ys.getD k 0 ∧ zs.getD k 0 - ys.getD k 0 ≤ 1048576) :
 Calls Tryz.prog 24 #[grV gx gy st (W : Nat) (H : Nat) A n c, grV gx gy st (W : Nat) (H : Nat) A' n c'] w fun e w' => ∃ g, e = .returned (.tuple #[grV gx gy st (W : Nat) (H : Nat) (some ⟨g, 0, none⟩) n n, .int .i64 0]) ∧ w.heap.size ≤ g ∧ Own w' g 3 (i64s (diffL zs ys)) ∧ Keeps w w' := by
 obtain ⟨hW, hH, -, hl, hzs, -, -⟩ := chkG_ok hc
 obtain ⟨-, -, -, hl', hys, -, -⟩ := chkG_ok hc'
 have hlN : zs.length = W * H := by exact_mod_cast hl
 have hn1 : 1 ≤ n := by rw [← hn, hlN]; exact Nat.mul_pos (by omega) (by omega)
 have S := (((St.start w).alloc 24 [.int .i64 gx, .int .i64 gy, .int .i64 st, .int .i64 (W : Nat), .int .i64 (H : Nat), .slice A n c]).alloc 24 [.int .i64 gx, .int .i64 gy, .int .i64 st, .int .i64 (W : Nat), .int .i64 (H : Nat), .slice A' n c']).alloc 24 [.int .i64 0, .int .i64 0, .int .i64 0, .int .i64 0, .int .i64 0, .slice none 0 0]
 simp only [World.size_alloc] at S
 obtain ⟨W0, hW0, S⟩ := S.pack
 have HCK : Hid (∀ (u : World) (hk : Keeps w u) (k : Nat), k < 2 → Calls Tryz.prog 38 #[grV gx gy st (W : Nat) (H : Nat) (if k = 0 then A else A') n (if k = 0 then c else c')] u fun e w' => e = .returned (.int .i64 0) ∧ Keeps u w') := Lib.hid fun u hk k h2 => by
  by_cases h0 : k = 0
  ·rw [if_pos h0, if_pos h0]
   have := tcheck_any (c := c) (hr.below hk) gx gy st (W : Nat) (H : Nat) (by simp only [maxLen]; omega)
   rwa [hc, hn] at this
  ·rw [if_neg h0, if_neg h0]
   have := tcheck_any (c := c') (hr'.below hk) gx gy st (W : Nat) (H : Nat) (by simp only [maxLen]; omega)
   rwa [hc', hn'] at this
 have HBL := Lib.hid (fun u => blank_any u (n := n) hn1 (by omega))
 have HP0 : Hid (partD zs ys 0 = List.replicate n noZ) := Lib.hid (hn ▸ pd_0)
 have HPN : Hid (∀ k, k < n → (partD zs ys k).set k (diffK zs ys k) = partD zs ys (k + 1)) := Lib.hid fun k hk => pd_next (by omega)
 have HPZ : Hid (∀ k, k < n → (isZ zs k && isZ ys k) = false → partD zs ys k = partD zs ys (k + 1)) := Lib.hid fun k hk hz => pd_none (by omega) hz
 have HPL : Hid (∀ k, (partD zs ys k).length = n) := Lib.hid fun k => by rw [pd_length, hn]
 have HPE : Hid (partD zs ys n = diffL zs ys) := Lib.hid (hn ▸ pd_end)
 have HFA := Lib.hid (fun u z => terrain_far u z)
 have HR := Lib.hid hr
 have HR' := Lib.hid hr'
 have HN := Lib.hid hn
 have HN' := Lib.hid hn'
 have HD := Lib.hid hd
 have HBZ : Hid (∀ k, k < n → isZ zs k = true → -1048576 ≤ zs.getD k 0 ∧ zs.getD k 0 ≤ 1048576) := Lib.hid fun k hk h => isZ_bd (by omega) hzs h
 have HBY : Hid (∀ k, k < n → isZ ys k = true → -1048576 ≤ ys.getD k 0 ∧ ys.getD k 0 ≤ 1048576) := Lib.hid fun k hk h => isZ_bd (by omega) hys h
 have hnI : (n : Int) ≤ 1000 := by omega
 have hG : ∀ k, k < 2 → ∀ j, j < 5 → [Value.int .i64 gx, .int .i64 gy, .int .i64 st, .int .i64 (W : Nat), .int .i64 (H : Nat), .slice A n c, .int .i64 gx, .int .i64 gy, .int .i64 st, .int .i64 (W : Nat), .int .i64 (H : Nat), .slice A' n c'][k * 6 + j]? = [Value.int .i64 gx, .int .i64 gy, .int .i64 st, .int .i64 (W : Nat), .int .i64 (H : Nat)][j]? := fun k hk j hj => by
  have h1 : k = 0 ∨ k = 1 := by omega
  have h2 : j = 0 ∨ j = 1 ∨ j = 2 ∨ j = 3 ∨ j = 4 := by omega
  rcases h1 with rfl | rfl <;> rcases h2 with rfl | rfl | rfl | rfl | rfl <;> rfl
 have hG5 : ∀ k, k < 2 → [Value.int .i64 gx, .int .i64 gy, .int .i64 st, .int .i64 (W : Nat), .int .i64 (H : Nat), .slice A n c, .int .i64 gx, .int .i64 gy, .int .i64 st, .int .i64 (W : Nat), .int .i64 (H : Nat), .slice A' n c'][k * 6 + 5]? = some (.slice (if k = 0 then A else A') n (if k = 0 then c else c')) := fun k hk => by
  have h1 : k = 0 ∨ k = 1 := by omega
  rcases h1 with rfl | rfl <;> rfl
 have HG := Lib.hid hG
 have HG5 := Lib.hid hG5
 clear hr hr' hn hn' hc hc' hW hH hl hl' hzs hys hlN hlm hd hG hG5
 obtain ⟨x0, x1, x2, x3, x4, x5⟩ := S.cc6 2 rfl
 obtain ⟨y0, y1, y2, y3, y4, y5⟩ := S.cc6 1 rfl
 go_enter Tryz.func24, Tryz.ntmps24
 go_wp2
 replace S := S.alloc 24 [.int .i64 gx, .int .i64 gy, .int .i64 st, .int .i64 (W : Nat), .int .i64 (H : Nat), .slice A n c, .int .i64 gx, .int .i64 gy, .int .i64 st, .int .i64 (W : Nat), .int .i64 (H : Nat), .slice A' n c']
 obtain ⟨W1, eW, S⟩ := S.pack
 rw [eW]
 clear eW hW0 x0 x1 x2 x3 x4 x5 y0 y1 y2 y3 y4 y5
 generalize W0.heap.size = P6 at *
 go_loopw [16] (fun i wr => ∃ k : Nat, k ≤ 2 ∧ i = .int .i64 (k : Nat) ∧ St w wr [(P6, 24, [.int .i64 gx, .int .i64 gy, .int .i64 st, .int .i64 (W : Nat), .int .i64 (H : Nat), .slice A n c, .int .i64 gx, .int .i64 gy, .int .i64 st, .int .i64 (W : Nat), .int .i64 (H : Nat), .slice A' n c']), (w.heap.size + 1 + 1, 24, [.int .i64 0, .int .i64 0, .int .i64 0, .int .i64 0, .int .i64 0, .slice none 0 0]), (w.heap.size + 1, 24, [.int .i64 gx, .int .i64 gy, .int .i64 st, .int .i64 (W : Nat), .int .i64 (H : Nat), .slice A' n c']), (w.heap.size, 24, [.int .i64 gx, .int .i64 gy, .int .i64 st, .int .i64 (W : Nat), .int .i64 (H : Nat), .slice A n c])] []) (fun i _ => 2 - (intOf i).toNat)
 case atStart => exact ⟨0, Nat.zero_le _, rfl, S⟩
 case round =>
  clear S
  obtain ⟨k, hk, rfl, S⟩ := hrel
  by_cases hlt : k < 2
  ·have hkI : (k : Int) < 2 := by omega
   have t1 : decide ((k : Int) < 2) = true := decide_eq_true hkI
   have z0 := S.c 0 (k * 6) (v := .int .i64 gx) rfl (HG.out k hlt 0 (by omega))
   have z1 := S.c 0 (k * 6 + 1) (v := .int .i64 gy) rfl (HG.out k hlt 1 (by omega))
   have z2 := S.c 0 (k * 6 + 2) (v := .int .i64 st) rfl (HG.out k hlt 2 (by omega))
   have z3 := S.c 0 (k * 6 + 3) (v := .int .i64 (W : Nat)) rfl (HG.out k hlt 3 (by omega))
   have z4 := S.c 0 (k * 6 + 4) (v := .int .i64 (H : Nat)) rfl (HG.out k hlt 4 (by omega))
   have z5 := S.c 0 (k * 6 + 5) rfl (HG5.out k hlt)
   have HC := Lib.hid (fun (u : World) (hk : Keeps w u) => HCK.out u hk k hlt)
   generalize (if k = 0 then A else A') = Ak at *
   generalize (if k = 0 then c else c') = ck at *
   go_upto_region 4 with fail
   replace S := S.alloc 24 [.int .i64 gx, .int .i64 gy, .int .i64 st, .int .i64 (W : Nat), .int .i64 (H : Nat), .slice Ak n ck]
   obtain ⟨W2, eW, S⟩ := S.pack
   rw [eW]
   clear eW z0 z1 z2 z3 z4 z5
   generalize wr.heap.size = P7 at *
   obtain ⟨x0, x1, x2, x3, x4, x5⟩ := S.cc6 0 rfl
   go_wp2_with fail
   refine (HC.out _ S.k).mono ?_
   rintro e W3 ⟨rfl, hk3⟩
   replace S := (S.below hk3).dropb
   clear hk3 x0 x1 x2 x3 x4 x5
   go_wp2
   go_roundw
   case rel => exact ⟨k + 1, by omega, by go_num, S⟩
   case measure => simp [intOf]; omega
  ·have hkI : ¬ (k : Int) < 2 := by omega
   have t1 : decide ((k : Int) < 2) = false := decide_eq_false hkI
   obtain rfl : k = 2 := by omega
   replace S := S.dropb
   obtain ⟨x0, x1, x2, x3, x4, x5⟩ := S.cc6 2 rfl
   obtain ⟨y0, y1, y2, y3, y4, y5⟩ := S.cc6 1 rfl
   go_wp2_with fail
   refine (HBL.out _).mono ?_
   rintro e W1 ⟨g, rfl, hg, hO, hk⟩
   replace S := S.box (S.below hk) hO hg
   clear hk hO hg x0 x1 x2 x3 x4 x5 y0 y1 y2 y3 y4 y5
   obtain ⟨x0, x1, x2, x3, x4, x5⟩ := S.cc6 3 rfl
   go_wp2
   clear x0 x1 x2 x3 x4 x5
   go_loopw [68] (fun i wr => ∃ k : Nat, k ≤ n ∧ i = .int .i64 (k : Nat) ∧ St w wr [(g, 3, i64s (partD zs ys k)), (w.heap.size + 1 + 1, 24, [.int .i64 0, .int .i64 0, .int .i64 0, .int .i64 0, .int .i64 0, .slice none 0 0]), (w.heap.size + 1, 24, [.int .i64 gx, .int .i64 gy, .int .i64 st, .int .i64 (W : Nat), .int .i64 (H : Nat), .slice A' n c']), (w.heap.size, 24, [.int .i64 gx, .int .i64 gy, .int .i64 st, .int .i64 (W : Nat), .int .i64 (H : Nat), .slice A n c])] []) (fun i _ => n - (intOf i).toNat)
   case atStart => exact ⟨0, Nat.zero_le _, rfl, by rw [HP0.out]; exact S⟩
   case round =>
    clear S
    obtain ⟨k, hk, rfl, S⟩ := hrel
    by_cases hlt2 : k < n
    ·have hkI : (k : Int) < (n : Int) := by omega
     have t1 : decide ((k : Int) < (n : Int)) = true := decide_eq_true hkI
     obtain ⟨bz, oz, rfl, z0⟩ := IRow.at (HR.out.below S.k) (j := k) (by rw [HN.out]; exact hlt2)
     obtain ⟨by', oy, rfl, z1⟩ := IRow.at (HR'.out.below S.k) (j := k) (by rw [HN'.out]; exact hlt2)
     obtain ⟨y0, y1, y2, y3, y4, y5⟩ := S.cc6 2 rfl
     have e1 : (zs.getD k 0 == -2147483648) = !isZ zs k := by unfold isZ; exact (Bool.not_not _).symm
     have e2 : (ys.getD k 0 == -2147483648) = !isZ ys k := by unfold isZ; exact (Bool.not_not _).symm
     have hLk : k < (partD zs ys k).length := by rw [HPL.out]; exact hlt2
     have hpz := HPZ.out k hlt2
     have hpn := HPN.out k hlt2
     have hdk : diffK zs ys k = if isZ zs k && isZ ys k then zs.getD k 0 - ys.getD k 0 else noZ := rfl
     have hdd := HD.out k hlt2
     have hbz := HBZ.out k hlt2
     have hby := HBY.out k hlt2
     obtain ⟨v, hv⟩ : ∃ v, zs.getD k 0 = v := ⟨_, rfl⟩
     obtain ⟨v', hv'⟩ : ∃ v, ys.getD k 0 = v := ⟨_, rfl⟩
     rw [hv] at z0 e1 hdk hdd hbz
     rw [hv'] at z1 e2 hdk hdd hby
     clear hv hv'
     cases hz1 : isZ zs k with
     | false =>
      rw [hz1] at e1 hpz
      have HZ := Lib.hid (hpz rfl)
      have e3 : (v == -2147483648) = true := by rw [e1]; rfl
      clear e1 e2 hpz hpn hdk hdd hbz hby hz1 hLk
      go_wp2
      go_roundw
      case rel => exact ⟨k + 1, by omega, by go_num, by rw [← HZ.out]; exact S⟩
      case measure => simp [intOf]; omega
     | true =>
      cases hz2 : isZ ys k with
      | false =>
       rw [hz1, hz2] at hpz
       rw [hz1] at e1
       rw [hz2] at e2
       have HZ := Lib.hid (hpz rfl)
       have e3 : (v == -2147483648) = false := by rw [e1]; rfl
       have e4 : (v' == -2147483648) = true := by rw [e2]; rfl
       clear e1 e2 hpz hpn hdk hdd hbz hby hz1 hz2 hLk
       go_wp2
       go_roundw
       case rel => exact ⟨k + 1, by omega, by go_num, by rw [← HZ.out]; exact S⟩
       case measure => simp [intOf]; omega
      | true =>
       rw [hz1, hz2] at hdk
       rw [hz1] at e1
       rw [hz2] at e2
       have e3 : (v == -2147483648) = false := by rw [e1]; rfl
       have e4 : (v' == -2147483648) = false := by rw [e2]; rfl
       obtain ⟨d1, d2⟩ := hdd hz1 hz2
       obtain ⟨b1, b2⟩ := hbz hz1
       obtain ⟨b3, b4⟩ := hby hz2
       rw [show diffK zs ys k = v - v' from hdk] at hpn
       have HZ := Lib.hid hpn
       have hw : IntKind.i64.wrap (v - v') = v - v' := by rw [IntKind.wrap_i64]; omega
       have hfa : farP (v - v') = false := by unfold farP; simp; omega
       have hwk := S.c 0 k rfl (i64s_at hLk)
       have hfk := S.f 0 k rfl
       have HFD := Lib.hid (fun u => HFA.out u (v - v'))
       rw [hfa] at HFD
       clear e1 e2 hpz hpn hdk hdd hbz hby hz1 hz2 d1 d2 hfa
       go_upto_region 16 with fail
       replace S := S.putI k (v - v')
       rw [HZ.out] at S
       obtain ⟨W8, eW, S⟩ := S.pack
       rw [eW]
       clear eW hwk hfk z0 z1 y0 y1 y2 y3 y4 y5
       have hLk3 : k < (partD zs ys (k + 1)).length := by rw [HPL.out]; exact hlt2
       have hge : (partD zs ys (k + 1)).getD k 0 = v - v' := by rw [← HZ.out]; simp [List.getD, hLk]
       have hwk := S.c 0 k (v := .int .i64 (v - v')) rfl (by rw [i64s_at hLk3, hge])
       clear hge hLk hLk3 HZ
       go_wp2_with fail
       refine (HFD.out _).mono ?_
       rintro e W9 ⟨rfl, hk9⟩
       replace S := S.below hk9
       clear hk9 hwk
       go_wp2
       go_roundw
       case rel => exact ⟨k + 1, by omega, by go_num, S⟩
       case measure => simp [intOf]; omega
    ·have hkI : ¬ (k : Int) < (n : Int) := by omega
     have t1 : decide ((k : Int) < (n : Int)) = false := decide_eq_false hkI
     obtain rfl : k = n := by omega
     rw [HPE.out] at S
     obtain ⟨x0, x1, x2, x3, x4, x5⟩ := S.cc6 3 rfl
     obtain ⟨y0, y1, y2, y3, y4, y5⟩ := S.cc6 1 rfl
     obtain ⟨f0, f1, f2, f3, f4, f5⟩ := S.ff6 1 rfl
     go_wp2_with fail
     refine (with_any (w := wr) gx gy st (W : Nat) (H : Nat) A (some ⟨g, 0, none⟩) k c k k).mono ?_
     rintro e W5 ⟨rfl, hk5⟩
     clear x0 x1 x2 x3 x4 x5 y0 y1 y2 y3 y4 y5 f0 f1 f2 f3 f4 f5
     replace S := S.below hk5
     clear hk5
     obtain ⟨f0, f1, f2, f3, f4, f5⟩ := S.ff6 1 rfl
     obtain ⟨y0, y1, y2, y3, y4, y5⟩ := S.cc6 1 rfl
     have S2 := S.put6 1 rfl rfl rfl (x0 := .int .i64 gx) (x1 := .int .i64 gy) (x2 := .int .i64 st) (x3 := .int .i64 (W : Nat)) (x4 := .int .i64 (H : Nat)) (x5 := .slice (some ⟨g, 0, none⟩) k k)
     go_wp2
     refine bodyPost_ret (v := .tuple #[.agg #[.int .i64 gx, .int .i64 gy, .int .i64 st, .int .i64 (W : Nat), .int .i64 (H : Nat), .slice (some ⟨g, 0, none⟩) k k], .int .i64 0]) (by simp [results, Tryz.results24, go_sem, S2.c 1 0 rfl rfl, S2.c 1 1 rfl rfl, S2.c 1 2 rfl rfl, S2.c 1 3 rfl rfl, S2.c 1 4 rfl rfl, S2.c 1 5 rfl rfl]) rfl ?_
     have hO9 := S2.o (p := (g, 3, i64s (diffL zs ys))) 0 rfl
     exact ⟨g, rfl, S2.lo (g, 3, i64s (diffL zs ys)) List.mem_cons_self, hO9, S2.k⟩
set_option maxRecDepth 100000 in
set_option maxHeartbeats 1000000 in
theorem gint_num {w : World} (z : Int) (h1 : -9223372036854775808 ≤ z) (h2 : z ≤ 9223372036854775807) : Calls Tryz.prog 14 #[.int .i64 z] w (RGives (z : Rat) w) := by
 have y0 := szR_int z
 have S := (St.start w)
 go_enter Tryz.func14, Tryz.ntmps14
 go_wp2_with fail
 replace S := (S.alloc 35 [.bool false, .slice none 0 0, .bool false, .slice none 0 0])
 obtain ⟨W1, eW, S⟩ := S.pack
 rw [eW]
 clear eW
 refine ((gwhole_num z h1 h2)).mono ?_
 rintro e W2 ⟨U2, rfl, hp, hk⟩
 obtain ⟨b3, A3, n3, c3, d3, B3, m3, e3, rfl⟩ := hp.open_
 replace S := (S.below hk).addQ hp
 clear hk hp
 have r0_0 := S.c 0 0 rfl rfl
 have f0_0 := S.f 0 0 rfl
 have r0_1 := S.c 0 1 rfl rfl
 have f0_1 := S.f 0 1 rfl
 have r0_2 := S.c 0 2 rfl rfl
 have f0_2 := S.f 0 2 rfl
 have r0_3 := S.c 0 3 rfl rfl
 have f0_3 := S.f 0 3 rfl
 go_wp2
 replace S := (S.put4 0 rfl rfl rfl (x' := .bool b3) (y' := .slice A3 n3 c3) (z' := .bool d3) (u' := .slice B3 m3 e3))
 refine bodyPost_ret (v := .agg #[.bool b3, .slice A3 n3 c3, .bool d3, .slice B3 m3 e3]) (by simp [results, Tryz.results14, go_sem, S.c 0 0 rfl rfl, S.c 0 1 rfl rfl, S.c 0 2 rfl rfl, S.c 0 3 rfl rfl]) rfl ?_
 exact ⟨_, rfl, S.qi 0 rfl, S.k⟩
set_option maxRecDepth 100000 in
set_option maxHeartbeats 1000000 in
theorem gsamer_s {w : World} {V1 V2 : Value} {x y : Rat} {b : Bool} (h1 : RatRep w V1 x) (h2 : RatRep w V2 y) (hl : szR x + szR y ≤ 99999) (e : decide (x = y) = b) : Calls Tryz.prog 16 #[V1, V2] w (fun e w' => e = .returned (.bool b) ∧ Keeps w w') := by
 obtain ⟨b3, A3, n3, c3, d3, B3, m3, e3, rfl⟩ := h1.open_
 obtain ⟨b4, A4, n4, c4, d4, B4, m4, e4, rfl⟩ := h2.open_
 have S := (((St.start w).addQ h1).addQ h2)
 clear h1 h2
 go_enter Tryz.func16, Tryz.ntmps16
 go_upto_region 1 with fail
 replace S := ((S.alloc 35 [.bool b3, .slice A3 n3 c3, .bool d3, .slice B3 m3 e3]).alloc 35 [.bool b4, .slice A4 n4 c4, .bool d4, .slice B4 m4 e4])
 simp only [World.size_alloc] at S
 obtain ⟨W1, eW, S⟩ := S.pack
 rw [eW]
 clear eW
 obtain ⟨r0_0, r0_1, r0_2, r0_3⟩ := S.cc4 1 rfl
 obtain ⟨r1_0, r1_1, r1_2, r1_3⟩ := S.cc4 0 rfl
 go_wp2_with fail
 refine ((gsame_s (b := b) (S.qi 1 rfl) (S.qi 0 rfl) (by omega) e)).mono ?_
 rintro e W2 ⟨rfl, hk⟩
 replace S := S.below hk
 clear hk
 clear r0_0 r0_1 r0_2 r0_3 r1_0 r1_1 r1_2 r1_3
 go_wp2
 go_ret
 exact ⟨rfl, S.k⟩
abbrev Cn := Int × Int × Int
def cc (a : Cn) : List Value := [.int .i64 a.1, .int .i64 a.2.1, .int .i64 a.2.2]
end Go.Proofs.YtecibfncnaccjaaGreat
