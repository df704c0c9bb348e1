/- The walk of the reference's Divide. -/
import Derived.Test.YtgcigdahjabimaaGreatDoorPr14
import Derived.Test.YtgcigdahjabimaaGreatDoorPr16
import Derived.Test.YtgcigdahjabimaaGreatDoorPr8
import Derived.Test.YtgcigdahjabimaaGreatDoorPr15
namespace Go.Proofs.YtgcigdahjabimaaGreatDoor
open Go.RowKit Go.Shelf

theorem TwoRes.more {w w2 : World} {t : TypeId} {z1 z2 : Int} {A1 A2 : Option Addr} {m1 c1 m2 c2 : Nat} {vs : List Value} (hR : Own w2 (w.heap.size + 1 + 1 + 1) t vs) :
 Own ((((w2.setCell ⟨w.heap.size, 0, none⟩ (.bool (decide (z1 < 0)))).setCell ⟨w.heap.size, 1, none⟩ (.slice A1 m1 c1)).setCell ⟨w.heap.size + 1, 0, none⟩ (.bool (decide (z2 < 0)))).setCell ⟨w.heap.size + 1, 1, none⟩ (.slice A2 m2 c2)) (w.heap.size + 1 + 1 + 1) t vs :=
 (hR.far2 (R := w.heap.size) (by omega) (x := .bool (decide (z1 < 0))) (y := .slice A1 m1 c1)).far2 (R := w.heap.size + 1) (by omega) (x := .bool (decide (z2 < 0))) (y := .slice A2 m2 c2)

theorem rmul_z {w : World} {V1 V2 : Value} {z1 z2 : Int} (h1 : IntRep w V1 z1) (h2 : IntRep w V2 z2) (l1 : (dig z1.natAbs).length ≤ 1000000) (l2 : (dig z2.natAbs).length ≤ 1000000) :
 Calls Tryz.prog 54 #[V1, V2] w fun e w' => ∃ V, e = .returned V ∧ IntRep w' V (z1 * z2) ∧ Keeps w w' := by
 have := rmul_any _ _ _ _ V1 V2 w h1.arg h2.arg l1 l2
 rwa [cnt_rep, cnt_rep] at this
theorem rsub_z {w : World} {V1 V2 : Value} {z1 z2 : Int} (h1 : IntRep w V1 z1) (h2 : IntRep w V2 z2) (l1 : (dig z1.natAbs).length ≤ 1000000) (l2 : (dig z2.natAbs).length ≤ 1000000) :
 Calls Tryz.prog 107 #[V1, V2] w fun e w' => ∃ V, e = .returned V ∧ IntRep w' V (z1 - z2) ∧ Keeps w w' := by
 have := rsub_any _ _ _ _ V1 V2 w h1.arg h2.arg l1 l2
 rwa [cnt_rep, cnt_rep] at this
theorem rest_of (x y : Int) : x - x.fdiv y * y = x.fmod y := by rw [Int.fmod_def, Int.mul_comm]

def RdCut (w wx : World) (t : TypeId) (B : Nat) (d1 d2 : Bool) (A1 A2 : Option Addr) (m1 c1 m2 c2 : Nat) (z1 z2 zq : Int) : Prop := ∃ A8 n8 c8,
 Own wx w.heap.size t [.bool d1, .slice A1 m1 c1] ∧ Own wx (w.heap.size + 1) t [.bool d2, .slice A2 m2 c2] ∧ Own wx (w.heap.size + 1 + 1) t [.bool false, .slice none 0 0] ∧ Own wx (w.heap.size + 1 + 1 + 1) t [.bool false, .slice none 0 0] ∧
 Own wx B t [.bool (decide (zq < 0)), .slice A8 n8 c8] ∧ IntRep wx (.agg #[.bool d1, .slice A1 m1 c1]) z1 ∧ IntRep wx (.agg #[.bool d2, .slice A2 m2 c2]) z2 ∧ IntRep wx (.agg #[.bool (decide (zq < 0)), .slice A8 n8 c8]) zq ∧ Keeps w wx
theorem RdCut.of {w w8 : World} {t : TypeId} {B : Nat} {d1 d2 e5 : Bool} {A1 A2 A5 A8 : Option Addr} {m1 c1 m2 c2 n5 c5 n8 c8 : Nat} {z1 z2 zq : Int}
 (hA : Own w8 w.heap.size t [.bool d1, .slice A1 m1 c1]) (hB : Own w8 (w.heap.size + 1) t [.bool d2, .slice A2 m2 c2]) (hR : Own w8 (w.heap.size + 1 + 1) t [.bool false, .slice none 0 0]) (hS : Own w8 (w.heap.size + 1 + 1 + 1) t [.bool false, .slice none 0 0])
 (hQ : Own w8 B t [.bool e5, .slice A5 n5 c5]) (hlt : w.heap.size + 1 + 1 + 1 < B) (hx : IntRep w8 (.agg #[.bool d1, .slice A1 m1 c1]) z1) (hy : IntRep w8 (.agg #[.bool d2, .slice A2 m2 c2]) z2) (hq : IntRep w8 (.agg #[.bool (decide (zq < 0)), .slice A8 n8 c8]) zq) (hk : Keeps w w8) :
 RdCut w ((w8.setCell ⟨B, 0, none⟩ (.bool (decide (zq < 0)))).setCell ⟨B, 1, none⟩ (.slice A8 n8 c8)) t B d1 d2 A1 A2 m1 c1 m2 c2 z1 z2 zq :=
 ⟨A8, n8, c8, hA.far2 (by omega), hB.far2 (by omega), hR.far2 (by omega), hS.far2 (by omega), hQ.two _ _, hx.two hQ rfl rfl rfl, hy.two hQ rfl rfl rfl, hq.two hQ rfl rfl rfl, (hk.set (p := ⟨B, 0, none⟩) (by simp only; omega) _).set (p := ⟨B, 1, none⟩) (by simp only; omega) _⟩
theorem dec_len (z : Int) : (dig (z - 1).natAbs).length ≤ (dig z.natAbs).length + 2 := by
 have h := dig_length_mono (show (z - 1).natAbs ≤ z.natAbs + 1 by omega)
 have h2 := dig_length_add z.natAbs 1
 have h3 : (dig 1).length ≤ 1 := dig_length_le (by decide)
 omega
theorem sgn_dec (d1 d2 : Bool) (n : Nat) (h : d1 ≠ d2) : sgn (d1 != d2) (n + 1) = sgn (d1 != d2) n - 1 := by
 cases d1 <;> cases d2 <;> simp [sgn] at h ⊢ <;> omega

set_option maxRecDepth 100000 in
set_option maxHeartbeats 2000000 in
theorem rdivide_any (n1 n2 : Bool) (xs ys : List Nat) (V1 V2 : Value) (w : World) (h1 : IntArg w V1 n1 xs) (h2 : IntArg w V2 n2 ys) (hm1 : xs.length ≤ 400000) (hm2 : ys.length ≤ 400000) :
 Calls Tryz.prog 98 #[V1, V2] w fun e w' => ∃ Q R, e = .returned (.tuple #[Q, R, .int .i64 (divC (cnt n2 ys))]) ∧ IntRep w' Q (divQ (cnt n1 xs) (cnt n2 ys)) ∧ IntRep w' R (divR (cnt n1 xs) (cnt n2 ys)) ∧ Keeps w w' := by
 obtain ⟨v1, rfl, hv1⟩ := h1
 obtain ⟨v2, rfl, hv2⟩ := h2
 have hml1 := mag_length n1 xs
 have hml2 := mag_length n2 ys
 have hkk : Keeps w ((((w.alloc (.cells #[.bool n1, v1] 29)).alloc (.cells #[.bool n2, v2] 29)).alloc (.cells #[.bool false, .slice none 0 0] 29)).alloc (.cells #[.bool false, .slice none 0 0] 29)) := (keep3 w _ _ _).alloc (by simp; omega) _
 have hG1 := Lib.hid (fun W (hW : IntArg W (.agg #[.bool n1, v1]) n1 xs) => rvalue_any n1 xs (.agg #[.bool n1, v1]) W hW (by omega))
 have hG2 := Lib.hid (fun W (hW : IntArg W (.agg #[.bool n2, v2]) n2 ys) => rvalue_any n2 ys (.agg #[.bool n2, v2]) W hW (by omega))
 have hA := (((Own.new w 29 [.bool n1, v1]).alloc (.cells #[.bool n2, v2] 29)).alloc (.cells #[.bool false, .slice none 0 0] 29)).alloc (.cells #[.bool false, .slice none 0 0] 29)
 have hB := ((own2 w (.cells #[.bool n1, v1] 29) 29 [.bool n2, v2]).alloc (.cells #[.bool false, .slice none 0 0] 29)).alloc (.cells #[.bool false, .slice none 0 0] 29)
 have hR := (own3 w (.cells #[.bool n1, v1] 29) (.cells #[.bool n2, v2] 29) 29 [.bool false, .slice none 0 0]).alloc (.cells #[.bool false, .slice none 0 0] 29)
 have hS := Own.new (((w.alloc (.cells #[.bool n1, v1] 29)).alloc (.cells #[.bool n2, v2] 29)).alloc (.cells #[.bool false, .slice none 0 0] 29)) 29 [.bool false, .slice none 0 0]
 simp only [World.size_alloc] at hS
 go_enter Tryz.func98, Tryz.ntmps98
 go_upto_region 1 with fail
 have g1 := hv1.below hkk
 have g2 := hv2.below hkk
 generalize (((w.alloc (.cells #[.bool n1, v1] 29)).alloc (.cells #[.bool n2, v2] 29)).alloc (.cells #[.bool false, .slice none 0 0] 29)).alloc (.cells #[.bool false, .slice none 0 0] 29) = W at *
 have a0 := hA.c0
 have a1 := hA.c1
 have b0 := hB.c0
 have b1 := hB.c1
 go_cut [] (fun wx => TwoRes w wx 29 (cnt n1 xs) (cnt n2 ys) ∧ Own wx (w.heap.size + 1 + 1 + 1) 29 [.bool false, .slice none 0 0])
 case first =>
  go_region_with (first
   | (go_at_call_of 99 (Value.agg #[Value.bool n1, v1]); refine (hG1.out W.drew ⟨v1, rfl, g1⟩).mono ?_; rintro e w1 ⟨U1, rfl, hr1, hk1⟩; obtain ⟨A1, m1, c1, rfl, hu1⟩ := hr1.open_; have hA1 := hA.drew.below hk1; have hB1 := hB.drew.below hk1; have a10 := hA1.c0; have a11 := hA1.c1; have b10 := hB1.c0; have b11 := hB1.c1)
   | (go_at_call_of 99 (Value.agg #[Value.bool n2, v2]); refine (hG2.out w1 ⟨v2, rfl, U32.below (w := W.drew) g2 hk1⟩).mono ?_; rintro e w2 ⟨U2, rfl, hr2, hk2⟩; obtain ⟨A2, m2, c2, rfl, hu2⟩ := hr2.open_; have hA2 := hA1.below hk2; have hB2 := hB1.below hk2; have hR2 := (hR.drew.below hk1).below hk2; have hS2 := (hS.drew.below hk1).below hk2; have hk3 := (Keeps.trans' (Below.drew hkk) hk1).trans' hk2; have a20 := hA2.c0; have a21 := hA2.c1; have b20 := hB2.c0; have b21 := hB2.c1; have af0 := hA2.frozen 0; have af1 := hA2.frozen 1; have bf0 := hB2.frozen 0; have bf1 := hB2.frozen 1))
  all_goals (go_wp2_with fail; go_meet; exact ⟨TwoRes.of hA2 hB2 hR2 (hu1.below hk2) hu2 hk3 rfl hv1.noU rfl hv2.noU, TwoRes.more hS2⟩)
 case rest =>
  clear hG1 hG2 a0 a1 b0 b1 hA hB hR hS hkk
  obtain ⟨⟨A1, m1, c1, A2, m2, c2, hA, hB, hR, hu1, hu2, hk⟩, hS⟩ := hcut
  have hl1 : (dig (cnt n1 xs).natAbs).length ≤ 400000 := by rw [cnt_abs]; omega
  have hl2 : (dig (cnt n2 ys).natAbs).length ≤ 400000 := by rw [cnt_abs]; omega
  obtain ⟨z1, hz1⟩ : ∃ z, cnt n1 xs = z := ⟨_, rfl⟩
  obtain ⟨z2, hz2⟩ : ∃ z, cnt n2 ys = z := ⟨_, rfl⟩
  rw [hz1] at hA hu1 hl1
  rw [hz2] at hB hu2 hl2
  have HZ1 := Lib.hid hz1
  have HZ2 := Lib.hid hz2
  clear hz1 hz2 hml1 hml2 g1 g2 hv1 hv2 hm1 hm2
  obtain ⟨A2', m2', c2', e', e2, -⟩ := hu2.open_
  cases e'
  have p0 := hA.c0
  have p1 := hA.c1
  have q0 := hB.c0
  have q1 := hB.c1
  have r0 := hR.c0
  have r1 := hR.c1
  have r2 := hR.frozen 0
  have r3 := hR.frozen 1
  have s0 := hS.c0
  have s1 := hS.c1
  have s2 := hS.frozen 0
  have s3 := hS.frozen 1
  by_cases hb : z2 = 0
  ·have hm0 : m2 = 0 := by rw [hb] at e2; simpa [dig_zero] using e2.symm
   subst hm0
   have HB := Lib.hid hb
   clear hb e2
   go_wp2
   have hR' := (hR.two (.bool false) (.slice none 0 0)).far2 (show w.heap.size + 1 + 1 ≠ w.heap.size + 1 + 1 + 1 by omega) (x := .bool false) (y := .slice none 0 0)
   have hS' := (hS.far2 (show w.heap.size + 1 + 1 + 1 ≠ w.heap.size + 1 + 1 by omega) (x := .bool false) (y := .slice none 0 0)).two (.bool false) (.slice none 0 0)
   refine bodyPost_ret (v := .tuple #[.agg #[.bool false, .slice none 0 0], .agg #[.bool false, .slice none 0 0], .int .i64 14]) (by simp [results, Tryz.results98, go_sem, hR'.cell 0, hR'.cell 1, hS'.cell 0, hS'.cell 1]) rfl ?_
   have hkE := (((hk.set (p := ⟨w.heap.size + 1 + 1, 0, none⟩) (by simp only; omega) (.bool false)).set (p := ⟨w.heap.size + 1 + 1, 1, none⟩) (by simp only; omega) (.slice none 0 0)).set (p := ⟨w.heap.size + 1 + 1 + 1, 0, none⟩) (by simp only; omega) (.bool false)).set (p := ⟨w.heap.size + 1 + 1 + 1, 1, none⟩) (by simp only; omega) (.slice none 0 0)
   rw [HZ1.out, HZ2.out, show divQ z1 z2 = 0 from if_pos HB.out, show divR z1 z2 = 0 from if_pos HB.out, show divC z2 = 14 from if_pos HB.out]
   exact ⟨_, _, rfl, IntRep.of_nil U32.nil, IntRep.of_nil U32.nil, hkE⟩
  ·have hm0 : 0 < m2 := by have := dig_length_pos.2 (show z2.natAbs ≠ 0 by omega); omega
   have hb' : z2.natAbs ≠ 0 := by omega
   have hs1 := sgn_of_rep z1
   have hs2 := sgn_of_rep z2
   have HS1 := Lib.hid hs1
   have HS2 := Lib.hid hs2
   have HB0 := Lib.hid hb
   have HB1 := Lib.hid hb'
   clear hs1 hs2 hb hb' e2
   generalize hd1 : decide (z1 < 0) = d1 at *
   generalize hd2 : decide (z2 < 0) = d2 at *
   have HD1 := Lib.hid hd1
   have HD2 := Lib.hid hd2
   clear hd1 hd2
   go_wp2_with fail
   refine (rparts_any _ _ z1.natAbs z2.natAbs _ hu1 hu2 (by omega) (by omega) HB1.out).mono ?_
   rintro e w3 ⟨q, r, rfl, hq, hr, hk3⟩
   have hA3 := hA.below hk3
   have hB3 := hB.below hk3
   have hR3 := hR.below hk3
   have hS3 := hS.below hk3
   have hu13 := hu1.below hk3
   have hu23 := hu2.below hk3
   have hkk3 := hk.trans' hk3
   clear p0 p1 q0 q1 r0 r1 r2 r3 s0 s1 s2 s3
   have p0 := hA3.c0
   have p1 := hA3.c1
   have q0 := hB3.c0
   have q1 := hB3.c1
   have hql : (dig (z1.natAbs / z2.natAbs)).length ≤ 400000 := Nat.le_trans (dig_length_mono (Nat.div_le_self _ _)) hl1
   go_wp2_with fail
   refine (rmade_d (d1 != d2) q (z1.natAbs / z2.natAbs) w3 hq (by omega)).mono ?_
   rintro e w5 ⟨V5, rfl, hr5, hk5⟩
   obtain ⟨A5, n5, c5, rfl, hv5⟩ := hr5.open_
   obtain ⟨R, m4, c4, rfl, e4, -⟩ := hr.open_
   have hA5 := hA3.below hk5
   have hB5 := hB3.below hk5
   have hR5 := hR3.below hk5
   have hS5 := hS3.below hk5
   have hu15 := hu13.below hk5
   have hu25 := hu23.below hk5
   have hkk5 := hkk3.trans' hk5
   clear p0 p1 q0 q1
   have p0 := hA5.c0
   have p1 := hA5.c1
   have q0 := hB5.c0
   have q1 := hB5.c1
   obtain ⟨zq, hzq⟩ : ∃ z, sgn (d1 != d2) (z1.natAbs / z2.natAbs) = z := ⟨_, rfl⟩
   rw [hzq] at hr5 hv5
   simp only [hzq]
   have HZQ := Lib.hid hzq
   clear hzq
   have hA6 := hA5.alloc (.cells #[.bool (decide (zq < 0)), .slice A5 n5 c5] 29)
   have hB6 := hB5.alloc (.cells #[.bool (decide (zq < 0)), .slice A5 n5 c5] 29)
   have hR6 := hR5.alloc (.cells #[.bool (decide (zq < 0)), .slice A5 n5 c5] 29)
   have hS6 := hS5.alloc (.cells #[.bool (decide (zq < 0)), .slice A5 n5 c5] 29)
   have hQ6 := Own.new w5 29 [.bool (decide (zq < 0)), .slice A5 n5 c5]
   have hb6 := box2 w5 (.cells #[.bool (decide (zq < 0)), .slice A5 n5 c5] 29)
   have hu16 := hu15.below hb6
   have hu26 := hu25.below hb6
   have hqr := hr5.below hb6
   have hkk6 := hkk5.trans' hb6
   have hxr : IntRep (w5.alloc (.cells #[.bool (decide (zq < 0)), .slice A5 n5 c5] 29)) (.agg #[.bool d1, .slice A1 m1 c1]) z1 := ⟨_, by rw [HD1.out], hu16⟩
   have hyr : IntRep (w5.alloc (.cells #[.bool (decide (zq < 0)), .slice A5 n5 c5] 29)) (.agg #[.bool d2, .slice A2 m2 c2]) z2 := ⟨_, by rw [HD2.out], hu26⟩
   clear p0 p1 q0 q1
   have p0 := hA6.c0
   have q0 := hB6.c0
   have hqz : (dig zq.natAbs).length ≤ 400000 := by rw [← HZQ.out, sgn_natAbs]; exact hql
   have hE4 := Lib.hid e4
   clear e4
   have hlt5 := hS5.lt
   have hds0 := (divide_sgn d1 d2 z1.natAbs z2.natAbs HB1.out).1
   rw [HS1.out, HS2.out] at hds0
   have HDS0 := Lib.hid hds0
   clear hds0
   generalize hW : (w5.alloc (.cells #[.bool (decide (zq < 0)), .slice A5 n5 c5] 29)) = W at *
   generalize hBe : w5.heap.size = B at *
   by_cases hdd : d1 = d2
   ·have hne : (d1 == d2) = true := by simp [hdd]
    have HDS : Hid (z1.fdiv z2 = zq) := Lib.hid (by rw [HDS0.out, if_neg (fun h => h.2 hdd), HZQ.out])
    clear hdd
    have p1 := hA6.c1
    have q1 := hB6.c1
    have t0 := hQ6.c0
    have t1 := hQ6.c1
    have hpl : (dig (zq * z2).natAbs).length ≤ 1000000 := by rw [Int.natAbs_mul]; have := dig_length_mul zq.natAbs z2.natAbs; omega
    go_upto_region 8 with fail
    replace hA := hA6.drew
    replace hB := hB6.drew
    replace hR := hR6.drew
    replace hS := hS6.drew
    replace hQ := hQ6.drew
    replace hkk : Keeps w W.drew := Below.drew hkk6
    have hM := Lib.hid (fun W' (hk : Keeps W W') => rmul_z (hqr.below hk) (hyr.below hk) (by omega) (by omega))
    clear p0 p1 q0 q1 t0 t1
    go_region_held3 (fun w' => w'.cell? ⟨w.heap.size, 0, none⟩ = some (.bool d1) ∧ w'.cell? ⟨w.heap.size, 1, none⟩ = some (.slice A1 m1 c1) ∧ w'.cell? ⟨w.heap.size + 1, 0, none⟩ = some (.bool d2) ∧ w'.cell? ⟨w.heap.size + 1, 1, none⟩ = some (.slice A2 m2 c2) ∧ w'.cell? ⟨B, 0, none⟩ = some (.bool (decide (zq < 0))) ∧ w'.cell? ⟨B, 1, none⟩ = some (.slice A5 n5 c5))
     (first | (with_reducible exact ⟨hA.c0, hA.c1, hB.c0, hB.c1, hQ.c0, hQ.c1⟩) | (with_reducible exact ⟨(hA.far2 (R := w.heap.size + 1 + 1) (by omega)).c0, (hA.far2 (R := w.heap.size + 1 + 1) (by omega)).c1, (hB.far2 (R := w.heap.size + 1 + 1) (by omega)).c0, (hB.far2 (R := w.heap.size + 1 + 1) (by omega)).c1, (hQ.far2 (R := w.heap.size + 1 + 1) (by omega)).c0, (hQ.far2 (R := w.heap.size + 1 + 1) (by omega)).c1⟩) | (with_reducible exact ⟨((hA.far2 (R := w.heap.size + 1 + 1) (by omega)).far2 (R := w.heap.size + 1 + 1 + 1) (by omega)).c0, ((hA.far2 (R := w.heap.size + 1 + 1) (by omega)).far2 (R := w.heap.size + 1 + 1 + 1) (by omega)).c1, ((hB.far2 (R := w.heap.size + 1 + 1) (by omega)).far2 (R := w.heap.size + 1 + 1 + 1) (by omega)).c0, ((hB.far2 (R := w.heap.size + 1 + 1) (by omega)).far2 (R := w.heap.size + 1 + 1 + 1) (by omega)).c1, ((hQ.far2 (R := w.heap.size + 1 + 1) (by omega)).far2 (R := w.heap.size + 1 + 1 + 1) (by omega)).c0, ((hQ.far2 (R := w.heap.size + 1 + 1) (by omega)).far2 (R := w.heap.size + 1 + 1 + 1) (by omega)).c1⟩))
     (first
      | (go_at_call 54; refine (hM.out _ (Below.drew bl)).mono ?_; rintro e w6 ⟨V6, rfl, hr7, hk⟩; have hW6 : Keeps W w6 := Keeps.trans' (w1 := W.drew) (Below.drew bl) hk; replace hA := hA.below hk; replace hB := hB.below hk; replace hR := hR.below hk; replace hS := hS.below hk; replace hQ := hQ.below hk; replace hkk := hkk.trans' hk; obtain ⟨A7, n7, c7, rfl, -⟩ := hr7.open_)
      | (go_at_call 107; refine (rsub_z (hxr.below hW6) hr7 (by omega) hpl).mono ?_; rintro e w7 ⟨V7, rfl, hr8, hk⟩; have hW7 := hW6.trans' hk; replace hA := hA.below hk; replace hB := hB.below hk; replace hR := hR.below hk; replace hS := hS.below hk; replace hQ := hQ.below hk; replace hkk := hkk.trans' hk; obtain ⟨A8, n8, c8, rfl, -⟩ := hr8.open_; have q0 := hR.c0; have q1 := hR.c1; have q2 := hR.frozen 0; have q3 := hR.frozen 1; have r0 := hS.c0; have r1 := hS.c1; have r2 := hS.frozen 0; have r3 := hS.frozen 1))
    go_wp2
    have hR' := (hR.two (.bool (decide (zq < 0))) (.slice A5 n5 c5)).far2 (show w.heap.size + 1 + 1 ≠ w.heap.size + 1 + 1 + 1 by omega) (x := .bool (decide (z1 - zq * z2 < 0))) (y := .slice A8 n8 c8)
    have hS' := (hS.far2 (show w.heap.size + 1 + 1 + 1 ≠ w.heap.size + 1 + 1 by omega) (x := .bool (decide (zq < 0))) (y := .slice A5 n5 c5)).two (.bool (decide (z1 - zq * z2 < 0))) (.slice A8 n8 c8)
    refine bodyPost_ret (v := .tuple #[.agg #[.bool (decide (zq < 0)), .slice A5 n5 c5], .agg #[.bool (decide (z1 - zq * z2 < 0)), .slice A8 n8 c8], .int .i64 0]) (by simp [results, Tryz.results98, go_sem, hR'.cell 0, hR'.cell 1, hS'.cell 0, hS'.cell 1]) rfl ?_
    have hkE := (((hkk.set (p := ⟨w.heap.size + 1 + 1, 0, none⟩) (by simp only; omega) (.bool (decide (zq < 0)))).set (p := ⟨w.heap.size + 1 + 1, 1, none⟩) (by simp only; omega) (.slice A5 n5 c5)).set (p := ⟨w.heap.size + 1 + 1 + 1, 0, none⟩) (by simp only; omega) (.bool (decide (z1 - zq * z2 < 0)))).set (p := ⟨w.heap.size + 1 + 1 + 1, 1, none⟩) (by simp only; omega) (.slice A8 n8 c8)
    have hds := HDS.out
    rw [HZ1.out, HZ2.out, show divQ z1 z2 = zq from (if_neg HB0.out).trans hds, show divR z1 z2 = z1 - zq * z2 from (if_neg HB0.out).trans (by rw [← rest_of, hds]), show divC z2 = 0 from if_neg HB0.out]
    refine ⟨_, _, rfl, ?_, ?_, hkE⟩
    ·exact ((hqr.below hW7).two (x' := .bool (decide (zq < 0))) (y' := .slice A5 n5 c5) hR rfl rfl rfl).two (hS.far2 (by omega)) rfl rfl rfl
    ·exact (hr8.two (x' := .bool (decide (zq < 0))) (y' := .slice A5 n5 c5) hR rfl rfl rfl).two (hS.far2 (by omega)) rfl rfl rfl
   ·have hne : (d1 == d2) = false := by simp [hdd]
    have HDD := Lib.hid hdd
    clear hdd
    rcases Nat.eq_zero_or_pos m4 with hm4 | hm4
    ·have hrz := dig_length_zero.1 (hE4.out.trans hm4)
     have HDS : Hid (z1.fdiv z2 = zq) := Lib.hid (by rw [HDS0.out, if_neg (fun h => h.1 hrz), HZQ.out])
     clear hrz
     subst hm4
     have p1 := hA6.c1
     have q1 := hB6.c1
     have t0 := hQ6.c0
     have t1 := hQ6.c1
     have hpl : (dig (zq * z2).natAbs).length ≤ 1000000 := by rw [Int.natAbs_mul]; have := dig_length_mul zq.natAbs z2.natAbs; omega
     go_upto_region 8 with fail
     replace hA := hA6.drew
     replace hB := hB6.drew
     replace hR := hR6.drew
     replace hS := hS6.drew
     replace hQ := hQ6.drew
     replace hkk : Keeps w W.drew := Below.drew hkk6
     have hM := Lib.hid (fun W' (hk : Keeps W W') => rmul_z (hqr.below hk) (hyr.below hk) (by omega) (by omega))
     clear p0 p1 q0 q1 t0 t1
     go_region_held3 (fun w' => w'.cell? ⟨w.heap.size, 0, none⟩ = some (.bool d1) ∧ w'.cell? ⟨w.heap.size, 1, none⟩ = some (.slice A1 m1 c1) ∧ w'.cell? ⟨w.heap.size + 1, 0, none⟩ = some (.bool d2) ∧ w'.cell? ⟨w.heap.size + 1, 1, none⟩ = some (.slice A2 m2 c2) ∧ w'.cell? ⟨B, 0, none⟩ = some (.bool (decide (zq < 0))) ∧ w'.cell? ⟨B, 1, none⟩ = some (.slice A5 n5 c5))
      (first | (with_reducible exact ⟨hA.c0, hA.c1, hB.c0, hB.c1, hQ.c0, hQ.c1⟩) | (with_reducible exact ⟨(hA.far2 (R := w.heap.size + 1 + 1) (by omega)).c0, (hA.far2 (R := w.heap.size + 1 + 1) (by omega)).c1, (hB.far2 (R := w.heap.size + 1 + 1) (by omega)).c0, (hB.far2 (R := w.heap.size + 1 + 1) (by omega)).c1, (hQ.far2 (R := w.heap.size + 1 + 1) (by omega)).c0, (hQ.far2 (R := w.heap.size + 1 + 1) (by omega)).c1⟩) | (with_reducible exact ⟨((hA.far2 (R := w.heap.size + 1 + 1) (by omega)).far2 (R := w.heap.size + 1 + 1 + 1) (by omega)).c0, ((hA.far2 (R := w.heap.size + 1 + 1) (by omega)).far2 (R := w.heap.size + 1 + 1 + 1) (by omega)).c1, ((hB.far2 (R := w.heap.size + 1 + 1) (by omega)).far2 (R := w.heap.size + 1 + 1 + 1) (by omega)).c0, ((hB.far2 (R := w.heap.size + 1 + 1) (by omega)).far2 (R := w.heap.size + 1 + 1 + 1) (by omega)).c1, ((hQ.far2 (R := w.heap.size + 1 + 1) (by omega)).far2 (R := w.heap.size + 1 + 1 + 1) (by omega)).c0, ((hQ.far2 (R := w.heap.size + 1 + 1) (by omega)).far2 (R := w.heap.size + 1 + 1 + 1) (by omega)).c1⟩))
      (first
       | (go_at_call 54; refine (hM.out _ (Below.drew bl)).mono ?_; rintro e w6 ⟨V6, rfl, hr7, hk⟩; have hW6 : Keeps W w6 := Keeps.trans' (w1 := W.drew) (Below.drew bl) hk; replace hA := hA.below hk; replace hB := hB.below hk; replace hR := hR.below hk; replace hS := hS.below hk; replace hQ := hQ.below hk; replace hkk := hkk.trans' hk; obtain ⟨A7, n7, c7, rfl, -⟩ := hr7.open_)
       | (go_at_call 107; refine (rsub_z (hxr.below hW6) hr7 (by omega) hpl).mono ?_; rintro e w7 ⟨V7, rfl, hr8, hk⟩; have hW7 := hW6.trans' hk; replace hA := hA.below hk; replace hB := hB.below hk; replace hR := hR.below hk; replace hS := hS.below hk; replace hQ := hQ.below hk; replace hkk := hkk.trans' hk; obtain ⟨A8, n8, c8, rfl, -⟩ := hr8.open_; have q0 := hR.c0; have q1 := hR.c1; have q2 := hR.frozen 0; have q3 := hR.frozen 1; have r0 := hS.c0; have r1 := hS.c1; have r2 := hS.frozen 0; have r3 := hS.frozen 1))
     go_wp2
     have hR' := (hR.two (.bool (decide (zq < 0))) (.slice A5 n5 c5)).far2 (show w.heap.size + 1 + 1 ≠ w.heap.size + 1 + 1 + 1 by omega) (x := .bool (decide (z1 - zq * z2 < 0))) (y := .slice A8 n8 c8)
     have hS' := (hS.far2 (show w.heap.size + 1 + 1 + 1 ≠ w.heap.size + 1 + 1 by omega) (x := .bool (decide (zq < 0))) (y := .slice A5 n5 c5)).two (.bool (decide (z1 - zq * z2 < 0))) (.slice A8 n8 c8)
     refine bodyPost_ret (v := .tuple #[.agg #[.bool (decide (zq < 0)), .slice A5 n5 c5], .agg #[.bool (decide (z1 - zq * z2 < 0)), .slice A8 n8 c8], .int .i64 0]) (by simp [results, Tryz.results98, go_sem, hR'.cell 0, hR'.cell 1, hS'.cell 0, hS'.cell 1]) rfl ?_
     have hkE := (((hkk.set (p := ⟨w.heap.size + 1 + 1, 0, none⟩) (by simp only; omega) (.bool (decide (zq < 0)))).set (p := ⟨w.heap.size + 1 + 1, 1, none⟩) (by simp only; omega) (.slice A5 n5 c5)).set (p := ⟨w.heap.size + 1 + 1 + 1, 0, none⟩) (by simp only; omega) (.bool (decide (z1 - zq * z2 < 0)))).set (p := ⟨w.heap.size + 1 + 1 + 1, 1, none⟩) (by simp only; omega) (.slice A8 n8 c8)
     have hds := HDS.out
     rw [HZ1.out, HZ2.out, show divQ z1 z2 = zq from (if_neg HB0.out).trans hds, show divR z1 z2 = z1 - zq * z2 from (if_neg HB0.out).trans (by rw [← rest_of, hds]), show divC z2 = 0 from if_neg HB0.out]
     refine ⟨_, _, rfl, ?_, ?_, hkE⟩
     ·exact ((hqr.below hW7).two (x' := .bool (decide (zq < 0))) (y' := .slice A5 n5 c5) hR rfl rfl rfl).two (hS.far2 (by omega)) rfl rfl rfl
     ·exact (hr8.two (x' := .bool (decide (zq < 0))) (y' := .slice A5 n5 c5) hR rfl rfl rfl).two (hS.far2 (by omega)) rfl rfl rfl
    ·have hrz : z1.natAbs % z2.natAbs ≠ 0 := fun h => by have := dig_length_zero.2 h; have := hE4.out; omega
     have HRZ := Lib.hid hrz
     clear hrz
     have t0 := hQ6.c0
     have t1 := hQ6.c1
     go_upto_region 7 with fail
     clear hW hBe
     go_cut [] (fun wx => RdCut w wx 29 B d1 d2 A1 A2 m1 c1 m2 c2 z1 z2 (zq - 1))
     case first =>
      go_region_with (first
       | (go_at_call 110; refine (rof_any 1 _ (by omega) (by omega)).mono ?_; rintro e w7 ⟨V7, rfl, hr7, hk7⟩; obtain ⟨A7, n7, c7, rfl, -⟩ := hr7.open_; have hQ7 := hQ6.drew.below hk7; have t0 := hQ7.c0; have t1 := hQ7.c1; have hK7 := Keeps.trans' (w1 := W.drew) (Below.drew bl) hk7)
       | (go_at_call 107; refine (rsub_z (hqr.below hK7) hr7 (by omega) (Nat.le_trans (dig_length_le (n := (1 : Int).natAbs) (k := 1) (by decide)) (by omega))).mono ?_; rintro e w8 ⟨V8, rfl, hr8, hk8⟩; have hQ8 := hQ7.below hk8; have hK8 := hK7.trans' hk8; obtain ⟨A8, n8, c8, rfl, -⟩ := hr8.open_; have f0 := hQ8.frozen 0; have f1 := hQ8.frozen 1; have g0 := hQ8.c0; have g1 := hQ8.c1))
      all_goals (go_wp2_with fail; go_meet; exact RdCut.of (hA6.below hK8) (hB6.below hK8) (hR6.below hK8) (hS6.below hK8) hQ8 (by omega) (hxr.below hK8) (hyr.below hK8) hr8 (hkk6.trans' hK8))
     case rest =>
      have hq1 := dec_len zq
      obtain ⟨zn, hzn⟩ : ∃ z, zq - 1 = z := ⟨_, rfl⟩
      have HDS : Hid (z1.fdiv z2 = zn) := Lib.hid (by rw [HDS0.out, if_pos ⟨HRZ.out, HDD.out⟩, ← hzn, ← HZQ.out]; exact sgn_dec _ _ _ HDD.out)
      rw [hzn] at hcut hq1
      clear hzn hA6 hB6 hR6 hS6 hQ6 hqr hxr hyr hkk6 p0 q0 t0 t1 HZQ HDS0 hq hr hE4
      obtain ⟨A5, n5, c5, hA6, hB6, hR6, hS6, hQ6, hxr, hyr, hqr, hkk6⟩ := hcut
      have hqz' : (dig zn.natAbs).length ≤ 400002 := by omega
      clear hqz hq1
      have hqz := hqz'
      clear hqz'
      have p0 := hA6.c0
      have q0 := hB6.c0
      obtain ⟨zq, rfl⟩ : ∃ z, z = zn := ⟨_, rfl⟩
      obtain ⟨W, rfl⟩ : ∃ W : World, W = wc := ⟨_, rfl⟩
      have p1 := hA6.c1
      have q1 := hB6.c1
      have t0 := hQ6.c0
      have t1 := hQ6.c1
      have hpl : (dig (zq * z2).natAbs).length ≤ 1000000 := by rw [Int.natAbs_mul]; have := dig_length_mul zq.natAbs z2.natAbs; omega
      go_upto_region 8 with fail
      replace hA := hA6.drew
      replace hB := hB6.drew
      replace hR := hR6.drew
      replace hS := hS6.drew
      replace hQ := hQ6.drew
      replace hkk : Keeps w W.drew := Below.drew hkk6
      have hM := Lib.hid (fun W' (hk : Keeps W W') => rmul_z (hqr.below hk) (hyr.below hk) (by omega) (by omega))
      clear p0 p1 q0 q1 t0 t1
      go_region_held3 (fun w' => w'.cell? ⟨w.heap.size, 0, none⟩ = some (.bool d1) ∧ w'.cell? ⟨w.heap.size, 1, none⟩ = some (.slice A1 m1 c1) ∧ w'.cell? ⟨w.heap.size + 1, 0, none⟩ = some (.bool d2) ∧ w'.cell? ⟨w.heap.size + 1, 1, none⟩ = some (.slice A2 m2 c2) ∧ w'.cell? ⟨B, 0, none⟩ = some (.bool (decide (zq < 0))) ∧ w'.cell? ⟨B, 1, none⟩ = some (.slice A5 n5 c5))
       (first | (with_reducible exact ⟨hA.c0, hA.c1, hB.c0, hB.c1, hQ.c0, hQ.c1⟩) | (with_reducible exact ⟨(hA.far2 (R := w.heap.size + 1 + 1) (by omega)).c0, (hA.far2 (R := w.heap.size + 1 + 1) (by omega)).c1, (hB.far2 (R := w.heap.size + 1 + 1) (by omega)).c0, (hB.far2 (R := w.heap.size + 1 + 1) (by omega)).c1, (hQ.far2 (R := w.heap.size + 1 + 1) (by omega)).c0, (hQ.far2 (R := w.heap.size + 1 + 1) (by omega)).c1⟩) | (with_reducible exact ⟨((hA.far2 (R := w.heap.size + 1 + 1) (by omega)).far2 (R := w.heap.size + 1 + 1 + 1) (by omega)).c0, ((hA.far2 (R := w.heap.size + 1 + 1) (by omega)).far2 (R := w.heap.size + 1 + 1 + 1) (by omega)).c1, ((hB.far2 (R := w.heap.size + 1 + 1) (by omega)).far2 (R := w.heap.size + 1 + 1 + 1) (by omega)).c0, ((hB.far2 (R := w.heap.size + 1 + 1) (by omega)).far2 (R := w.heap.size + 1 + 1 + 1) (by omega)).c1, ((hQ.far2 (R := w.heap.size + 1 + 1) (by omega)).far2 (R := w.heap.size + 1 + 1 + 1) (by omega)).c0, ((hQ.far2 (R := w.heap.size + 1 + 1) (by omega)).far2 (R := w.heap.size + 1 + 1 + 1) (by omega)).c1⟩))
       (first
        | (go_at_call 54; refine (hM.out _ (Below.drew bl)).mono ?_; rintro e w6 ⟨V6, rfl, hr7, hk⟩; have hW6 : Keeps W w6 := Keeps.trans' (w1 := W.drew) (Below.drew bl) hk; replace hA := hA.below hk; replace hB := hB.below hk; replace hR := hR.below hk; replace hS := hS.below hk; replace hQ := hQ.below hk; replace hkk := hkk.trans' hk; obtain ⟨A7, n7, c7, rfl, -⟩ := hr7.open_)
        | (go_at_call 107; refine (rsub_z (hxr.below hW6) hr7 (by omega) hpl).mono ?_; rintro e w7 ⟨V7, rfl, hr8, hk⟩; have hW7 := hW6.trans' hk; replace hA := hA.below hk; replace hB := hB.below hk; replace hR := hR.below hk; replace hS := hS.below hk; replace hQ := hQ.below hk; replace hkk := hkk.trans' hk; obtain ⟨A8, n8, c8, rfl, -⟩ := hr8.open_; have q0 := hR.c0; have q1 := hR.c1; have q2 := hR.frozen 0; have q3 := hR.frozen 1; have r0 := hS.c0; have r1 := hS.c1; have r2 := hS.frozen 0; have r3 := hS.frozen 1))
      go_wp2
      have hR' := (hR.two (.bool (decide (zq < 0))) (.slice A5 n5 c5)).far2 (show w.heap.size + 1 + 1 ≠ w.heap.size + 1 + 1 + 1 by omega) (x := .bool (decide (z1 - zq * z2 < 0))) (y := .slice A8 n8 c8)
      have hS' := (hS.far2 (show w.heap.size + 1 + 1 + 1 ≠ w.heap.size + 1 + 1 by omega) (x := .bool (decide (zq < 0))) (y := .slice A5 n5 c5)).two (.bool (decide (z1 - zq * z2 < 0))) (.slice A8 n8 c8)
      refine bodyPost_ret (v := .tuple #[.agg #[.bool (decide (zq < 0)), .slice A5 n5 c5], .agg #[.bool (decide (z1 - zq * z2 < 0)), .slice A8 n8 c8], .int .i64 0]) (by simp [results, Tryz.results98, go_sem, hR'.cell 0, hR'.cell 1, hS'.cell 0, hS'.cell 1]) rfl ?_
      have hkE := (((hkk.set (p := ⟨w.heap.size + 1 + 1, 0, none⟩) (by simp only; omega) (.bool (decide (zq < 0)))).set (p := ⟨w.heap.size + 1 + 1, 1, none⟩) (by simp only; omega) (.slice A5 n5 c5)).set (p := ⟨w.heap.size + 1 + 1 + 1, 0, none⟩) (by simp only; omega) (.bool (decide (z1 - zq * z2 < 0)))).set (p := ⟨w.heap.size + 1 + 1 + 1, 1, none⟩) (by simp only; omega) (.slice A8 n8 c8)
      have hds := HDS.out
      rw [HZ1.out, HZ2.out, show divQ z1 z2 = zq from (if_neg HB0.out).trans hds, show divR z1 z2 = z1 - zq * z2 from (if_neg HB0.out).trans (by rw [← rest_of, hds]), show divC z2 = 0 from if_neg HB0.out]
      refine ⟨_, _, rfl, ?_, ?_, hkE⟩
      ·exact ((hqr.below hW7).two (x' := .bool (decide (zq < 0))) (y' := .slice A5 n5 c5) hR rfl rfl rfl).two (hS.far2 (by omega)) rfl rfl rfl
      ·exact (hr8.two (x' := .bool (decide (zq < 0))) (y' := .slice A5 n5 c5) hR rfl rfl rfl).two (hS.far2 (by omega)) rfl rfl rfl
end Go.Proofs.YtgcigdahjabimaaGreatDoor
