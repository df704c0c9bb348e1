/- The walk of the reference's Mul. -/
import Derived.Test.YtgcigdahjabimaaGreatDoorPr7
namespace Go.Proofs.YtgcigdahjabimaaGreatDoor
open Go.RowKit Go.Shelf

set_option maxRecDepth 100000 in
set_option maxHeartbeats 1000000 in
theorem rmul_any (n1 n2 : Bool) (xs ys : List Nat) (V1 V2 : Value) (w : World) (h1 : IntArg w V1 n1 xs) (h2 : IntArg w V2 n2 ys) (hm1 : xs.length ≤ 1000000) (hm2 : ys.length ≤ 1000000) :
 Calls Tryz.prog 54 #[V1, V2] w fun e w' => ∃ V, e = .returned V ∧ IntRep w' V (cnt n1 xs * cnt n2 ys) ∧ Keeps w w' := by
 obtain ⟨v1, rfl, hv1⟩ := h1
 obtain ⟨v2, rfl, hv2⟩ := h2
 have hml1 := mag_length n1 xs
 have hml2 := mag_length n2 ys
 have hkk := keep3 w (.cells #[.bool n1, v1] 29) (.cells #[.bool n2, v2] 29) (.cells #[.bool false, .slice none 0 0] 29)
 have hG1 := Lib.hid (fun W (hW : IntArg W (.agg #[.bool n1, v1]) n1 xs) => rvalue_any n1 xs (.agg #[.bool n1, v1]) W hW hm1)
 have hG2 := Lib.hid (fun W (hW : IntArg W (.agg #[.bool n2, v2]) n2 ys) => rvalue_any n2 ys (.agg #[.bool n2, v2]) W hW hm2)
 have hR := own3 w (.cells #[.bool n1, v1] 29) (.cells #[.bool n2, v2] 29) 29 [.bool false, .slice none 0 0]
 have hB := (own2 w (.cells #[.bool n1, v1] 29) 29 [.bool n2, v2]).alloc (.cells #[.bool false, .slice none 0 0] 29)
 have hA := ((Own.new w 29 [.bool n1, v1]).alloc (.cells #[.bool n2, v2] 29)).alloc (.cells #[.bool false, .slice none 0 0] 29)
 go_enter Tryz.func54, Tryz.ntmps54
 go_upto_region 1 with fail
 have g1 := hv1.below hkk
 have g2 := hv2.below hkk
 generalize ((w.alloc (.cells #[.bool n1, v1] 29)).alloc (.cells #[.bool n2, v2] 29)).alloc (.cells #[.bool false, .slice none 0 0] 29) = W at *
 have a0 := hA.c0
 have a1 := hA.c1
 have b0 := hB.c0
 have b1 := hB.c1
 go_cut [] (fun wx => TwoRes w wx 29 (cnt n1 xs) (cnt n2 ys))
 case first =>
  go_region_with (first
   | (go_at_call_of 99 (Value.agg #[Value.bool n1, v1]); refine (hG1.out W.drew ⟨v1, rfl, g1⟩).mono ?_; rintro e w1 ⟨U1, rfl, hr1, hk1⟩; obtain ⟨A1, m1, c1, rfl, hu1⟩ := hr1.open_; have hA1 := hA.drew.below hk1; have hB1 := hB.drew.below hk1; have a10 := hA1.c0; have a11 := hA1.c1; have b10 := hB1.c0; have b11 := hB1.c1)
   | (go_at_call_of 99 (Value.agg #[Value.bool n2, v2]); refine (hG2.out w1 ⟨v2, rfl, U32.below (w := W.drew) g2 hk1⟩).mono ?_; rintro e w2 ⟨U2, rfl, hr2, hk2⟩; obtain ⟨A2, m2, c2, rfl, hu2⟩ := hr2.open_; have hA2 := hA1.below hk2; have hB2 := hB1.below hk2; have hR2 := (hR.drew.below hk1).below hk2; have hk3 := (Keeps.trans' (Below.drew hkk) hk1).trans' hk2; have a20 := hA2.c0; have a21 := hA2.c1; have b20 := hB2.c0; have b21 := hB2.c1; have af0 := hA2.frozen 0; have af1 := hA2.frozen 1; have bf0 := hB2.frozen 0; have bf1 := hB2.frozen 1))
  all_goals (go_wp2_with fail; go_meet; exact TwoRes.of hA2 hB2 hR2 (hu1.below hk2) hu2 hk3 rfl hv1.noU rfl hv2.noU)
 case rest =>
  clear hG1 hG2 a0 a1 b0 b1 hA hB hR hkk
  obtain ⟨A1, m1, c1, A2, m2, c2, hA, hB, hR, hu1, hu2, hk⟩ := hcut
  have hl1 : (dig (cnt n1 xs).natAbs).length ≤ 1000000 := by rw [cnt_abs]; omega
  have hl2 : (dig (cnt n2 ys).natAbs).length ≤ 1000000 := by rw [cnt_abs]; omega
  obtain ⟨z1, hz1⟩ : ∃ z, cnt n1 xs = z := ⟨_, rfl⟩
  obtain ⟨z2, hz2⟩ : ∃ z, cnt n2 ys = z := ⟨_, rfl⟩
  rw [hz1] at hA hu1 hl1
  rw [hz2] at hB hu2 hl2
  have HZ1 := Lib.hid hz1
  have HZ2 := Lib.hid hz2
  clear hz1 hz2
  have hs1 := sgn_of_rep z1
  have hs2 := sgn_of_rep z2
  generalize decide (z1 < 0) = b1 at *
  generalize decide (z2 < 0) = b2 at *
  obtain ⟨A1', m1', c1', e', e1, -, -, -, r1⟩ := hu1.open_
  cases e'
  obtain ⟨A2', m2', c2', e', e2, -, -, -, r2⟩ := hu2.open_
  cases e'
  have ha := AllB.dig z1.natAbs
  have hb := AllB.dig z2.natAbs
  have hv1' := val_dig z1.natAbs
  have hv2' := val_dig z2.natAbs
  generalize dig z1.natAbs = us at *
  generalize dig z2.natAbs = vs at *
  have hn1 : m1 ≤ 1000000 := by omega
  have hn2 : m2 ≤ 1000000 := by omega
  have HS1 := Lib.hid hs1
  have HS2 := Lib.hid hs2
  have HV1 := Lib.hid hv1'
  have HV2 := Lib.hid hv2'
  have HE1 := Lib.hid e1
  have HE2 := Lib.hid e2
  obtain ⟨N, hN⟩ : ∃ N, N = m1 + m2 := ⟨_, rfl⟩
  have hN1 : N ≤ 4000000 := by omega
  have hmk := make_u32 ((m1 : Int) + m2) N (by omega) hN1
  have HN := Lib.hid hN
  clear hs1 hs2 hml1 hml2 g1 g2 hv1 hv2 hm1 hm2 hv1' hv2' hl1 hl2 hu1 hu2 e1 e2 hN
  have p0 := hA.c0
  have p1 := hA.c1
  have q0 := hB.c0
  have q1 := hB.c1
  go_wp2
  have hown := Own.new wc 109 (u32s (List.replicate N 0))
  have hkc : Keeps wc (wc.alloc (.cells (u32s (List.replicate N 0)).toArray 109)) := box2 _ _
  clear hmk
  go_loopw [6] (fun i wr => ∃ (k : Nat) (out : List Nat), k ≤ m1 ∧ i = .int .i64 (k : Nat) ∧ out.length = N ∧ AllB out ∧
   val out = val (us.take k) * val vs ∧ (∀ j, k + m2 ≤ j → ix out j = 0) ∧ Own wr wc.heap.size 109 (u32s out) ∧ Keeps wc wr)
   (fun i _ => m1 - (intOf i).toNat)
  case atStart => exact ⟨0, List.replicate N 0, by omega, rfl, by simp, AllB.replicate N, by simp [val, val_replicate], fun j _ => by simp [ix, List.getElem?_replicate]; split <;> rfl, hown, hkc⟩
  case round =>
   obtain ⟨k, out, hkN, rfl, hol, hob, hval, hz, hown1, hk1⟩ := hrel
   obtain ⟨wo, rfl⟩ : ∃ wo : World, wo = wr := ⟨_, rfl⟩
   have HV := Lib.hid hval
   have HL := Lib.hid hol
   have HZ := Lib.hid hz
   have hA1 := hA.below hk1
   have hB1 := hB.below hk1
   have s0 := hA1.c0
   have s1 := hA1.c1
   have t0 := hB1.c0
   have t1 := hB1.c1
   clear hval hol hz
   by_cases hlt : k < m1
   ·go_wp2
    go_loopw [7, 8] (fun c i wi => ∃ (j cc : Nat) (out' : List Nat), j ≤ m2 ∧ i = .int .i64 (j : Nat) ∧ c = .int .u64 (cc : Nat) ∧ cc < 1000000000 ∧ out'.length = N ∧ AllB out' ∧
     val out' + cc * 1000000000 ^ (k + j) = val (us.take k) * val vs + ix us k * val (vs.take j) * 1000000000 ^ k ∧ (∀ j, k + m2 ≤ j → ix out' j = 0) ∧ Own wi wc.heap.size 109 (u32s out') ∧ Keeps wc wi)
     (fun _ i _ => m2 - (intOf i).toNat)
    case atStart => exact ⟨0, 0, out, by omega, rfl, rfl, by omega, HL.out, hob, by rw [HV.out]; simp [val], HZ.out, hown1, hk1⟩
    case round =>
     obtain ⟨j, cc, out', hj, rfl, rfl, hcc, hol', hob', hval', hz', hown2, hk2⟩ := hrel
     have HV' := Lib.hid hval'
     have HL' := Lib.hid hol'
     have HZ' := Lib.hid hz'
     clear hval' hol' hz' s0 s1 t0 t1
     have hA2 := hA.below hk2
     have hB2 := hB.below hk2
     have s0 := hA2.c0
     have s1 := hA2.c1
     have t0 := hB2.c0
     have t1 := hB2.c1
     have hccI : (cc : Int) < 1000000000 := by omega
     have HC := Lib.hid hcc
     clear hcc
     have hkN : k + m2 < N := by have := HN.out; omega
     by_cases hltj : j < m2
     ·obtain ⟨bb1, o1, rfl, hbl1, hcell1⟩ := (r1.below hk2) (by omega)
      obtain ⟨bb2, o2, rfl, hbl2, hcell2⟩ := (r2.below hk2) (by omega)
      have hxc : wr.cell? ⟨bb1, o1 + k, none⟩ = some (.int .u32 (ix us k : Nat)) := hcell1 k hlt
      have hyc : wr.cell? ⟨bb2, o2 + j, none⟩ = some (.int .u32 (ix vs j : Nat)) := hcell2 j hltj
      clear hcell1 hcell2
      have hc0 := hown2.u32cell (i := k + j) (by rw [HL'.out]; omega)
      have hf0 := hown2.frozen (k + j)
      have hob1 : (ix out' (k + j) : Int) < 1000000000 := by have := hob'.ix (k + j); omega
      have hx1 : (ix us k : Int) < 1000000000 := by have := ha.ix k; omega
      have hy1 : (ix vs j : Int) < 1000000000 := by have := hb.ix j; omega
      have hpq : ((ix us k : Nat) : Int) * ((ix vs j : Nat) : Int) ≤ 999999998000000001 := by
       have := mul_lt_base _ _ (ha.ix k) (hb.ix j)
       rw [← Int.natCast_mul]; omega
      have hpq0 : (0 : Int) ≤ ((ix us k : Nat) : Int) * ((ix vs j : Nat) : Int) := by rw [← Int.natCast_mul]; omega
      have i1 : (k : Int) < m1 := by omega
      have i2 : (j : Int) < m2 := by omega
      have i3 : (k : Int) + j < N := by omega
      have i4 : (0 : Int) ≤ (k : Int) := by omega
      have i5 : (0 : Int) ≤ (j : Int) := by omega
      have i6 : (0 : Int) ≤ (k : Int) + j := by omega
      have wr1 : IntKind.i64.wrap ((k : Int) + j) = (k : Int) + j := IntWalk.i64_in _ (by omega)
      have tn1 : ((k : Int) + j).toNat = k + j := by omega
      go_wp2
      go_quiet (fail)
      go_wp2
      go_roundw
      case rel => exact ⟨j + 1, (ix out' (k + j) + ix us k * ix vs j + cc) / 1000000000, out'.set (k + j) ((ix out' (k + j) + ix us k * ix vs j + cc) % 1000000000), by omega, by go_num,
       by rw [cast_div], by have := mul_lt_base _ _ (ha.ix k) (hb.ix j); have := hob'.ix (k + j); omega, by rw [List.length_set]; exact HL'.out, hob'.set _ _ (by omega),
       times_in us vs out' k j cc _ _ (by rw [HL'.out]; omega) HV'.out (by omega), fun i hi => by rw [ix_set _ _ _ _ (by rw [HL'.out]; omega), if_neg (by omega)]; exact HZ'.out i hi,
       (hown2.drewN _).put _ _ (cast_mod _ _ _ _), (hk2.drewN _).set (Nat.le_refl _) _⟩
      case measure => simp [intOf]; omega
     ·obtain rfl : j = m2 := by omega
      have hc0 := hown2.u32cell (i := k + j) (by rw [HL'.out]; omega)
      have hf0 := hown2.frozen (k + j)
      go_wp2
      go_roundw
      case rel =>
       refine ⟨k + 1, out'.set (k + j) cc, by omega, by go_num, by rw [List.length_set]; exact HL'.out, hob'.set _ _ HC.out, ?_, fun i hi => ?_, hown2.put _ _ rfl, hk2.set (Nat.le_refl _) _⟩
       ·have he := HE2.out
        subst he
        exact times_out us vs out' k cc (by rw [HL'.out]; omega) (HZ'.out _ (Nat.le_refl _)) HV'.out
       ·rw [ix_set _ _ _ _ (by rw [HL'.out]; omega), if_neg (by omega)]
        exact HZ'.out i (by omega)
      case measure => simp [intOf]; omega
   ·obtain rfl : k = m1 := by omega
    have hv := HV.out
    rw [List.take_of_length_le (by rw [HE1.out]; exact Nat.le_refl _), HV1.out, HV2.out] at hv
    have HVV := Lib.hid hv
    clear hv
    have hun : U32 wo (.slice (some ⟨wc.heap.size, 0, none⟩) N N) out := by
     have := U32.mk hown1.row (Nat.le_refl _) (by simp only [maxLen]; rw [HL.out]; omega) (by intro h; cases h)
     rwa [HL.out] at this
    have hR1 := hR.below hk1
    have hkw := hk.trans' hk1
    go_wp2_with fail
    refine (rmade_u (b1 != b2) _ out _ hun hob (by rw [HL.out]; omega)).mono ?_
    rintro e w5 ⟨V5, rfl, hr5, hk5⟩
    obtain ⟨A5, n5, c5, rfl, hv5⟩ := hr5.open_
    have hR5 := hR1.below hk5
    have hk6 := hkw.trans' hk5
    have y0 := hR5.c0
    have y1 := hR5.c1
    have f0 := hR5.frozen 0
    have f1 := hR5.frozen 1
    obtain ⟨z, hz⟩ : ∃ z, sgn (b1 != b2) (val out) = z := ⟨_, rfl⟩
    rw [hz] at hr5 hv5
    simp only [hz]
    have HZZ := Lib.hid hz
    clear hz
    go_wp2
    have hR6 := hR5.two (.bool (decide (z < 0))) (.slice A5 n5 c5)
    refine bodyPost_ret (v := .agg #[.bool (decide (z < 0)), .slice A5 n5 c5]) (by simp [results, Tryz.results54, go_sem, hR6.c0, hR6.c1]) rfl ?_
    refine ⟨_, rfl, ?_, (hk6.set (by simp; omega) _).set (by simp; omega) _⟩
    rw [show cnt n1 xs * cnt n2 ys = z by
     rw [HZ1.out, HZ2.out, ← HZZ.out, HVV.out, ← HS1.out, ← HS2.out]
     cases b1 <;> cases b2 <;> simp [sgn, Int.neg_mul, Int.mul_neg]]
    exact hr5.two hR5 rfl rfl rfl
end Go.Proofs.YtgcigdahjabimaaGreatDoor
