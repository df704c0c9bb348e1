/- The walk of over: quotient and remainder of two magnitudes. The walk of Gcd. The walk of the reference's scaled: a magnitude times a number below the base. The walk of the reference's shifted: a magnitude times the base, plus a group. Arithmetic of the reference's parts. No program in sight. -/
import Derived.Test.YtgcigdahjabimaaGreatDoorPr12
import Derived.Test.YtgcigdahjabimaaGreatDoorPr9
import Derived.Deep.LoopGhost
import Derived.Test.YtgcigdahjabimaaGreatDoorPr11
namespace Go.Proofs.YtgcigdahjabimaaGreatDoor
open Go.RowKit Go.Shelf

theorem mcmp_s {w : World} {v1 v2 : Value} {a b : Nat} {s : Int} (h1 : U32 w v1 (dig a)) (h2 : U32 w v2 (dig b)) (hm1 : (dig a).length ≤ 1000000000) (hm2 : (dig b).length ≤ 1000000000) (e : ((a : Int) - b).sign = s) :
 Calls Tryz.prog 129 #[v1, v2] w fun e w' => e = .returned (.int .i64 s) ∧ Keeps w w' := by subst e; exact compare_any v1 v2 a b w h1 h2 hm1 hm2
theorem lt_sign (a b : Nat) : (a < b ∧ ((a : Int) - b).sign < 0) ∨ (b ≤ a ∧ 0 ≤ ((a : Int) - b).sign) := by
 rcases Nat.lt_or_ge a b with h | h
 ·exact .inl ⟨h, by rw [Int.sign_eq_neg_one_of_neg (by omega)]; omega⟩
 ·refine .inr ⟨h, ?_⟩
  rcases Nat.lt_or_eq_of_le h with h | h
  ·rw [Int.sign_eq_one_of_pos (by omega)]; omega
  ·subst h; simp
def DivRes (a b : Nat) (w : World) (e : Ending) (w' : World) : Prop := ∃ q r, e = .returned (.tuple #[q, r]) ∧ U32 w' q (dig (a / b)) ∧ U32 w' r (dig (a % b)) ∧ Keeps w w'
theorem dig_one {b : Nat} (h : (dig b).length = 1) : 0 < b ∧ b < 1000000000 ∧ dig b = [b] := by
 have h0 : b ≠ 0 := by intro e; rw [e, dig_zero] at h; simp at h
 have h1 := dig_lt b
 rw [h] at h1
 exact ⟨by omega, by omega, dig_small h0 (by omega)⟩
theorem big_len {a : Nat} (h : ¬ a < 1000000000000000000) : 2 < (dig a).length := by
 rcases Nat.lt_or_ge 2 (dig a).length with h1 | h1
 ·exact h1
 ·have := dig_lt a
  have h3 : 1000000000 ^ (dig a).length ≤ 1000000000 ^ 2 := Nat.pow_le_pow_right (by omega) h1
  omega

set_option maxRecDepth 100000 in
set_option maxHeartbeats 1000000 in
theorem over_any (v1 v2 : Value) (a b : Nat) (w : World) (h1 : U32 w v1 (dig a)) (h2 : U32 w v2 (dig b)) (hl1 : (dig a).length ≤ 900000) (hl2 : (dig b).length ≤ 900000) (hb : b ≠ 0) :
 Calls Tryz.prog 131 #[v1, v2] w (DivRes a b w) := by
 obtain ⟨A1, m1, c1, rfl, e1, -, -, -, r1⟩ := h1.open_
 obtain ⟨A2, m2, c2, rfl, e2, -, -, -, r2⟩ := h2.open_
 have hb1 := dig_length_pos.2 hb
 obtain ⟨s, hs⟩ : ∃ s, ((a : Int) - b).sign = s := ⟨_, rfl⟩
 have hL := lt_sign a b
 rw [hs] at hL
 have hc := Lib.hid (mcmp_s h1 h2 (by omega) (by omega) hs)
 clear hs
 rcases hL with ⟨hL, hs⟩ | ⟨hL, hs⟩
 ·have hd : decide (s < 0) = true := decide_eq_true hs
  have HL := Lib.hid hL
  clear hL e1 e2
  go_enter Tryz.func131, Tryz.ntmps131
  go_wp2_with fail
  refine hc.out.mono ?_
  rintro e w1 ⟨rfl, hk1⟩
  go_wp2
  go_ret2
  exact ⟨_, _, rfl, by rw [Nat.div_eq_of_lt HL.out, dig_zero]; exact U32.nil, by rw [Nat.mod_eq_of_lt HL.out]; exact h1.below hk1, hk1⟩
 ·have hd : decide (s < 0) = false := decide_eq_false (by omega)
  have HL := Lib.hid hL
  have HE1 := Lib.hid e1
  have HE2 := Lib.hid e2
  have hm2 : 0 < m2 := by omega
  have hm2b : m2 ≤ 900000 := by omega
  have hw1 := Lib.hid (fun W (k : Keeps w W) => word_any _ a W (h1.below k) (by omega))
  have hw2 := Lib.hid (fun W (k : Keeps w W) => word_any _ b W (h2.below k) (by omega))
  by_cases ha : a < 1000000000000000000
  ·have hbb : b < 1000000000000000000 := by omega
   have ew1 : wordV a = .tuple #[.int .u64 (a : Nat), .bool true] := if_pos ha
   have ew2 : wordV b = .tuple #[.int .u64 (b : Nat), .bool true] := if_pos hbb
   rw [ew1] at hw1
   rw [ew2] at hw2
   have aI : (a : Int) < 1000000000000000000 := by omega
   have bI : (b : Int) < 1000000000000000000 := by omega
   have b0 : ¬ b = 0 := hb
   have hqb := Nat.div_le_self a b
   have hrb := Nat.mod_lt a (show 0 < b by omega)
   have t1 : ((a : Int).tdiv (b : Int)) = ((a / b : Nat) : Int) := by rw [Int.natCast_ediv]; exact Int.tdiv_eq_ediv_of_nonneg (by omega)
   have t2 : ((a : Int).tmod (b : Int)) = ((a % b : Nat) : Int) := by rw [Int.natCast_emod]; exact IntWalk.rem_in _ _ (by omega)
   obtain ⟨G, hG⟩ : ∃ G, a / b = G := ⟨_, rfl⟩
   obtain ⟨R, hR⟩ : ∃ R, a % b = R := ⟨_, rfl⟩
   rw [hG] at t1 hqb
   rw [hR] at t2 hrb
   have g4 : IntKind.u64.wrap (G : Int) = (G : Int) := IntWalk.u64_in _ (by omega)
   have g5 : IntKind.u64.wrap (R : Int) = (R : Int) := IntWalk.u64_in _ (by omega)
   have HG := Lib.hid hG
   have HR := Lib.hid hR
   clear hG hR hL e1 e2 ew1 ew2 ha hbb
   go_enter Tryz.func131, Tryz.ntmps131
   go_wp2_with fail
   refine hc.out.mono ?_
   rintro e w1 ⟨rfl, hk1⟩
   go_wp2_with fail
   refine (hw1.out _ hk1).mono ?_
   rintro e w2 ⟨rfl, hk2⟩
   have k2 := hk1.trans' hk2
   go_wp2_with fail
   refine (hw2.out _ k2).mono ?_
   rintro e w3 ⟨rfl, hk3⟩
   have k3 := k2.trans' hk3
   go_wp2_with fail
   go_region_held3 (fun _ => True) (trivial)
    (first
     | (go_at_call_of 91 (Value.int IntKind.u64 (G : Int)); refine (split_any G _ (by omega)).mono ?_; rintro e w4 ⟨v4, rfl, hu4, hk4⟩)
     | (go_at_call 91; refine (split_any R _ (by omega)).mono ?_; rintro e w5 ⟨v5, rfl, hu5, hk5⟩))
   have kd : Keeps w w3.drew := Below.drew k3
   go_wp2
   go_ret2
   exact ⟨_, _, rfl, by rw [HG.out]; exact hu4.below hk5, by rw [HR.out]; exact hu5, (kd.trans' hk4).trans' hk5⟩
  ·have ew1 : wordV a = .tuple #[.int .u64 0, .bool false] := if_neg ha
   have hbig := big_len ha
   rw [ew1] at hw1
   obtain ⟨x2, y2, ew2⟩ : ∃ x y, wordV b = .tuple #[x, .bool y] := by unfold wordV; split <;> exact ⟨_, _, rfl⟩
   rw [ew2] at hw2
   have HA := Lib.hid hbig
   clear ha hbig ew1 ew2
   by_cases hone : m2 = 1
   ·subst hone
    obtain ⟨p1, p2, p3⟩ := dig_one e2
    have hrow := Lib.hid (fun W (k : Keeps w W) => r2.below k)
    have hsh := Lib.hid (fun W (k : Keeps w W) => mshort_any _ a b W (h1.below k) (by omega) p1 p2)
    have P3 := Lib.hid p3
    have hrb := Nat.mod_lt a p1
    clear hL e1 e2 p3
    go_enter Tryz.func131, Tryz.ntmps131
    go_wp2_with fail
    refine hc.out.mono ?_
    rintro e w1 ⟨rfl, hk1⟩
    go_wp2_with fail
    refine (hw1.out _ hk1).mono ?_
    rintro e w2 ⟨rfl, hk2⟩
    have k2 := hk1.trans' hk2
    go_wp2_with fail
    refine (hw2.out _ k2).mono ?_
    rintro e w3 ⟨rfl, hk3⟩
    have k3 := k2.trans' hk3
    obtain ⟨bx, ox, rfl, hbl, hcell⟩ := (hrow.out _ k3) (by omega)
    have hx := hcell 0 (by omega)
    unfold u32 at hx
    rw [P3.out, ix_zero, Nat.add_zero] at hx
    clear hcell
    go_wp2_with fail
    refine (hsh.out _ k3).mono ?_
    rintro e w4 ⟨v4, rfl, hu4, hk4⟩
    obtain ⟨R, hR⟩ : ∃ R, a % b = R := ⟨_, rfl⟩
    rw [hR] at hrb
    rw [hR]
    have HR := Lib.hid hR
    have rI : (R : Int) < 1000000000 := by omega
    clear hR
    go_wp2_with fail
    refine (split_any R _ (by omega)).mono ?_
    rintro e w5 ⟨v5, rfl, hu5, hk5⟩
    go_wp2
    go_ret2
    exact ⟨_, _, rfl, hu4.below hk5, by rw [HR.out]; exact hu5, (k3.trans' hk4).trans' hk5⟩
   ·have hne : ((m2 : Int) == 1) = false := by rw [beq_eq_false_iff_ne]; omega
    have hlo := Lib.hid (fun W (k : Keeps w W) => long_any _ _ a b W (h1.below k) (h2.below k) hl1 (by omega) hL)
    clear hL e1 e2 hone
    go_enter Tryz.func131, Tryz.ntmps131
    go_wp2_with fail
    refine hc.out.mono ?_
    rintro e w1 ⟨rfl, hk1⟩
    go_wp2_with fail
    refine (hw1.out _ hk1).mono ?_
    rintro e w2 ⟨rfl, hk2⟩
    have k2 := hk1.trans' hk2
    go_wp2_with fail
    refine (hw2.out _ k2).mono ?_
    rintro e w3 ⟨rfl, hk3⟩
    have k3 := k2.trans' hk3
    go_wp2_with fail
    refine (hlo.out _ k3).mono ?_
    rintro e w4 ⟨q4, r4, rfl, hu4, hu5, hk4⟩
    go_wp2
    go_ret2
    exact ⟨_, _, rfl, hu4, hu5, k3.trans' hk4⟩
theorem gcd_step (A B : Nat) : Nat.gcd B (A % B) = Nat.gcd A B := by rw [Nat.gcd_comm A B, Nat.gcd_rec B A, Nat.gcd_comm]

set_option maxRecDepth 100000 in
set_option maxHeartbeats 1000000 in
theorem gcd_any (n1 n2 : Bool) (xs ys : List Nat) (V1 V2 : Value) (w : World) (h1 : IntArg w V1 n1 xs) (h2 : IntArg w V2 n2 ys) (hm1 : xs.length ≤ 900000) (hm2 : ys.length ≤ 900000) :
 Calls Tryz.prog 88 #[V1, V2] w fun e w' => ∃ V, e = .returned V ∧ IntRep w' V ((Nat.gcd (mag n1 xs) (mag n2 ys) : Nat) : Int) ∧ Keeps w w' := by
 obtain ⟨v1, rfl, hv1⟩ := h1
 obtain ⟨v2, rfl, hv2⟩ := h2
 have hml1 := mag_length n1 xs
 have hml2 := mag_length n2 ys
 have hkk := keep3 w (.cells #[.bool n1, v1] 29) (.cells #[.bool n2, v2] 29) (.cells #[.bool false, .slice none 0 0] 29)
 have hG1 := Lib.hid (fun W (hW : IntArg W (.agg #[.bool n1, v1]) n1 xs) => groups_any n1 xs (.agg #[.bool n1, v1]) W hW (by omega))
 have hG2 := Lib.hid (fun W (hW : IntArg W (.agg #[.bool n2, v2]) n2 ys) => groups_any n2 ys (.agg #[.bool n2, v2]) W hW (by omega))
 have hR := own3 w (.cells #[.bool n1, v1] 29) (.cells #[.bool n2, v2] 29) 29 [.bool false, .slice none 0 0]
 have hB := (own2 w (.cells #[.bool n1, v1] 29) 29 [.bool n2, v2]).alloc (.cells #[.bool false, .slice none 0 0] 29)
 have hA := ((Own.new w 29 [.bool n1, v1]).alloc (.cells #[.bool n2, v2] 29)).alloc (.cells #[.bool false, .slice none 0 0] 29)
 generalize mag n1 xs = a at *
 generalize mag n2 ys = b at *
 obtain ⟨g, hg⟩ : ∃ g, Nat.gcd a b = g := ⟨_, rfl⟩
 rw [hg]
 have HG := Lib.hid hg
 clear hg
 go_enter Tryz.func88, Tryz.ntmps88
 go_wp2_with fail
 have g1 := hv1.below hkk
 have g2 := hv2.below hkk
 generalize ((w.alloc (.cells #[.bool n1, v1] 29)).alloc (.cells #[.bool n2, v2] 29)).alloc (.cells #[.bool false, .slice none 0 0] 29) = W at *
 replace hA := hA.drew
 replace hB := hB.drew
 replace hR := hR.drew
 replace g1 := g1.drew
 replace g2 := g2.drew
 replace hkk : Keeps w W.drew := Below.drew hkk
 go_region_held3 (fun w' => w'.cell? ⟨w.heap.size, 0, none⟩ = some (.bool n1) ∧ w'.cell? ⟨w.heap.size, 1, none⟩ = some v1 ∧ w'.cell? ⟨w.heap.size + 1, 0, none⟩ = some (.bool n2) ∧ w'.cell? ⟨w.heap.size + 1, 1, none⟩ = some v2)
  (exact ⟨hA.c0, hA.c1, hB.c0, hB.c1⟩)
  (first
   | (go_at_call_of 127 (Value.agg #[Value.bool n1, v1]); refine (hG1.out _ ⟨v1, rfl, g1⟩).mono ?_; rintro e w1 ⟨u1, rfl, hu1, hk⟩; replace hA := hA.below hk; replace hB := hB.below hk; replace hR := hR.below hk; replace g2 := g2.below hk; replace hkk := hkk.trans' hk)
   | (go_at_call 127; refine (hG2.out _ ⟨v2, rfl, g2⟩).mono ?_; rintro e w2 ⟨u2, rfl, hu2, hk⟩; replace hA := hA.below hk; replace hB := hB.below hk; replace hR := hR.below hk; replace hu1 := hu1.below hk; replace hkk := hkk.trans' hk))
 clear g1 g2 hG1 hG2 hA hB hk hv1 hv2
 go_wp2_with fail
 go_loopg [5, 6] b (fun k u v wr => ∃ A B : Nat, B = k ∧ Nat.gcd A B = g ∧ (dig A).length ≤ 900000 ∧ (dig B).length ≤ 900000 ∧ U32 wr u (dig A) ∧ U32 wr v (dig B) ∧ Own wr (w.heap.size + 1 + 1) 29 [.bool false, .slice none 0 0] ∧ Keeps w wr)
 case atStart => exact ⟨a, b, rfl, HG.out, by omega, by omega, hu1, hu2, hR, hkk⟩
 case round =>
  clear hu1 hu2 hR hkk
  obtain ⟨A, B, rfl, hg, hlA, hlB, hu1, hu2, hR1, hk1⟩ := hrel
  obtain ⟨A1, m1, c1, rfl, e1, -, -, -, -⟩ := hu1.open_
  obtain ⟨A2, m2, c2, rfl, e2, -, -, -, -⟩ := hu2.open_
  have HG2 := Lib.hid hg
  clear hg
  by_cases hB : B = 0
  ·subst hB
   obtain rfl : m2 = 0 := by rw [dig_zero] at e2; simpa using e2.symm
   have hag : A = g := by have := HG2.out; rwa [Nat.gcd_zero_right] at this
   subst hag
   clear e1 e2
   go_wp2_with fail
   refine (clone_u _ (dig A) _ hu1 (by omega)).mono ?_
   rintro e w4 ⟨d, rfl, hd, hk4⟩
   go_wp2_with fail
   refine (made_d false d A _ hd).mono ?_
   rintro e w5 ⟨V9, rfl, hr9, hk5⟩
   have hR9 := (hR1.below hk4).below hk5
   have hk9 := (hk1.trans' hk4).trans' hk5
   obtain ⟨g, rfl⟩ : ∃ g, g = A := ⟨_, rfl⟩
   obtain ⟨A9, n9, c9, rfl, -⟩ := hr9.open_
   rw [show sgn false g = (g : Int) from rfl] at hr9
   have hd9 : decide (sgn false g < 0) = false := decide_eq_false (by simp [sgn])
   rw [hd9]
   clear hd9
   have r0 := hR9.c0
   have r1 := hR9.c1
   have f0 := hR9.frozen 0
   have f1 := hR9.frozen 1
   have hdg : decide ((g : Int) < 0) = false := decide_eq_false (by omega)
   rw [hdg] at hr9
   clear hdg
   go_wp2
   have hR4 := hR9.two (.bool false) (.slice A9 n9 c9)
   refine bodyPost_ret (v := .agg #[.bool false, .slice A9 n9 c9]) (by simp [results, Tryz.results88, go_sem, hR4.c0, hR4.c1]) rfl ?_
   exact ⟨_, rfl, hr9.two hR9 rfl rfl rfl, (hk9.set (by simp only; omega) _).set (by simp only; omega) _⟩
  ·have hm2p : 0 < m2 := by have := dig_length_pos.2 hB; omega
   have HB := Lib.hid hB
   clear e1 e2 hB
   have hw1 := Lib.hid (fun W (k : Keeps wr W) => word_any _ A W (hu1.below k) (by omega))
   have hw2 := Lib.hid (fun W (k : Keeps wr W) => word_any _ B W (hu2.below k) (by omega))
   have hov := Lib.hid (fun W (k : Keeps wr W) => over_any _ _ A B W (hu1.below k) (hu2.below k) hlA hlB HB.out)
   by_cases hA8 : A < 1000000000000000000
   ·rw [show wordV A = .tuple #[.int .u64 (A : Nat), .bool true] from if_pos hA8] at hw1
    by_cases hB8 : B < 1000000000000000000
    ·rw [show wordV B = .tuple #[.int .u64 (B : Nat), .bool true] from if_pos hB8] at hw2
     have A8 := Lib.hid hA8
     have B8 := Lib.hid hB8
     clear hA8 hB8
     go_wp2_with fail
     refine (hw1.out _ bl).mono ?_
     rintro e w2 ⟨rfl, hk2⟩
     go_wp2_with fail
     refine (hw2.out _ hk2).mono ?_
     rintro e w3 ⟨rfl, hk3⟩
     have k3 := hk2.trans' hk3
     have hR3 := hR1.below k3
     have kw3 := hk1.trans' k3
     go_wp2_with fail
     go_loopw [7, 9] (fun x y wi => ∃ m n : Nat, x = .int .u64 (m : Nat) ∧ y = .int .u64 (n : Nat) ∧ m < 1000000000000000000 ∧ n < 1000000000000000000 ∧ Nat.gcd m n = g ∧ Own wi (w.heap.size + 1 + 1) 29 [.bool false, .slice none 0 0] ∧ Keeps w wi)
      (fun _ y _ => (intOf y).toNat)
     case atStart => exact ⟨A, B, rfl, rfl, A8.out, B8.out, HG2.out, hR3, kw3⟩
     case round =>
      clear hR3 kw3
      obtain ⟨m, n, rfl, rfl, hm, hn, hgm, hR3, kw3⟩ := hrel
      have HGM := Lib.hid hgm
      clear hgm
      by_cases hn0 : n = 0
      ·subst hn0
       have hmg : m = g := by have := HGM.out; rwa [Nat.gcd_zero_right] at this
       subst hmg
       go_wp2_with fail
       refine (split_any m _ (by omega)).mono ?_
       rintro e w5 ⟨v5, rfl, hu5, hk5⟩
       go_wp2_with fail
       refine (made_d false v5 m _ hu5).mono ?_
       rintro e w6 ⟨V9, rfl, hr9, hk6⟩
       have hR9 := (hR3.below hk5).below hk6
       have hk9 := (kw3.trans' hk5).trans' hk6
       obtain ⟨g, rfl⟩ : ∃ g, g = m := ⟨_, rfl⟩
       obtain ⟨A9, n9, c9, rfl, -⟩ := hr9.open_
       rw [show sgn false g = (g : Int) from rfl] at hr9
       have hd9 : decide (sgn false g < 0) = false := decide_eq_false (by simp [sgn])
       rw [hd9]
       clear hd9
       have r0 := hR9.c0
       have r1 := hR9.c1
       have f0 := hR9.frozen 0
       have f1 := hR9.frozen 1
       have hdg : decide ((g : Int) < 0) = false := decide_eq_false (by omega)
       rw [hdg] at hr9
       clear hdg
       go_wp2
       have hR4 := hR9.two (.bool false) (.slice A9 n9 c9)
       refine bodyPost_ret (v := .agg #[.bool false, .slice A9 n9 c9]) (by simp [results, Tryz.results88, go_sem, hR4.c0, hR4.c1]) rfl ?_
       exact ⟨_, rfl, hr9.two hR9 rfl rfl rfl, (hk9.set (by simp only; omega) _).set (by simp only; omega) _⟩
      ·have hnp : 0 < n := Nat.pos_of_ne_zero hn0
       have hnI : (0 : Int) < n := by omega
       have hlt := Nat.mod_lt m hnp
       have t2 : ((m : Int).tmod (n : Int)) = ((m % n : Nat) : Int) := by rw [Int.natCast_emod]; exact IntWalk.rem_in _ _ (by omega)
       obtain ⟨R, hRR⟩ : ∃ R, m % n = R := ⟨_, rfl⟩
       rw [hRR] at t2 hlt
       have g5 : IntKind.u64.wrap (R : Int) = (R : Int) := IntWalk.u64_in _ (by omega)
       have HR := Lib.hid hRR
       clear hRR
       go_wp2
       go_quiet (fail)
       go_wp2
       go_roundw
       case rel => exact ⟨n, R, rfl, rfl, hn, by omega, by rw [← HR.out]; exact (gcd_step m n).trans HGM.out, hR3.drewN _, below_drewN kw3 _⟩
       case measure => simp [intOf]; omega
    ·have hbig : wordV B = .tuple #[.int .u64 0, .bool false] := if_neg hB8
     rw [hbig] at hw2
     clear hA8 hB8 hbig
     go_wp2_with fail
     refine (hw1.out _ bl).mono ?_
     rintro e w2 ⟨rfl, hk2⟩
     go_wp2_with fail
     refine (hw2.out _ hk2).mono ?_
     rintro e w3 ⟨rfl, hk3⟩
     have k3 := hk2.trans' hk3
     go_wp2_with fail
     refine (hov.out _ k3).mono ?_
     rintro e w4 ⟨q4, r4, rfl, -, hr4, hk4⟩
     go_wp2
     go_roundg (A % B)
     case measure => exact Nat.mod_lt _ (Nat.pos_of_ne_zero HB.out)
     case rel => exact ⟨B, A % B, rfl, (gcd_step A B).trans HG2.out, hlB, Nat.le_trans (dig_length_mono (Nat.le_of_lt (Nat.mod_lt A (Nat.pos_of_ne_zero HB.out)))) hlB, hu2.below (k3.trans' hk4), hr4, hR1.below (k3.trans' hk4), hk1.trans' (k3.trans' hk4)⟩
   ·have hbig : wordV A = .tuple #[.int .u64 0, .bool false] := if_neg hA8
    rw [hbig] at hw1
    obtain ⟨x2, y2, ew2⟩ : ∃ x y, wordV B = .tuple #[x, .bool y] := by unfold wordV; split <;> exact ⟨_, _, rfl⟩
    rw [ew2] at hw2
    clear hA8 hbig ew2
    go_wp2_with fail
    refine (hw1.out _ bl).mono ?_
    rintro e w2 ⟨rfl, hk2⟩
    go_wp2_with fail
    refine (hw2.out _ hk2).mono ?_
    rintro e w3 ⟨rfl, hk3⟩
    have k3 := hk2.trans' hk3
    go_wp2_with fail
    refine (hov.out _ k3).mono ?_
    rintro e w4 ⟨q4, r4, rfl, -, hr4, hk4⟩
    go_wp2
    go_roundg (A % B)
    case measure => exact Nat.mod_lt _ (Nat.pos_of_ne_zero HB.out)
    case rel => exact ⟨B, A % B, rfl, (gcd_step A B).trans HG2.out, hlB, Nat.le_trans (dig_length_mono (Nat.le_of_lt (Nat.mod_lt A (Nat.pos_of_ne_zero HB.out)))) hlB, hu2.below (k3.trans' hk4), hr4, hR1.below (k3.trans' hk4), hk1.trans' (k3.trans' hk4)⟩
theorem rscaled_step (xs out : List Nat) (k d cc s c : Nat) (hk : out.length = k) (hv : val out + cc * 1000000000 ^ k = val (xs.take k) * d)
 (e : s + c * 1000000000 = ix xs k * d + cc) :
 val (out ++ [s]) + c * 1000000000 ^ (k + 1) = val (xs.take (k + 1)) * d := by
 rw [val_snoc, hk, val_take_succ xs]
 have : (s + c * 1000000000) * 1000000000 ^ k = (ix xs k * d + cc) * 1000000000 ^ k := by rw [e]
 grind
theorem cast_sm (x d c : Nat) : ((x : Int) * (d : Int) + (c : Int)) % 1000000000 = (((x * d + c) % 1000000000 : Nat) : Int) := by
 rw [Int.natCast_emod, Int.natCast_add, Int.natCast_mul]; rfl
theorem cast_sd (x d c : Nat) : ((x : Int) * (d : Int) + (c : Int)) / 1000000000 = (((x * d + c) / 1000000000 : Nat) : Int) := by
 rw [Int.natCast_ediv, Int.natCast_add, Int.natCast_mul]; rfl

set_option maxRecDepth 100000 in
set_option maxHeartbeats 1000000 in
theorem rscaled_core (A : Option Addr) (n1 c1 : Nat) (xs : List Nat) (d : Nat) (w : World) (e1 : xs.length = n1) (h1 : U32 w (.slice A n1 c1) xs)
 (ha : AllB xs) (hm1 : n1 ≤ 1000000) (hd : d < 1000000000) :
 Calls Tryz.prog 150 #[.slice A n1 c1, .int .u64 (d : Nat)] w fun e w' => ∃ v, e = .returned v ∧ U32 w' v (dig (val xs * d)) ∧ Keeps w w' := by
 obtain ⟨i0, hi, hz0, hz1, hz2⟩ := info_parts info_u32
 obtain ⟨A', n', c', ee, -, -, -, -, r1⟩ := h1.open_
 cases ee
 have HE1 := Lib.hid e1
 have HD := Lib.hid hd
 have hdI : (d : Int) < 1000000000 := by omega
 clear e1 hd
 go_enter Tryz.func150, Tryz.ntmps150
 go_wp2
 go_loopw [5, 6, 7] (fun g c i wr => ∃ (k cc : Nat) (out : List Nat), k ≤ n1 ∧ i = .int .i64 (k : Nat) ∧ c = .int .u64 (cc : Nat) ∧ cc < 1000000000 ∧ out.length = k ∧ AllB out ∧
  val out + cc * 1000000000 ^ k = val (xs.take k) * d ∧ wr.ownsRow w.heap.size 109 1 g k (u32s out) ∧ Keeps w wr)
  (fun _ _ i _ => n1 - (intOf i).toNat)
 case atStart => exact ⟨0, 0, [], by omega, rfl, rfl, by omega, rfl, AllB.nil, by simp [val], made1 w _, box2 _ _⟩
 case round =>
  obtain ⟨k, cc, out, hkN, rfl, rfl, hcc, hol, hob, hval, hown1, hk1⟩ := hrel
  have HV := Lib.hid hval
  have HL := Lib.hid hol
  clear hval hol
  have hccI : (cc : Int) < 1000000000 := by omega
  by_cases hlt : k < n1
  ·obtain ⟨b1, o1, rfl, hb1, hcell⟩ := (r1.below hk1) (by omega)
   have hxc : wr.cell? ⟨b1, o1 + k, none⟩ = some (.int .u32 (ix xs k : Nat)) := hcell k hlt
   have hx : (ix xs k : Int) < 1000000000 := by have := ha.ix k; omega
   have hp := mul_lt_base _ _ (ha.ix k) HD.out
   have hpq : ((ix xs k : Nat) : Int) * ((d : Nat) : Int) ≤ 999999998000000001 := by rw [← Int.natCast_mul]; omega
   have hpq0 : (0 : Int) ≤ ((ix xs k : Nat) : Int) * ((d : Nat) : Int) := by rw [← Int.natCast_mul]; omega
   have i1 : (k : Int) < n1 := by omega
   have i4 : (0 : Int) ≤ (k : Int) := by omega
   have HP := Lib.hid hp
   clear hcell hp
   go_wp2_with (at_builtin; refine wpList_append_own _ rfl _ _ 27 rfl w.heap.size 109 i0 (.int .u32 0) 1 4 Tryz.underlying27 hi hz0 hz1 hz2 rfl (by decide) _ _ _ rfl (hown1.alloc _) ⟨wr.heap.size, 0, none⟩ 1 1 [.int .u32 ((((ix xs k : Nat) : Int) * ((d : Nat) : Int) + (cc : Nat)) % 1000000000)] rfl rfl (newcell _ _ _) (by simp [Value.oneCell']) (by simp only [maxLen]; omega) (by omega) (by have := hk1.size; simp; omega) ?_; intro v' w1 hown' hgrow _)
   rw [u32s_snoc out ((ix xs k * d + cc) % 1000000000) (cast_sm _ _ _)] at hown'
   have hk2 : Keeps w w1 := (hk1.alloc hk1.size _).grown hgrow (by have := hk1.size; simp; omega) (fun b e => (hown1.lt b e).1)
   go_roundw
   case rel => exact ⟨k + 1, (ix xs k * d + cc) / 1000000000, out ++ [(ix xs k * d + cc) % 1000000000], by omega, by go_num, congrArg (Value.int .u64) (cast_sd _ _ _), by have := HP.out; omega, by simp [HL.out],
    hob.append (AllB.single (by omega)), rscaled_step xs out k d cc _ _ HL.out HV.out (by omega), hown', hk2⟩
   case measure => simp [intOf]; omega
  ·obtain rfl : k = n1 := by omega
   have hfin : val (out ++ [cc]) = val xs * d := by
    have := HV.out
    rw [List.take_of_length_le (by rw [HE1.out]; exact Nat.le_refl _)] at this
    rw [val_snoc, HL.out]; exact this
   have HF := Lib.hid hfin
   clear hfin
   go_wp2_with (at_builtin; refine wpList_append_own _ rfl _ _ 27 rfl w.heap.size 109 i0 (.int .u32 0) 1 4 Tryz.underlying27 hi hz0 hz1 hz2 rfl (by decide) _ _ _ rfl (hown1.alloc _) ⟨wr.heap.size, 0, none⟩ 1 1 [.int .u32 (cc : Nat)] rfl rfl (newcell _ _ _) (by simp [Value.oneCell']) (by simp only [maxLen]; omega) (by omega) (by have := hk1.size; simp; omega) ?_; intro v' w1 hown' hgrow _)
   rw [u32s_snoc out cc rfl] at hown'
   have hk2 : Keeps w w1 := (hk1.alloc hk1.size _).grown hgrow (by have := hk1.size; simp; omega) (fun b e => (hown1.lt b e).1)
   refine (rmade_u false v' _ _ (U32.of_own hown') (hob.append (AllB.single hcc)) (by simp [HL.out]; omega)).mono ?_
   rintro e w3 ⟨V3, rfl, hr3, hk3⟩
   obtain ⟨A3, n3, c3, rfl, hv3⟩ := hr3.open_
   have hfd := field_groups (.bool (decide (sgn false (val (out ++ [cc])) < 0))) (.slice A3 n3 c3)
   go_wp2
   go_ret
   refine ⟨_, rfl, ?_, hk2.trans' hk3⟩
   rw [sgn_natAbs, HF.out] at hv3
   exact hv3
theorem rscaled_d (v : Value) (a d : Nat) (w : World) (h : U32 w v (dig a)) (hm : (dig a).length ≤ 1000000) (hd : d < 1000000000) :
 Calls Tryz.prog 150 #[v, .int .u64 (d : Nat)] w fun e w' => ∃ v', e = .returned v' ∧ U32 w' v' (dig (a * d)) ∧ Keeps w w' := by
 obtain ⟨A, n, c, rfl, e, -, -, -, -⟩ := h.open_
 refine (rscaled_core A n c (dig a) d w e h (AllB.dig a) (by omega) hd).mono ?_
 rintro e w' ⟨v', rfl, hv, hk⟩
 exact ⟨v', rfl, by rwa [val_dig] at hv, hk⟩
theorem val_shift (a d : Nat) : val (d :: dig a) = a * 1000000000 + d := by
 show d + 1000000000 * val (dig a) = _
 rw [val_dig]; omega
theorem made_one (w : World) (t : TypeId) (x : Nat) : (w.alloc (.cells #[.int .u32 (x : Nat)] t)).ownsRow w.heap.size t 1 (.slice (some ⟨w.heap.size, 0, none⟩) 1 1) 1 (u32s [x]) :=
 ⟨by simp [u32s], .inr ⟨w.heap.size, 1, #[.int .u32 (x : Nat)], rfl, Nat.le_refl _, heap_alloc_new w _, by omega, by simp [maxLen], by simp, by simp [u32s]⟩⟩

set_option maxRecDepth 100000 in
set_option maxHeartbeats 1000000 in
theorem rshifted_any (v : Value) (a d : Nat) (w : World) (h : U32 w v (dig a)) (hm : (dig a).length ≤ 1000000) (hd : d < 1000000000) :
 Calls Tryz.prog 151 #[v, .int .u32 (d : Nat)] w fun e w' => ∃ v', e = .returned v' ∧ U32 w' v' (dig (a * 1000000000 + d)) ∧ Keeps w w' := by
 obtain ⟨i0, hi, hz0, hz1, hz2⟩ := info_parts info_u32
 obtain ⟨A, n, c, rfl, e1, hc, -, h0, r1⟩ := h.open_
 have hn : n ≤ 1000000 := by omega
 have HE := Lib.hid e1
 clear e1
 go_enter Tryz.func151, Tryz.ntmps151
 go_wp2_with (at_builtin; refine wpList_append_row rfl _ _ 27 rfl w.heap.size 109 i0 (.int .u32 0) 4 Tryz.underlying27 hi hz0 hz1 hz2 rfl (.slice (some ⟨w.heap.size, 0, none⟩) 1 1) 1 (u32s [d]) rfl (made_one w 109 d) A n c (u32 (dig a)) rfl h0 hc (r1.below (box2 _ _)) (fun j => rfl) (by simp only [maxLen]; omega) (by omega) (by simp) ?_; intro v' w1 hown' hgrow)
 rw [show u32s [d] ++ (List.range n).map (u32 (dig a)) = u32s (d :: dig a) by rw [← HE.out, u32s_range]; simp [u32s]] at hown'
 have hk2 : Keeps w w1 := (box2 w _).grown hgrow (by simp) (fun b e => by cases e; exact Nat.le_refl _)
 refine (rmade_u false v' (d :: dig a) _ (U32.of_own hown') (AllB.cons hd (AllB.dig a)) (by simp; omega)).mono ?_
 rintro e w3 ⟨V3, rfl, hr3, hk3⟩
 obtain ⟨A3, n3, c3, rfl, hv3⟩ := hr3.open_
 have hfd := field_groups (.bool (decide (sgn false (val (d :: dig a)) < 0))) (.slice A3 n3 c3)
 go_wp2
 go_ret
 refine ⟨_, rfl, ?_, hk2.trans' hk3⟩
 rw [sgn_natAbs, val_shift] at hv3
 exact hv3
end Go.Proofs.YtgcigdahjabimaaGreatDoor
namespace Go.Proofs.YtgcigdahjabimaaGreatDoor

theorem val_drop_dig (w i : Nat) : val ((dig w).drop i) = w / 1000000000 ^ i := by
 have h := wv_rest (dig w) 0 i
 rw [List.drop_zero, val_dig, wv_low, Nat.zero_add] at h
 have hl : val ((dig w).take i) < 1000000000 ^ i := by rw [← wv_low]; exact wv_lt (AllB.dig w) 0 i
 have hp : 0 < 1000000000 ^ i := Nat.pow_pos (by omega)
 have e : w / 1000000000 ^ i = (val ((dig w).take i) + 1000000000 ^ i * val ((dig w).drop i)) / 1000000000 ^ i := congrArg (· / 1000000000 ^ i) h
 rw [e, Nat.add_mul_div_left _ _ hp, Nat.div_eq_of_lt hl, Nat.zero_add]
theorem two_groups {w n : Nat} (hn : 1 ≤ n) (hw : w < 1000000000 ^ (n + 1)) : ix (dig w) n * 1000000000 + ix (dig w) (n - 1) = w / 1000000000 ^ (n - 1) := by
 have h := wv_rest (dig w) (n - 1) 2
 rw [val_drop_dig, wv_succ, wv_succ, wv_zero, show n - 1 + 2 = n + 1 by omega, show n - 1 + 1 = n by omega, Nat.add_zero, val_drop_dig, Nat.div_eq_of_lt hw] at h
 omega
theorem one_group {y n : Nat} (hn : 1 ≤ n) (hy : y < 1000000000 ^ n) : ix (dig y) (n - 1) = y / 1000000000 ^ (n - 1) := by
 have h := wv_rest (dig y) (n - 1) 1
 rw [val_drop_dig, wv_succ, wv_zero, show n - 1 + 1 = n by omega, Nat.add_zero, val_drop_dig, Nat.div_eq_of_lt hy] at h
 omega
theorem guess_le {w y P : Nat} (hP : 0 < P) : (w / P) / (y / P + 1) * y ≤ w := by
 have h1 : y ≤ (y / P + 1) * P := by have := Nat.lt_div_mul_add (a := y) hP; rw [Nat.add_mul]; omega
 calc (w / P) / (y / P + 1) * y ≤ (w / P) / (y / P + 1) * ((y / P + 1) * P) := Nat.mul_le_mul_left _ h1
  _ = (w / P) / (y / P + 1) * (y / P + 1) * P := (Nat.mul_assoc _ _ _).symm
  _ ≤ w / P * P := Nat.mul_le_mul_right _ (Nat.div_mul_le_self _ _)
  _ ≤ w := Nat.div_mul_le_self _ _
theorem guess_lt {g w y : Nat} (h : g * y ≤ w) (hw : w < y * 1000000000) : g < 1000000000 := by
 apply Nat.lt_of_mul_lt_mul_right (a := y)
 rw [Nat.mul_comm 1000000000]; omega
theorem guess_done {g w y : Nat} (h : g * y ≤ w) (hw : w - g * y < y) : g = w / y ∧ w - g * y = w % y :=
 div_of (by omega) hw
theorem factor_facts {y n f : Nat} (hn : 1 ≤ n) (hl : (dig y).length = n) (hy0 : y ≠ 0) (hf : f = 1000000000 / (ix (dig y) (n - 1) + 1)) :
 1 ≤ f ∧ f ≤ 500000000 ∧ (dig (y * f)).length = n := by
 have hlt : y < 1000000000 ^ n := by have := dig_lt y; rwa [hl] at this
 have hge := dig_ge hy0
 rw [hl] at hge
 have htop := dig_last hy0
 rw [hl] at htop
 have htb := (AllB.dig y).ix (n - 1)
 have h1 := one_group hn hlt
 have hP : 0 < 1000000000 ^ (n - 1) := Nat.pow_pos (by omega)
 generalize hg : ix (dig y) (n - 1) = g at *
 have hff : f * (g + 1) ≤ 1000000000 := by rw [hf]; exact Nat.div_mul_le_self _ _
 have hf1 : 1 ≤ f := by rw [hf]; exact (Nat.le_div_iff_mul_le (by omega)).2 (by omega)
 refine ⟨hf1, ?_, ?_⟩
 ·have h2 : f * 2 ≤ f * (g + 1) := Nat.mul_le_mul_left _ (by omega)
  omega
 ·have hup : y * f < 1000000000 ^ n := by
   have h2 : y < (g + 1) * 1000000000 ^ (n - 1) := by
    rw [h1, Nat.add_mul]; have := Nat.lt_div_mul_add (a := y) hP; omega
   have h3 : (g + 1) * f ≤ 1000000000 := by rw [Nat.mul_comm]; exact hff
   calc y * f < (g + 1) * 1000000000 ^ (n - 1) * f := Nat.mul_lt_mul_of_pos_right h2 hf1
    _ = (g + 1) * f * 1000000000 ^ (n - 1) := by rw [Nat.mul_assoc, Nat.mul_comm (1000000000 ^ (n - 1)) f, Nat.mul_assoc]
    _ ≤ 1000000000 * 1000000000 ^ (n - 1) := Nat.mul_le_mul_right _ h3
    _ = 1000000000 ^ n := by rw [Nat.mul_comm, ← Nat.pow_succ, Nat.succ_eq_add_one, Nat.sub_add_cancel hn]
  have := dig_length_le hup
  have h4 : y ≤ y * f := Nat.le_mul_of_pos_right _ hf1
  have := dig_length_mono h4
  omega
theorem part_step {xs q : List Nat} {t Y r w g : Nat} (hY : 0 < Y) (ht : t < xs.length) (hq : t < q.length)
 (hr : r = val (xs.drop (t + 1)) % Y) (hv : val (q.drop (t + 1)) = val (xs.drop (t + 1)) / Y) (hw : w = r * 1000000000 + ix xs t) (hg : g = w / Y) :
 val ((q.set t g).drop t) = val (xs.drop t) / Y ∧ w % Y = val (xs.drop t) % Y := by
 have hx := val_drop xs t ht
 have e : xs.drop t = xs.drop t := rfl
 have hd : val ((q.set t g).drop t) = g + 1000000000 * val (q.drop (t + 1)) := by
  rw [val_drop _ t (by rw [List.length_set]; exact hq)]
  rw [ix_set _ _ _ _ hq, if_pos rfl, List.drop_set_of_lt (by omega)]
 have hm := Nat.div_add_mod (val (xs.drop (t + 1))) Y
 have hX : val (xs.drop t) = w + Y * (1000000000 * (val (xs.drop (t + 1)) / Y)) := by
  rw [hx, hw, hr]
  have h5 : val (xs.drop (t + 1)) * 1000000000 = (Y * (val (xs.drop (t + 1)) / Y) + val (xs.drop (t + 1)) % Y) * 1000000000 := by rw [hm]
  have h6 : Y * (1000000000 * (val (xs.drop (t + 1)) / Y)) = Y * (val (xs.drop (t + 1)) / Y) * 1000000000 := by rw [Nat.mul_comm 1000000000, Nat.mul_assoc]
  rw [h6]
  rw [Nat.add_mul] at h5
  omega
 constructor
 ·rw [hd, hv, hX, Nat.add_mul_div_left _ _ hY, hg]
 ·rw [hX, Nat.add_mul_mod_self_left]
theorem part_end {X Y f : Nat} (hf : 1 ≤ f) : X * f / (Y * f) = X / Y ∧ X * f % (Y * f) / f = X % Y := by
 constructor
 ·exact Nat.mul_div_mul_right _ _ hf
 ·rw [Nat.mul_mod_mul_right, Nat.mul_div_cancel _ hf]
end Go.Proofs.YtgcigdahjabimaaGreatDoor
