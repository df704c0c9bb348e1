/- The walk of over: quotient and remainder of two magnitudes. The walk of Gcd. -/
import Derived.Test.YtgcigdahjabimaaGreatDoorPc16
import Derived.Test.YtgcigdahjabimaaGreatDoorPc12
import Derived.Deep.LoopGhost
namespace Go.Proofs.YtgcigdahjabimaaGreatDoor
open Go.RowKit Go.Shelf

theorem mcmp_s {w : World} {v1 v2 : Value} {a b : Nat} {s : Int} (h1 : U32 w v1 (dig a)) (h2 : U32 w v2 (dig b)) (hm1 : (dig a).length ≤ 1000000000) (hm2 : (dig b).length ≤ 1000000000) (e : ((a : Int) - b).sign = s) :
 Calls Tryz.prog 129 #[v1, v2] w fun e w' => e = .returned (.int .i64 s) ∧ Keeps w w' := by subst e; exact compare_any v1 v2 a b w h1 h2 hm1 hm2
theorem lt_sign (a b : Nat) : (a < b ∧ ((a : Int) - b).sign < 0) ∨ (b ≤ a ∧ 0 ≤ ((a : Int) - b).sign) := by
 rcases Nat.lt_or_ge a b with h | h
 ·exact .inl ⟨h, by rw [Int.sign_eq_neg_one_of_neg (by omega)]; omega⟩
 ·refine .inr ⟨h, ?_⟩
  rcases Nat.lt_or_eq_of_le h with h | h
  ·rw [Int.sign_eq_one_of_pos (by omega)]; omega
  ·subst h; simp
def DivRes (a b : Nat) (w : World) (e : Ending) (w' : World) : Prop := ∃ q r, e = .returned (.tuple #[q, r]) ∧ U32 w' q (dig (a / b)) ∧ U32 w' r (dig (a % b)) ∧ Keeps w w'
theorem dig_one {b : Nat} (h : (dig b).length = 1) : 0 < b ∧ b < 1000000000 ∧ dig b = [b] := by
 have h0 : b ≠ 0 := by intro e; rw [e, dig_zero] at h; simp at h
 have h1 := dig_lt b
 rw [h] at h1
 exact ⟨by omega, by omega, dig_small h0 (by omega)⟩
theorem big_len {a : Nat} (h : ¬ a < 1000000000000000000) : 2 < (dig a).length := by
 rcases Nat.lt_or_ge 2 (dig a).length with h1 | h1
 ·exact h1
 ·have := dig_lt a
  have h3 : 1000000000 ^ (dig a).length ≤ 1000000000 ^ 2 := Nat.pow_le_pow_right (by omega) h1
  omega

set_option maxRecDepth 100000 in
set_option maxHeartbeats 1000000 in
theorem over_any (v1 v2 : Value) (a b : Nat) (w : World) (h1 : U32 w v1 (dig a)) (h2 : U32 w v2 (dig b)) (hl1 : (dig a).length ≤ 900000) (hl2 : (dig b).length ≤ 900000) (hb : b ≠ 0) :
 Calls Tryz.prog 131 #[v1, v2] w (DivRes a b w) := by
 obtain ⟨A1, m1, c1, rfl, e1, -, -, -, r1⟩ := h1.open_
 obtain ⟨A2, m2, c2, rfl, e2, -, -, -, r2⟩ := h2.open_
 have hb1 := dig_length_pos.2 hb
 obtain ⟨s, hs⟩ : ∃ s, ((a : Int) - b).sign = s := ⟨_, rfl⟩
 have hL := lt_sign a b
 rw [hs] at hL
 have hc := Lib.hid (mcmp_s h1 h2 (by omega) (by omega) hs)
 clear hs
 rcases hL with ⟨hL, hs⟩ | ⟨hL, hs⟩
 ·have hd : decide (s < 0) = true := decide_eq_true hs
  have HL := Lib.hid hL
  clear hL e1 e2
  go_enter Tryz.func131, Tryz.ntmps131
  go_wp2_with fail
  refine hc.out.mono ?_
  rintro e w1 ⟨rfl, hk1⟩
  go_wp2
  go_ret2
  exact ⟨_, _, rfl, by rw [Nat.div_eq_of_lt HL.out, dig_zero]; exact U32.nil, by rw [Nat.mod_eq_of_lt HL.out]; exact h1.below hk1, hk1⟩
 ·have hd : decide (s < 0) = false := decide_eq_false (by omega)
  have HL := Lib.hid hL
  have HE1 := Lib.hid e1
  have HE2 := Lib.hid e2
  have hm2 : 0 < m2 := by omega
  have hm2b : m2 ≤ 900000 := by omega
  have hw1 := Lib.hid (fun W (k : Keeps w W) => word_any _ a W (h1.below k) (by omega))
  have hw2 := Lib.hid (fun W (k : Keeps w W) => word_any _ b W (h2.below k) (by omega))
  by_cases ha : a < 1000000000000000000
  ·have hbb : b < 1000000000000000000 := by omega
   have ew1 : wordV a = .tuple #[.int .u64 (a : Nat), .bool true] := if_pos ha
   have ew2 : wordV b = .tuple #[.int .u64 (b : Nat), .bool true] := if_pos hbb
   rw [ew1] at hw1
   rw [ew2] at hw2
   have aI : (a : Int) < 1000000000000000000 := by omega
   have bI : (b : Int) < 1000000000000000000 := by omega
   have b0 : ¬ b = 0 := hb
   have hqb := Nat.div_le_self a b
   have hrb := Nat.mod_lt a (show 0 < b by omega)
   have t1 : ((a : Int).tdiv (b : Int)) = ((a / b : Nat) : Int) := by rw [Int.natCast_ediv]; exact Int.tdiv_eq_ediv_of_nonneg (by omega)
   have t2 : ((a : Int).tmod (b : Int)) = ((a % b : Nat) : Int) := by rw [Int.natCast_emod]; exact IntWalk.rem_in _ _ (by omega)
   obtain ⟨G, hG⟩ : ∃ G, a / b = G := ⟨_, rfl⟩
   obtain ⟨R, hR⟩ : ∃ R, a % b = R := ⟨_, rfl⟩
   rw [hG] at t1 hqb
   rw [hR] at t2 hrb
   have g4 : IntKind.u64.wrap (G : Int) = (G : Int) := IntWalk.u64_in _ (by omega)
   have g5 : IntKind.u64.wrap (R : Int) = (R : Int) := IntWalk.u64_in _ (by omega)
   have HG := Lib.hid hG
   have HR := Lib.hid hR
   clear hG hR hL e1 e2 ew1 ew2 ha hbb
   go_enter Tryz.func131, Tryz.ntmps131
   go_wp2_with fail
   refine hc.out.mono ?_
   rintro e w1 ⟨rfl, hk1⟩
   go_wp2_with fail
   refine (hw1.out _ hk1).mono ?_
   rintro e w2 ⟨rfl, hk2⟩
   have k2 := hk1.trans' hk2
   go_wp2_with fail
   refine (hw2.out _ k2).mono ?_
   rintro e w3 ⟨rfl, hk3⟩
   have k3 := k2.trans' hk3
   go_wp2_with fail
   go_region_held3 (fun _ => True) (trivial)
    (first
     | (go_at_call_of 91 (Value.int IntKind.u64 (G : Int)); refine (split_any G _ (by omega)).mono ?_; rintro e w4 ⟨v4, rfl, hu4, hk4⟩)
     | (go_at_call 91; refine (split_any R _ (by omega)).mono ?_; rintro e w5 ⟨v5, rfl, hu5, hk5⟩))
   have kd : Keeps w w3.drew := Below.drew k3
   go_wp2
   go_ret2
   exact ⟨_, _, rfl, by rw [HG.out]; exact hu4.below hk5, by rw [HR.out]; exact hu5, (kd.trans' hk4).trans' hk5⟩
  ·have ew1 : wordV a = .tuple #[.int .u64 0, .bool false] := if_neg ha
   have hbig := big_len ha
   rw [ew1] at hw1
   obtain ⟨x2, y2, ew2⟩ : ∃ x y, wordV b = .tuple #[x, .bool y] := by unfold wordV; split <;> exact ⟨_, _, rfl⟩
   rw [ew2] at hw2
   have HA := Lib.hid hbig
   clear ha hbig ew1 ew2
   by_cases hone : m2 = 1
   ·subst hone
    obtain ⟨p1, p2, p3⟩ := dig_one e2
    have hrow := Lib.hid (fun W (k : Keeps w W) => r2.below k)
    have hsh := Lib.hid (fun W (k : Keeps w W) => mshort_any _ a b W (h1.below k) (by omega) p1 p2)
    have P3 := Lib.hid p3
    have hrb := Nat.mod_lt a p1
    clear hL e1 e2 p3
    go_enter Tryz.func131, Tryz.ntmps131
    go_wp2_with fail
    refine hc.out.mono ?_
    rintro e w1 ⟨rfl, hk1⟩
    go_wp2_with fail
    refine (hw1.out _ hk1).mono ?_
    rintro e w2 ⟨rfl, hk2⟩
    have k2 := hk1.trans' hk2
    go_wp2_with fail
    refine (hw2.out _ k2).mono ?_
    rintro e w3 ⟨rfl, hk3⟩
    have k3 := k2.trans' hk3
    obtain ⟨bx, ox, rfl, hbl, hcell⟩ := (hrow.out _ k3) (by omega)
    have hx := hcell 0 (by omega)
    unfold u32 at hx
    rw [P3.out, ix_zero, Nat.add_zero] at hx
    clear hcell
    go_wp2_with fail
    refine (hsh.out _ k3).mono ?_
    rintro e w4 ⟨v4, rfl, hu4, hk4⟩
    obtain ⟨R, hR⟩ : ∃ R, a % b = R := ⟨_, rfl⟩
    rw [hR] at hrb
    rw [hR]
    have HR := Lib.hid hR
    have rI : (R : Int) < 1000000000 := by omega
    clear hR
    go_wp2_with fail
    refine (split_any R _ (by omega)).mono ?_
    rintro e w5 ⟨v5, rfl, hu5, hk5⟩
    go_wp2
    go_ret2
    exact ⟨_, _, rfl, hu4.below hk5, by rw [HR.out]; exact hu5, (k3.trans' hk4).trans' hk5⟩
   ·have hne : ((m2 : Int) == 1) = false := by rw [beq_eq_false_iff_ne]; omega
    have hlo := Lib.hid (fun W (k : Keeps w W) => long_any _ _ a b W (h1.below k) (h2.below k) hl1 (by omega) hL)
    clear hL e1 e2 hone
    go_enter Tryz.func131, Tryz.ntmps131
    go_wp2_with fail
    refine hc.out.mono ?_
    rintro e w1 ⟨rfl, hk1⟩
    go_wp2_with fail
    refine (hw1.out _ hk1).mono ?_
    rintro e w2 ⟨rfl, hk2⟩
    have k2 := hk1.trans' hk2
    go_wp2_with fail
    refine (hw2.out _ k2).mono ?_
    rintro e w3 ⟨rfl, hk3⟩
    have k3 := k2.trans' hk3
    go_wp2_with fail
    refine (hlo.out _ k3).mono ?_
    rintro e w4 ⟨q4, r4, rfl, hu4, hu5, hk4⟩
    go_wp2
    go_ret2
    exact ⟨_, _, rfl, hu4, hu5, k3.trans' hk4⟩
theorem gcd_step (A B : Nat) : Nat.gcd B (A % B) = Nat.gcd A B := by rw [Nat.gcd_comm A B, Nat.gcd_rec B A, Nat.gcd_comm]

set_option maxRecDepth 100000 in
set_option maxHeartbeats 1000000 in
theorem gcd_any (n1 n2 : Bool) (xs ys : List Nat) (V1 V2 : Value) (w : World) (h1 : IntArg w V1 n1 xs) (h2 : IntArg w V2 n2 ys) (hm1 : xs.length ≤ 900000) (hm2 : ys.length ≤ 900000) :
 Calls Tryz.prog 88 #[V1, V2] w fun e w' => ∃ V, e = .returned V ∧ IntRep w' V ((Nat.gcd (mag n1 xs) (mag n2 ys) : Nat) : Int) ∧ Keeps w w' := by
 obtain ⟨v1, rfl, hv1⟩ := h1
 obtain ⟨v2, rfl, hv2⟩ := h2
 have hml1 := mag_length n1 xs
 have hml2 := mag_length n2 ys
 have hkk := keep3 w (.cells #[.bool n1, v1] 29) (.cells #[.bool n2, v2] 29) (.cells #[.bool false, .slice none 0 0] 29)
 have hG1 := Lib.hid (fun W (hW : IntArg W (.agg #[.bool n1, v1]) n1 xs) => groups_any n1 xs (.agg #[.bool n1, v1]) W hW (by omega))
 have hG2 := Lib.hid (fun W (hW : IntArg W (.agg #[.bool n2, v2]) n2 ys) => groups_any n2 ys (.agg #[.bool n2, v2]) W hW (by omega))
 have hR := own3 w (.cells #[.bool n1, v1] 29) (.cells #[.bool n2, v2] 29) 29 [.bool false, .slice none 0 0]
 have hB := (own2 w (.cells #[.bool n1, v1] 29) 29 [.bool n2, v2]).alloc (.cells #[.bool false, .slice none 0 0] 29)
 have hA := ((Own.new w 29 [.bool n1, v1]).alloc (.cells #[.bool n2, v2] 29)).alloc (.cells #[.bool false, .slice none 0 0] 29)
 generalize mag n1 xs = a at *
 generalize mag n2 ys = b at *
 obtain ⟨g, hg⟩ : ∃ g, Nat.gcd a b = g := ⟨_, rfl⟩
 rw [hg]
 have HG := Lib.hid hg
 clear hg
 go_enter Tryz.func88, Tryz.ntmps88
 go_wp2_with fail
 have g1 := hv1.below hkk
 have g2 := hv2.below hkk
 generalize ((w.alloc (.cells #[.bool n1, v1] 29)).alloc (.cells #[.bool n2, v2] 29)).alloc (.cells #[.bool false, .slice none 0 0] 29) = W at *
 replace hA := hA.drew
 replace hB := hB.drew
 replace hR := hR.drew
 replace g1 := g1.drew
 replace g2 := g2.drew
 replace hkk : Keeps w W.drew := Below.drew hkk
 go_region_held3 (fun w' => w'.cell? ⟨w.heap.size, 0, none⟩ = some (.bool n1) ∧ w'.cell? ⟨w.heap.size, 1, none⟩ = some v1 ∧ w'.cell? ⟨w.heap.size + 1, 0, none⟩ = some (.bool n2) ∧ w'.cell? ⟨w.heap.size + 1, 1, none⟩ = some v2)
  (exact ⟨hA.c0, hA.c1, hB.c0, hB.c1⟩)
  (first
   | (go_at_call_of 127 (Value.agg #[Value.bool n1, v1]); refine (hG1.out _ ⟨v1, rfl, g1⟩).mono ?_; rintro e w1 ⟨u1, rfl, hu1, hk⟩; replace hA := hA.below hk; replace hB := hB.below hk; replace hR := hR.below hk; replace g2 := g2.below hk; replace hkk := hkk.trans' hk)
   | (go_at_call 127; refine (hG2.out _ ⟨v2, rfl, g2⟩).mono ?_; rintro e w2 ⟨u2, rfl, hu2, hk⟩; replace hA := hA.below hk; replace hB := hB.below hk; replace hR := hR.below hk; replace hu1 := hu1.below hk; replace hkk := hkk.trans' hk))
 clear g1 g2 hG1 hG2 hA hB hk hv1 hv2
 go_wp2_with fail
 go_loopg [5, 6] b (fun k u v wr => ∃ A B : Nat, B = k ∧ Nat.gcd A B = g ∧ (dig A).length ≤ 900000 ∧ (dig B).length ≤ 900000 ∧ U32 wr u (dig A) ∧ U32 wr v (dig B) ∧ Own wr (w.heap.size + 1 + 1) 29 [.bool false, .slice none 0 0] ∧ Keeps w wr)
 case atStart => exact ⟨a, b, rfl, HG.out, by omega, by omega, hu1, hu2, hR, hkk⟩
 case round =>
  clear hu1 hu2 hR hkk
  obtain ⟨A, B, rfl, hg, hlA, hlB, hu1, hu2, hR1, hk1⟩ := hrel
  obtain ⟨A1, m1, c1, rfl, e1, -, -, -, -⟩ := hu1.open_
  obtain ⟨A2, m2, c2, rfl, e2, -, -, -, -⟩ := hu2.open_
  have HG2 := Lib.hid hg
  clear hg
  by_cases hB : B = 0
  ·subst hB
   obtain rfl : m2 = 0 := by rw [dig_zero] at e2; simpa using e2.symm
   have hag : A = g := by have := HG2.out; rwa [Nat.gcd_zero_right] at this
   subst hag
   clear e1 e2
   go_wp2_with fail
   refine (clone_u _ (dig A) _ hu1 (by omega)).mono ?_
   rintro e w4 ⟨d, rfl, hd, hk4⟩
   go_wp2_with fail
   refine (made_d false d A _ hd).mono ?_
   rintro e w5 ⟨V9, rfl, hr9, hk5⟩
   have hR9 := (hR1.below hk4).below hk5
   have hk9 := (hk1.trans' hk4).trans' hk5
   obtain ⟨g, rfl⟩ : ∃ g, g = A := ⟨_, rfl⟩
   obtain ⟨A9, n9, c9, rfl, -⟩ := hr9.open_
   rw [show sgn false g = (g : Int) from rfl] at hr9
   have hd9 : decide (sgn false g < 0) = false := decide_eq_false (by simp [sgn])
   rw [hd9]
   clear hd9
   have r0 := hR9.c0
   have r1 := hR9.c1
   have f0 := hR9.frozen 0
   have f1 := hR9.frozen 1
   have hdg : decide ((g : Int) < 0) = false := decide_eq_false (by omega)
   rw [hdg] at hr9
   clear hdg
   go_wp2
   have hR4 := hR9.two (.bool false) (.slice A9 n9 c9)
   refine bodyPost_ret (v := .agg #[.bool false, .slice A9 n9 c9]) (by simp [results, Tryz.results88, go_sem, hR4.c0, hR4.c1]) rfl ?_
   exact ⟨_, rfl, hr9.two hR9 rfl rfl rfl, (hk9.set (by simp only; omega) _).set (by simp only; omega) _⟩
  ·have hm2p : 0 < m2 := by have := dig_length_pos.2 hB; omega
   have HB := Lib.hid hB
   clear e1 e2 hB
   have hw1 := Lib.hid (fun W (k : Keeps wr W) => word_any _ A W (hu1.below k) (by omega))
   have hw2 := Lib.hid (fun W (k : Keeps wr W) => word_any _ B W (hu2.below k) (by omega))
   have hov := Lib.hid (fun W (k : Keeps wr W) => over_any _ _ A B W (hu1.below k) (hu2.below k) hlA hlB HB.out)
   by_cases hA8 : A < 1000000000000000000
   ·rw [show wordV A = .tuple #[.int .u64 (A : Nat), .bool true] from if_pos hA8] at hw1
    by_cases hB8 : B < 1000000000000000000
    ·rw [show wordV B = .tuple #[.int .u64 (B : Nat), .bool true] from if_pos hB8] at hw2
     have A8 := Lib.hid hA8
     have B8 := Lib.hid hB8
     clear hA8 hB8
     go_wp2_with fail
     refine (hw1.out _ bl).mono ?_
     rintro e w2 ⟨rfl, hk2⟩
     go_wp2_with fail
     refine (hw2.out _ hk2).mono ?_
     rintro e w3 ⟨rfl, hk3⟩
     have k3 := hk2.trans' hk3
     have hR3 := hR1.below k3
     have kw3 := hk1.trans' k3
     go_wp2_with fail
     go_loopw [7, 9] (fun x y wi => ∃ m n : Nat, x = .int .u64 (m : Nat) ∧ y = .int .u64 (n : Nat) ∧ m < 1000000000000000000 ∧ n < 1000000000000000000 ∧ Nat.gcd m n = g ∧ Own wi (w.heap.size + 1 + 1) 29 [.bool false, .slice none 0 0] ∧ Keeps w wi)
      (fun _ y _ => (intOf y).toNat)
     case atStart => exact ⟨A, B, rfl, rfl, A8.out, B8.out, HG2.out, hR3, kw3⟩
     case round =>
      clear hR3 kw3
      obtain ⟨m, n, rfl, rfl, hm, hn, hgm, hR3, kw3⟩ := hrel
      have HGM := Lib.hid hgm
      clear hgm
      by_cases hn0 : n = 0
      ·subst hn0
       have hmg : m = g := by have := HGM.out; rwa [Nat.gcd_zero_right] at this
       subst hmg
       go_wp2_with fail
       refine (split_any m _ (by omega)).mono ?_
       rintro e w5 ⟨v5, rfl, hu5, hk5⟩
       go_wp2_with fail
       refine (made_d false v5 m _ hu5).mono ?_
       rintro e w6 ⟨V9, rfl, hr9, hk6⟩
       have hR9 := (hR3.below hk5).below hk6
       have hk9 := (kw3.trans' hk5).trans' hk6
       obtain ⟨g, rfl⟩ : ∃ g, g = m := ⟨_, rfl⟩
       obtain ⟨A9, n9, c9, rfl, -⟩ := hr9.open_
       rw [show sgn false g = (g : Int) from rfl] at hr9
       have hd9 : decide (sgn false g < 0) = false := decide_eq_false (by simp [sgn])
       rw [hd9]
       clear hd9
       have r0 := hR9.c0
       have r1 := hR9.c1
       have f0 := hR9.frozen 0
       have f1 := hR9.frozen 1
       have hdg : decide ((g : Int) < 0) = false := decide_eq_false (by omega)
       rw [hdg] at hr9
       clear hdg
       go_wp2
       have hR4 := hR9.two (.bool false) (.slice A9 n9 c9)
       refine bodyPost_ret (v := .agg #[.bool false, .slice A9 n9 c9]) (by simp [results, Tryz.results88, go_sem, hR4.c0, hR4.c1]) rfl ?_
       exact ⟨_, rfl, hr9.two hR9 rfl rfl rfl, (hk9.set (by simp only; omega) _).set (by simp only; omega) _⟩
      ·have hnp : 0 < n := Nat.pos_of_ne_zero hn0
       have hnI : (0 : Int) < n := by omega
       have hlt := Nat.mod_lt m hnp
       have t2 : ((m : Int).tmod (n : Int)) = ((m % n : Nat) : Int) := by rw [Int.natCast_emod]; exact IntWalk.rem_in _ _ (by omega)
       obtain ⟨R, hRR⟩ : ∃ R, m % n = R := ⟨_, rfl⟩
       rw [hRR] at t2 hlt
       have g5 : IntKind.u64.wrap (R : Int) = (R : Int) := IntWalk.u64_in _ (by omega)
       have HR := Lib.hid hRR
       clear hRR
       go_wp2
       go_quiet (fail)
       go_wp2
       go_roundw
       case rel => exact ⟨n, R, rfl, rfl, hn, by omega, by rw [← HR.out]; exact (gcd_step m n).trans HGM.out, hR3.drewN _, below_drewN kw3 _⟩
       case measure => simp [intOf]; omega
    ·have hbig : wordV B = .tuple #[.int .u64 0, .bool false] := if_neg hB8
     rw [hbig] at hw2
     clear hA8 hB8 hbig
     go_wp2_with fail
     refine (hw1.out _ bl).mono ?_
     rintro e w2 ⟨rfl, hk2⟩
     go_wp2_with fail
     refine (hw2.out _ hk2).mono ?_
     rintro e w3 ⟨rfl, hk3⟩
     have k3 := hk2.trans' hk3
     go_wp2_with fail
     refine (hov.out _ k3).mono ?_
     rintro e w4 ⟨q4, r4, rfl, -, hr4, hk4⟩
     go_wp2
     go_roundg (A % B)
     case measure => exact Nat.mod_lt _ (Nat.pos_of_ne_zero HB.out)
     case rel => exact ⟨B, A % B, rfl, (gcd_step A B).trans HG2.out, hlB, Nat.le_trans (dig_length_mono (Nat.le_of_lt (Nat.mod_lt A (Nat.pos_of_ne_zero HB.out)))) hlB, hu2.below (k3.trans' hk4), hr4, hR1.below (k3.trans' hk4), hk1.trans' (k3.trans' hk4)⟩
   ·have hbig : wordV A = .tuple #[.int .u64 0, .bool false] := if_neg hA8
    rw [hbig] at hw1
    obtain ⟨x2, y2, ew2⟩ : ∃ x y, wordV B = .tuple #[x, .bool y] := by unfold wordV; split <;> exact ⟨_, _, rfl⟩
    rw [ew2] at hw2
    clear hA8 hbig ew2
    go_wp2_with fail
    refine (hw1.out _ bl).mono ?_
    rintro e w2 ⟨rfl, hk2⟩
    go_wp2_with fail
    refine (hw2.out _ hk2).mono ?_
    rintro e w3 ⟨rfl, hk3⟩
    have k3 := hk2.trans' hk3
    go_wp2_with fail
    refine (hov.out _ k3).mono ?_
    rintro e w4 ⟨q4, r4, rfl, -, hr4, hk4⟩
    go_wp2
    go_roundg (A % B)
    case measure => exact Nat.mod_lt _ (Nat.pos_of_ne_zero HB.out)
    case rel => exact ⟨B, A % B, rfl, (gcd_step A B).trans HG2.out, hlB, Nat.le_trans (dig_length_mono (Nat.le_of_lt (Nat.mod_lt A (Nat.pos_of_ne_zero HB.out)))) hlB, hu2.below (k3.trans' hk4), hr4, hR1.below (k3.trans' hk4), hk1.trans' (k3.trans' hk4)⟩
end Go.Proofs.YtgcigdahjabimaaGreatDoor
