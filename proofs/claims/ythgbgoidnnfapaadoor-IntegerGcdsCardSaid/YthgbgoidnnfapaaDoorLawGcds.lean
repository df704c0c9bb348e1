/- The walk of the law IntegerGcds. -/
import Derived.Test.YthgbgoidnnfapaaDoorBox
import Derived.Test.YthgbgoidnnfapaaDoorRGcd
import Derived.Test.YthgbgoidnnfapaaDoorDivide
import Derived.Test.YthgbgoidnnfapaaDoorOf
namespace Go.Proofs.YthgbgoidnnfapaaDoor
open Go.RowKit Go.Shelf

theorem gcd_num {w : World} {V1 V2 : Value} {x y : Int} (h1 : IntNum w V1 x) (h2 : IntNum w V2 y) : Calls Tryd.prog 40 #[V1, V2] w (Gives (Int.gcd x y : Int) w) := by
  obtain ⟨n1, xs, h1, rfl, l1⟩ := h1
  obtain ⟨n2, ys, h2, rfl, l2⟩ := h2
  have := gcd_any n1 n2 xs ys V1 V2 w h1 h2 l1 l2
  rwa [← cnt_abs n1 xs, ← cnt_abs n2 ys] at this
theorem rgcd_num {w : World} {V1 V2 : Value} {x y : Int} (h1 : IntNum w V1 x) (h2 : IntNum w V2 y) : Calls Tryd.prog 41 #[V1, V2] w (Gives (Int.gcd x y : Int) w) := by
  obtain ⟨n1, xs, h1, rfl, l1⟩ := h1
  obtain ⟨n2, ys, h2, rfl, l2⟩ := h2
  have := rgcd_any n1 n2 xs ys V1 V2 w h1 h2 l1 l2
  rwa [← cnt_abs n1 xs, ← cnt_abs n2 ys] at this
theorem of_num {w : World} (z : Int) (h1 : -9223372036854775808 ≤ z) (h2 : z ≤ 9223372036854775807) : Calls Tryd.prog 13 #[.int .i64 z] w (Gives z w) := of_any z w h1 h2
/-- what Divide hands back where the divisor is not 0 -/
def DivGives (q r : Int) (w : World) (e : Ending) (w' : World) : Prop := ∃ Q R, e = .returned (.tuple #[Q, R, .int .i64 0]) ∧ IntRep w' Q q ∧ IntRep w' R r ∧ Keeps w w'
theorem divide_num {w : World} {V1 V2 : Value} {x y q r : Int} (h1 : IntNum w V1 x) (h2 : IntNum w V2 y) (hy : y ≠ 0) (eq : x.fdiv y = q) (er : x.fmod y = r) : Calls Tryd.prog 38 #[V1, V2] w (DivGives q r w) := by
  obtain ⟨n1, xs, h1, rfl, l1⟩ := h1
  obtain ⟨n2, ys, h2, rfl, l2⟩ := h2
  subst eq er
  have := divide_any n1 n2 xs ys V1 V2 w h1 h2 (by omega) (by omega)
  rwa [show divC (cnt n2 ys) = 0 from if_neg hy, show divQ (cnt n1 xs) (cnt n2 ys) = _ from if_neg hy, show divR (cnt n1 xs) (cnt n2 ys) = _ from if_neg hy] at this
theorem natAbs_ediv_of (x : Int) (g : Nat) (hg : 0 < g) (h : (g : Int) ∣ x) : (x / g).natAbs = x.natAbs / g := by
  obtain ⟨k, rfl⟩ := h
  rw [Int.mul_ediv_cancel_left _ (by omega), Int.natAbs_mul, Int.natAbs_natCast, Nat.mul_div_cancel_left _ hg]
/-- what the law asks of a greatest divisor that is not 0 -/
theorem gcd_facts (x y : Int) (g : Nat) (hg : 0 < g) (e : Int.gcd x y = g) : x.fdiv g = x / g ∧ x.fmod g = 0 ∧ y.fdiv g = y / g ∧ y.fmod g = 0 ∧ Int.gcd (x / g) (y / g) = 1 ∧ (x / (g : Int)).natAbs ≤ x.natAbs ∧ (y / (g : Int)).natAbs ≤ y.natAbs := by
  have h1 : (g : Int) ∣ x := e ▸ Int.gcd_dvd_left ..
  have h2 : (g : Int) ∣ y := e ▸ Int.gcd_dvd_right ..
  have n1 := natAbs_ediv_of x g hg h1
  have n2 := natAbs_ediv_of y g hg h2
  refine ⟨Int.fdiv_eq_ediv_of_dvd h1, Int.fmod_eq_zero_of_dvd h1, Int.fdiv_eq_ediv_of_dvd h2, Int.fmod_eq_zero_of_dvd h2, ?_, by rw [n1]; exact Nat.div_le_self _ _, by rw [n2]; exact Nat.div_le_self _ _⟩
  unfold Int.gcd at e ⊢
  rw [n1, n2, ← e]
  exact Nat.coprime_div_gcd_div_gcd (by omega)
theorem gcd_len (x y : Int) (g : Nat) (e : Int.gcd x y = g) (hx : lenI x ≤ 12) (hy : lenI y ≤ 12) : lenI g ≤ 12 := by
  unfold Int.gcd at e
  rcases Nat.eq_zero_or_pos x.natAbs with h | h
  · rw [h, Nat.gcd_zero_left] at e
    exact Nat.le_trans (lenI_mono (by omega)) hy
  · exact Nat.le_trans (lenI_mono (x := g) (y := x) (by have := Nat.gcd_le_left y.natAbs h; omega)) hx

set_option maxRecDepth 100000 in
set_option maxHeartbeats 4000000 in
theorem gcds_walk (n1 n2 : Bool) (xs ys : List Nat) (V1 V2 : Value) (w : World) (hkn : ∀ W, Keeps w W → KnownAt W) (h1 : IntArg w V1 n1 xs) (h2 : IntArg w V2 n2 ys)
    (hm1 : xs.length ≤ 9223372036854775807) (hm2 : ys.length ≤ 9223372036854775807) :
    Calls Tryd.prog 8 #[V1, V2] w fun e w' => e = .returned (.bool true) ∧ Keeps w w' := by
  obtain ⟨v1, rfl, hv1⟩ := h1
  obtain ⟨v2, rfl, hv2⟩ := h2
  have hkk := keep2 w (.cells #[.bool n1, v1] 24) (.cells #[.bool n2, v2] 24)
  have hB := own2 w (.cells #[.bool n1, v1] 24) 24 [.bool n2, v2]
  have hA := (Own.new w 24 [.bool n1, v1]).alloc (.cells #[.bool n2, v2] 24)
  have hkn0 := Lib.hid (hkn _ hkk)
  clear hkn
  go_enter Tryd.func8, Tryd.ntmps8
  go_wp2_with fail
  have g1 := hv1.below hkk
  have g2 := hv2.below hkk
  generalize (w.alloc (.cells #[.bool n1, v1] 24)).alloc (.cells #[.bool n2, v2] 24) = W at *
  refine (hkn0.out).mono ?_
  rintro e w1 ⟨rfl, hk1⟩
  have hA1 := hA.below hk1
  have hB1 := hB.below hk1
  have a0 := hA1.c0
  have a1 := hA1.c1
  have b0 := hB1.c0
  have b1 := hB1.c1
  have k1 := hkk.trans' hk1
  have g1 := g1.below hk1
  have g2 := g2.below hk1
  obtain ⟨A1, p1, q1, rfl, e1, -⟩ := g1.open_
  obtain ⟨A2, p2, q2, rfl, e2, -⟩ := g2.open_
  have hsh := Lib.hid (short2 n1 n2 A1 A2 p1 p2 q1 q2 _ _ (Own.new w1 24 [.bool n1, .slice A1 p1 q1, .bool n2, .slice A2 p2 q2]) (by omega) (by omega))
  cases hS : shortB [p1, p2] with
  | false =>
    rw [hS] at hsh
    clear hS e1 e2
    go_wp2_with fail
    refine hsh.out.mono ?_
    rintro e w2 ⟨rfl, hk2⟩
    go_wp2
    go_ret
    exact ⟨rfl, (k1.trans' (box2 _ _)).trans' hk2⟩
  | true =>
    rw [hS] at hsh
    have hl1 : xs.length ≤ 12 := by simp [shortB] at hS; omega
    have hl2 : ys.length ≤ 12 := by simp [shortB] at hS; omega
    clear hS e1 e2
    go_wp2_with fail
    refine hsh.out.mono ?_
    rintro e w2 ⟨rfl, hk2⟩
    have hk2' : Keeps w1 w2 := (box2 _ _).trans' hk2
    have hA2 := hA1.below hk2'
    have hB2 := hB1.below hk2'
    have f1 := g1.below hk2'
    have f2 := g2.below hk2'
    have k2 := k1.trans' hk2'
    clear a0 a1 b0 b1
    have a0 := hA2.c0
    have a1 := hA2.c1
    have b0 := hB2.c0
    have b1 := hB2.c1
    have hvx : IntNum w2 (.agg #[.bool n1, .slice A1 p1 q1]) (cnt n1 xs) := ⟨_, _, ⟨_, rfl, f1⟩, rfl, by omega⟩
    have hvy : IntNum w2 (.agg #[.bool n2, .slice A2 p2 q2]) (cnt n2 ys) := ⟨_, _, ⟨_, rfl, f2⟩, rfl, by omega⟩
    have ln1 := lenI_cnt n1 xs
    have ln2 := lenI_cnt n2 ys
    clear f1 f2 hsh hA1 hB1 k1 hk1 hkk hkn0 hA hB g1 g2 hv1 hv2 hk2 hk2' hm1 hm2
    generalize cnt n1 xs = x at *
    generalize cnt n2 ys = y at *
    have lx : lenI x ≤ 12 := by omega
    have ly : lenI y ≤ 12 := by omega
    clear ln1 ln2 hl1 hl2
    obtain ⟨g, hg0⟩ : ∃ g, Int.gcd x y = g := ⟨_, rfl⟩
    have lg := gcd_len x y g hg0 lx ly
    have HG := Lib.hid hg0
    clear hg0
    rcases Nat.eq_zero_or_pos g with hgz | hgp
    · have HS := Lib.hid (show (g : Int).sign = 0 by rw [hgz]; rfl)
      have hz := Int.gcd_eq_zero_iff.1 (HG.out.trans hgz)
      have HX := Lib.hid (show x.sign = 0 by rw [hz.1]; rfl)
      have HY := Lib.hid (show y.sign = 0 by rw [hz.2]; rfl)
      clear hz hgz
      go_wp2_with fail
      refine (gcd_num hvx hvy).mono ?_
      rintro e w3 ⟨V, rfl, hg, hk3⟩
      rw [HG.out] at hg
      obtain ⟨A3, n3, c3, rfl, -⟩ := hg.open_
      generalize decide ((g : Int) < 0) = bg at *
      have kb := box2 w3 (.cells #[.bool bg, .slice A3 n3 c3] 24)
      have kb3 := hk3.trans' kb
      have hs : Boxes (w3.alloc (.cells #[.bool bg, .slice A3 n3 c3] 24)) 24 [(w.heap.size, .bool n1, .slice A1 p1 q1), (w.heap.size + 1, .bool n2, .slice A2 p2 q2), (w3.heap.size, .bool bg, .slice A3 n3 c3)] :=
        ⟨hA2.below kb3, hB2.below kb3, Own.new w3 24 [.bool bg, .slice A3 n3 c3], trivial⟩
      have hr := hg.below kb
      have hv : Ints _ [(.agg #[.bool n1, .slice A1 p1 q1], x), (.agg #[.bool n2, .slice A2 p2 q2], y), (.agg #[.bool bg, .slice A3 n3 c3], (g : Int))] := ⟨hvx.below kb3, hvy.below kb3, hr.num (by omega), trivial⟩
      have k4 := k2.trans' kb3
      clear a0 a1 b0 b1 kb kb3 hk3 hg k2 hvx hvy
      replace hs := hs.drew
      replace hv := hv.drew
      replace hr := hr.drew
      replace k4 : Keeps w _ := Below.drew k4
      go_wp2_with fail
      go_region_held3 (fun w' => w'.cell? ⟨w.heap.size, 0, none⟩ = some (.bool n1) ∧ w'.cell? ⟨w.heap.size, 1, none⟩ = some (.slice A1 p1 q1) ∧ w'.cell? ⟨w.heap.size + 1, 0, none⟩ = some (.bool n2) ∧ w'.cell? ⟨w.heap.size + 1, 1, none⟩ = some (.slice A2 p2 q2) ∧ w'.cell? ⟨w3.heap.size, 0, none⟩ = some (.bool bg) ∧ w'.cell? ⟨w3.heap.size, 1, none⟩ = some (.slice A3 n3 c3))
        (exact ⟨hs.c0, hs.c1, hs.tl.c0, hs.tl.c1, hs.tl.tl.c0, hs.tl.tl.c1⟩)
        (first
          | (go_at_call 26; refine (sign_s hv.tl.tl.h HS.out).mono ?_; rintro e W5 ⟨rfl, hk⟩; replace hs := hs.below hk; replace hv := hv.below hk; replace k4 := k4.trans' hk; replace hr := hr.below hk)
          | (go_at_call 41; refine (gives_eq (rgcd_num hv.h hv.tl.h) (congrArg Int.ofNat HG.out)).mono ?_; rintro e W5 ⟨U29, rfl, hp, hk⟩; replace hs := hs.below hk; replace hv := hv.below hk; replace k4 := k4.trans' hk; replace hr := hr.below hk)
          | (go_at_call 15; refine (same_num hr hp rfl (by omega)).mono ?_; rintro e W5 ⟨rfl, hk⟩; replace hs := hs.below hk; replace hv := hv.below hk; replace k4 := k4.trans' hk))
      clear hr hp
      have a0 := hs.c0
      have a1 := hs.c1
      have b0 := hs.tl.c0
      have b1 := hs.tl.c1
      have c0 := hs.tl.tl.c0
      have c1 := hs.tl.tl.c1
      have hSg := Lib.hid (sign_s hv.tl.tl.h HS.out)
      go_wp2_with fail
      refine hSg.out.mono ?_
      rintro e w6 ⟨rfl, hk⟩
      replace hs := hs.below hk
      replace hv := hv.below hk
      replace k4 := k4.trans' hk
      clear hSg hk a0 a1 b0 b1 c0 c1
      have a0 := hs.c0
      have a1 := hs.c1
      have b0 := hs.tl.c0
      have b1 := hs.tl.c1
      have c0 := hs.tl.tl.c0
      have c1 := hs.tl.tl.c1
      have hSx := Lib.hid (sign_s hv.h HX.out)
      go_wp2_with fail
      refine hSx.out.mono ?_
      rintro e w7 ⟨rfl, hk⟩
      replace hs := hs.below hk
      replace hv := hv.below hk
      replace k4 := k4.trans' hk
      clear hSx hk a0 a1 b0 b1 c0 c1
      have b0 := hs.tl.c0
      have b1 := hs.tl.c1
      have hSy := Lib.hid (sign_s hv.tl.h HY.out)
      go_wp2_with fail
      refine hSy.out.mono ?_
      rintro e w8 ⟨rfl, hk⟩
      replace k4 := k4.trans' hk
      go_wp2
      go_ret
      exact ⟨rfl, k4⟩
    · have HS := Lib.hid (Int.sign_eq_one_of_pos (show (0 : Int) < (g : Int) by omega))
      have HP := Lib.hid hgp
      obtain ⟨t1, t2, t3, t4, t5, t6, t7⟩ := gcd_facts x y g hgp HG.out
      generalize x / (g : Int) = qa at *
      generalize y / (g : Int) = qb at *
      have la : lenI qa ≤ 12 := Nat.le_trans (lenI_mono t6) lx
      have lb : lenI qb ≤ 12 := Nat.le_trans (lenI_mono t7) ly
      have T1 := Lib.hid t1
      have T2 := Lib.hid t2
      have T3 := Lib.hid t3
      have T4 := Lib.hid t4
      have T5 := Lib.hid t5
      have hgI : (g : Int) ≠ 0 := by omega
      have HGI := Lib.hid hgI
      have l0 : lenI 0 ≤ 12 := by simp [lenI, dig_zero]
      have l1 : lenI 1 ≤ 12 := Nat.le_trans (dig_length_le (n := (1 : Int).natAbs) (k := 1) (by decide)) (by omega)
      clear hgp t1 t2 t3 t4 t5 t6 t7 hgI
      go_wp2_with fail
      refine (gcd_num hvx hvy).mono ?_
      rintro e w3 ⟨V, rfl, hg, hk3⟩
      rw [HG.out] at hg
      obtain ⟨A3, n3, c3, rfl, -⟩ := hg.open_
      generalize decide ((g : Int) < 0) = bg at *
      have kb := box2 w3 (.cells #[.bool bg, .slice A3 n3 c3] 24)
      have kb3 := hk3.trans' kb
      have hs : Boxes (w3.alloc (.cells #[.bool bg, .slice A3 n3 c3] 24)) 24 [(w.heap.size, .bool n1, .slice A1 p1 q1), (w.heap.size + 1, .bool n2, .slice A2 p2 q2), (w3.heap.size, .bool bg, .slice A3 n3 c3)] :=
        ⟨hA2.below kb3, hB2.below kb3, Own.new w3 24 [.bool bg, .slice A3 n3 c3], trivial⟩
      have hr := hg.below kb
      have hv : Ints _ [(.agg #[.bool n1, .slice A1 p1 q1], x), (.agg #[.bool n2, .slice A2 p2 q2], y), (.agg #[.bool bg, .slice A3 n3 c3], (g : Int))] := ⟨hvx.below kb3, hvy.below kb3, hr.num (by omega), trivial⟩
      have k4 := k2.trans' kb3
      clear a0 a1 b0 b1 kb kb3 hk3 hg k2 hvx hvy
      replace hs := hs.drew
      replace hv := hv.drew
      replace hr := hr.drew
      replace k4 : Keeps w _ := Below.drew k4
      go_wp2_with fail
      go_region_held3 (fun w' => w'.cell? ⟨w.heap.size, 0, none⟩ = some (.bool n1) ∧ w'.cell? ⟨w.heap.size, 1, none⟩ = some (.slice A1 p1 q1) ∧ w'.cell? ⟨w.heap.size + 1, 0, none⟩ = some (.bool n2) ∧ w'.cell? ⟨w.heap.size + 1, 1, none⟩ = some (.slice A2 p2 q2) ∧ w'.cell? ⟨w3.heap.size, 0, none⟩ = some (.bool bg) ∧ w'.cell? ⟨w3.heap.size, 1, none⟩ = some (.slice A3 n3 c3))
        (exact ⟨hs.c0, hs.c1, hs.tl.c0, hs.tl.c1, hs.tl.tl.c0, hs.tl.tl.c1⟩)
        (first
          | (go_at_call 26; refine (sign_s hv.tl.tl.h HS.out).mono ?_; rintro e W5 ⟨rfl, hk⟩; replace hs := hs.below hk; replace hv := hv.below hk; replace k4 := k4.trans' hk; replace hr := hr.below hk)
          | (go_at_call 41; refine (gives_eq (rgcd_num hv.h hv.tl.h) (congrArg Int.ofNat HG.out)).mono ?_; rintro e W5 ⟨U29, rfl, hp, hk⟩; replace hs := hs.below hk; replace hv := hv.below hk; replace k4 := k4.trans' hk; replace hr := hr.below hk)
          | (go_at_call 15; refine (same_num hr hp rfl (by omega)).mono ?_; rintro e W5 ⟨rfl, hk⟩; replace hs := hs.below hk; replace hv := hv.below hk; replace k4 := k4.trans' hk))
      clear hr hp
      have a0 := hs.c0
      have a1 := hs.c1
      have b0 := hs.tl.c0
      have b1 := hs.tl.c1
      have c0 := hs.tl.tl.c0
      have c1 := hs.tl.tl.c1
      have hSg := Lib.hid (sign_s hv.tl.tl.h HS.out)
      go_wp2_with fail
      refine hSg.out.mono ?_
      rintro e w6 ⟨rfl, hk⟩
      replace hs := hs.below hk
      replace hv := hv.below hk
      replace k4 := k4.trans' hk
      clear hSg hk a0 a1 b0 b1 c0 c1
      have a0 := hs.c0
      have a1 := hs.c1
      have b0 := hs.tl.c0
      have b1 := hs.tl.c1
      have c0 := hs.tl.tl.c0
      have c1 := hs.tl.tl.c1
      obtain ⟨z0, hz0⟩ : ∃ z : Int, 0 = z := ⟨_, rfl⟩
      have HZ0 := Lib.hid hz0
      rw [hz0] at l0
      have hD := Lib.hid (divide_num hv.h hv.tl.tl.h HGI.out T1.out (T2.out.trans hz0))
      have hD2 := Lib.hid (fun W (k : Keeps w6 W) => divide_num (hv.below k).tl.h (hv.below k).tl.tl.h HGI.out T3.out (T4.out.trans hz0))
      clear hz0
      go_wp2_with fail
      refine hD.out.mono ?_
      rintro e w7 ⟨Q, R, rfl, hq, hr, hk⟩
      clear hD
      obtain ⟨A4, n4, c4, rfl, -⟩ := hq.open_
      obtain ⟨A5, n5, c5, rfl, -⟩ := hr.open_
      generalize decide (qa < 0) = b4 at *
      generalize decide (z0 < 0) = b5 at *
      have kb := keep2 w7 (.cells #[.bool b4, .slice A4 n4 c4] 24) (.cells #[.bool b5, .slice A5 n5 c5] 24)
      have kb3 := hk.trans' kb
      have hs7 : Boxes ((w7.alloc (.cells #[.bool b4, .slice A4 n4 c4] 24)).alloc (.cells #[.bool b5, .slice A5 n5 c5] 24)) 24 [(w7.heap.size, .bool b4, .slice A4 n4 c4), (w7.heap.size + 1, .bool b5, .slice A5 n5 c5), (w.heap.size, .bool n1, .slice A1 p1 q1), (w.heap.size + 1, .bool n2, .slice A2 p2 q2), (w3.heap.size, .bool bg, .slice A3 n3 c3)] :=
        ⟨(Own.new w7 24 [.bool b4, .slice A4 n4 c4]).alloc _, own2 w7 _ 24 [.bool b5, .slice A5 n5 c5], hs.below kb3⟩
      have hq7 := (hq.below kb).num (by omega)
      have hr7 := (hr.below kb).num (by omega)
      have k7 := k4.trans' kb3
      have hE := Lib.hid (hD2.out _ kb3)
      clear a0 a1 b0 b1 c0 c1 hq hr hk kb hs hv k4 hD2 kb3
      generalize hW7 : (w7.alloc (.cells #[.bool b4, .slice A4 n4 c4] 24)).alloc (.cells #[.bool b5, .slice A5 n5 c5] 24) = W7 at *
      have d0 := hs7.c0
      have d1 := hs7.c1
      have e0 := hs7.tl.c0
      have e1 := hs7.tl.c1
      have b0 := hs7.tl.tl.tl.c0
      have b1 := hs7.tl.tl.tl.c1
      have c0 := hs7.tl.tl.tl.tl.c0
      have c1 := hs7.tl.tl.tl.tl.c1
      go_wp2_with fail
      refine hE.out.mono ?_
      rintro e w8 ⟨Qb, Rb, rfl, hq, hr, hk⟩
      clear hE hW7
      obtain ⟨A6, n6, c6, rfl, -⟩ := hq.open_
      obtain ⟨A7, n7, c7, rfl, -⟩ := hr.open_
      generalize decide (qb < 0) = b6 at *
      generalize decide (z0 < 0) = b7 at *
      have kb := keep2 w8 (.cells #[.bool b6, .slice A6 n6 c6] 24) (.cells #[.bool b7, .slice A7 n7 c7] 24)
      have kb3 := hk.trans' kb
      have hs : Boxes ((w8.alloc (.cells #[.bool b6, .slice A6 n6 c6] 24)).alloc (.cells #[.bool b7, .slice A7 n7 c7] 24)) 24 [(w8.heap.size, .bool b6, .slice A6 n6 c6), (w8.heap.size + 1, .bool b7, .slice A7 n7 c7), (w7.heap.size, .bool b4, .slice A4 n4 c4), (w7.heap.size + 1, .bool b5, .slice A5 n5 c5)] :=
        ⟨(Own.new w8 24 [.bool b6, .slice A6 n6 c6]).alloc _, own2 w8 _ 24 [.bool b7, .slice A7 n7 c7], (hs7.below kb3).o, (hs7.below kb3).tl.o, trivial⟩
      have hv : Ints _ [(.agg #[.bool b4, .slice A4 n4 c4], qa), (.agg #[.bool b5, .slice A5 n5 c5], z0), (.agg #[.bool b6, .slice A6 n6 c6], qb), (.agg #[.bool b7, .slice A7 n7 c7], z0)] := ⟨hq7.below kb3, hr7.below kb3, (hq.below kb).num (by omega), (hr.below kb).num (by omega), trivial⟩
      have k4 := k7.trans' kb3
      clear d0 d1 e0 e1 b0 b1 c0 c1 hq hr hk kb kb3 hs7 hq7 hr7 k7
      generalize hW8 : (w8.alloc (.cells #[.bool b6, .slice A6 n6 c6] 24)).alloc (.cells #[.bool b7, .slice A7 n7 c7] 24) = W8 at *
      have c0 := hs.c0
      have c1 := hs.c1
      have d0 := hs.tl.c0
      have d1 := hs.tl.c1
      have a0 := hs.tl.tl.c0
      have a1 := hs.tl.tl.c1
      have b0 := hs.tl.tl.tl.c0
      have b1 := hs.tl.tl.tl.c1
      have hSg := Lib.hid (sign_s (s := 0) hv.tl.h (by rw [← HZ0.out]; rfl))
      go_wp2_with fail
      clear hW8
      refine hSg.out.mono ?_
      rintro e w9 ⟨rfl, hk⟩
      replace hs := hs.below hk
      replace hv := hv.below hk
      replace k4 := k4.trans' hk
      clear hSg hk a0 a1 b0 b1 c0 c1 d0 d1
      have c0 := hs.c0
      have c1 := hs.c1
      have d0 := hs.tl.c0
      have d1 := hs.tl.c1
      have a0 := hs.tl.tl.c0
      have a1 := hs.tl.tl.c1
      have b0 := hs.tl.tl.tl.c0
      have b1 := hs.tl.tl.tl.c1
      have hSg := Lib.hid (sign_s (s := 0) hv.tl.tl.tl.h (by rw [← HZ0.out]; rfl))
      go_wp2_with fail
      refine hSg.out.mono ?_
      rintro e w10 ⟨rfl, hk⟩
      replace hs := hs.below hk
      replace hv := hv.below hk
      replace k4 := k4.trans' hk
      clear hSg hk a0 a1 b0 b1 c0 c1 d0 d1
      have c0 := hs.c0
      have c1 := hs.c1
      have d0 := hs.tl.c0
      have d1 := hs.tl.c1
      have a0 := hs.tl.tl.c0
      have a1 := hs.tl.tl.c1
      have b0 := hs.tl.tl.tl.c0
      have b1 := hs.tl.tl.tl.c1
      have hGG := Lib.hid (gives_eq (z' := 1) (gcd_num hv.h hv.tl.tl.h) (congrArg Int.ofNat T5.out))
      go_wp2_with fail
      refine hGG.out.mono ?_
      rintro e w11 ⟨G1, rfl, hp, hk⟩
      replace k4 := k4.trans' hk
      clear hGG hk a0 a1 b0 b1 c0 c1 d0 d1 hs hv
      go_wp2_with fail
      refine (of_num 1 (by omega) (by omega)).mono ?_
      rintro e w12 ⟨G2, rfl, hz, hk⟩
      replace k4 := k4.trans' hk
      go_wp2_with fail
      refine (same_num (hp.below hk) hz rfl (by omega)).mono ?_
      rintro e w13 ⟨rfl, hk⟩
      replace k4 := k4.trans' hk
      go_wp2
      go_ret
      exact ⟨rfl, k4⟩
end Go.Proofs.YthgbgoidnnfapaaDoor
