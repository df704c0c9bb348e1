/- The walk of the law IntegerOrder. -/
import Derived.Test.YthgbgoidnnfapaaDoorLawC
namespace Go.Proofs.YthgbgoidnnfapaaDoor
open Go.RowKit Go.Shelf

structure Three (w : World) (t : TypeId) (a b c : Nat) (x1 y1 x2 y2 x3 y3 : Value) : Prop where
  o1 : Own w a t [x1, y1]
  o2 : Own w b t [x2, y2]
  o3 : Own w c t [x3, y3]
section
variable {w w' : World} {t : TypeId} {a b c : Nat} {x1 y1 x2 y2 x3 y3 : Value}
theorem Three.below (h : Three w t a b c x1 y1 x2 y2 x3 y3) (hk : Keeps w w') : Three w' t a b c x1 y1 x2 y2 x3 y3 := ⟨h.o1.below hk, h.o2.below hk, h.o3.below hk⟩
theorem Three.drew (h : Three w t a b c x1 y1 x2 y2 x3 y3) : Three w.drew t a b c x1 y1 x2 y2 x3 y3 := ⟨h.o1, h.o2, h.o3⟩
theorem Three.cells (h : Three w t a b c x1 y1 x2 y2 x3 y3) :
    w.cell? ⟨a, 0, none⟩ = some x1 ∧ w.cell? ⟨a, 1, none⟩ = some y1 ∧ w.cell? ⟨b, 0, none⟩ = some x2 ∧ w.cell? ⟨b, 1, none⟩ = some y2 ∧ w.cell? ⟨c, 0, none⟩ = some x3 ∧ w.cell? ⟨c, 1, none⟩ = some y3 :=
  ⟨h.o1.c0, h.o1.c1, h.o2.c0, h.o2.c1, h.o3.c0, h.o3.c1⟩
structure Nums (w : World) (Va Vb Vc : Value) (x y z : Int) : Prop where
  a : IntNum w Va x
  b : IntNum w Vb y
  c : IntNum w Vc z
theorem Nums.below {Va Vb Vc : Value} {x y z : Int} (h : Nums w Va Vb Vc x y z) (hk : Keeps w w') : Nums w' Va Vb Vc x y z := ⟨h.a.below hk, h.b.below hk, h.c.below hk⟩
theorem Nums.drew {Va Vb Vc : Value} {x y z : Int} (h : Nums w Va Vb Vc x y z) : Nums w.drew Va Vb Vc x y z := ⟨h.a, h.b, h.c⟩
end
theorem sign_s {w : World} {V : Value} {x s : Int} (h : IntNum w V x) (e : x.sign = s) : Calls Tryd.prog 26 #[V] w fun e w' => e = .returned (.int .i64 s) ∧ Keeps w w' := by subst e; exact sign_num h
theorem compare_s {w : World} {V1 V2 : Value} {x y s : Int} (h1 : IntNum w V1 x) (h2 : IntNum w V2 y) (e : (x - y).sign = s) : Calls Tryd.prog 25 #[V1, V2] w fun e w' => e = .returned (.int .i64 s) ∧ Keeps w w' := by subst e; exact compare_num h1 h2
theorem rcompare_s {w : World} {V1 V2 : Value} {x y s : Int} (h1 : IntNum w V1 x) (h2 : IntNum w V2 y) (e : (x - y).sign = s) : Calls Tryd.prog 27 #[V1, V2] w fun e w' => e = .returned (.int .i64 s) ∧ Keeps w w' := by subst e; exact rcompare_num h1 h2
theorem sign_le (x : Int) : -1 ≤ x.sign ∧ x.sign ≤ 1 := by
  rcases Int.lt_trichotomy x 0 with h | h | h
  · rw [Int.sign_eq_neg_one_of_neg h]; omega
  · subst h; simp
  · rw [Int.sign_eq_one_of_pos h]; omega
theorem sign_flip (x y : Int) : (y - x).sign = -(x - y).sign := by rw [← Int.sign_neg]; congr 1; omega
theorem sign_trans (x y z : Int) (h1 : ¬ 0 < (x - y).sign) (h2 : ¬ 0 < (y - z).sign) : (x - z).sign ≤ 0 := by
  have g1 : x - y ≤ 0 := Int.not_lt.1 fun h => h1 (by rw [Int.sign_eq_one_of_pos h]; omega)
  have g2 : y - z ≤ 0 := Int.not_lt.1 fun h => h2 (by rw [Int.sign_eq_one_of_pos h]; omega)
  have g3 : x - z ≤ 0 := by omega
  rcases Int.lt_or_eq_of_le g3 with h | h
  · rw [Int.sign_eq_neg_one_of_neg h]; omega
  · rw [h]; simp

set_option maxRecDepth 100000 in
set_option maxHeartbeats 2000000 in
theorem order_walk (n1 n2 n3 : Bool) (xs ys zs : List Nat) (V1 V2 V3 : Value) (w : World) (hkn : ∀ W, Keeps w W → KnownAt W) (h1 : IntArg w V1 n1 xs) (h2 : IntArg w V2 n2 ys) (h3 : IntArg w V3 n3 zs)
    (hm1 : xs.length ≤ 9223372036854775807) (hm2 : ys.length ≤ 9223372036854775807) (hm3 : zs.length ≤ 9223372036854775807) :
    Calls Tryd.prog 5 #[V1, V2, V3] w fun e w' => e = .returned (.bool true) ∧ Keeps w w' := by
  obtain ⟨v1, rfl, hv1⟩ := h1
  obtain ⟨v2, rfl, hv2⟩ := h2
  obtain ⟨v3, rfl, hv3⟩ := h3
  have hkk := keep3 w (.cells #[.bool n1, v1] 24) (.cells #[.bool n2, v2] 24) (.cells #[.bool n3, v3] 24)
  have hC := own3 w (.cells #[.bool n1, v1] 24) (.cells #[.bool n2, v2] 24) 24 [.bool n3, v3]
  have hB := (own2 w (.cells #[.bool n1, v1] 24) 24 [.bool n2, v2]).alloc (.cells #[.bool n3, v3] 24)
  have hA := ((Own.new w 24 [.bool n1, v1]).alloc (.cells #[.bool n2, v2] 24)).alloc (.cells #[.bool n3, v3] 24)
  have hkn0 := Lib.hid (hkn _ hkk)
  clear hkn
  go_enter Tryd.func5, Tryd.ntmps5
  go_wp2_with fail
  have g1 := hv1.below hkk
  have g2 := hv2.below hkk
  have g3 := hv3.below hkk
  generalize ((w.alloc (.cells #[.bool n1, v1] 24)).alloc (.cells #[.bool n2, v2] 24)).alloc (.cells #[.bool n3, v3] 24) = W at *
  refine (hkn0.out).mono ?_
  rintro e w1 ⟨rfl, hk1⟩
  have hA1 := hA.below hk1
  have hB1 := hB.below hk1
  have hC1 := hC.below hk1
  have a0 := hA1.c0
  have a1 := hA1.c1
  have b0 := hB1.c0
  have b1 := hB1.c1
  have c0 := hC1.c0
  have c1 := hC1.c1
  have k1 := hkk.trans' hk1
  have g1 := g1.below hk1
  have g2 := g2.below hk1
  have g3 := g3.below hk1
  obtain ⟨A1, p1, q1, rfl, e1, -⟩ := g1.open_
  obtain ⟨A2, p2, q2, rfl, e2, -⟩ := g2.open_
  obtain ⟨A3, p3, q3, rfl, e3, -⟩ := g3.open_
  have hsh := Lib.hid (short3 n1 n2 n3 A1 A2 A3 p1 p2 p3 q1 q2 q3 _ _ (Own.new w1 24 [.bool n1, .slice A1 p1 q1, .bool n2, .slice A2 p2 q2, .bool n3, .slice A3 p3 q3]) (by omega) (by omega) (by omega))
  cases hS : shortB [p1, p2, p3] with
  | false =>
    rw [hS] at hsh
    clear hS e1 e2 e3
    go_wp2_with fail
    refine hsh.out.mono ?_
    rintro e w2 ⟨rfl, hk2⟩
    go_wp2
    go_ret
    exact ⟨rfl, (k1.trans' (box2 _ _)).trans' hk2⟩
  | true =>
    rw [hS] at hsh
    have hl1 : xs.length ≤ 12 := by simp [shortB] at hS; omega
    have hl2 : ys.length ≤ 12 := by simp [shortB] at hS; omega
    have hl3 : zs.length ≤ 12 := by simp [shortB] at hS; omega
    clear hS e1 e2 e3
    go_wp2_with fail
    refine hsh.out.mono ?_
    rintro e w2 ⟨rfl, hk2⟩
    have hk2' : Keeps w1 w2 := (box2 _ _).trans' hk2
    have hA2 := hA1.below hk2'
    have hB2 := hB1.below hk2'
    have hC2 := hC1.below hk2'
    have f1 := g1.below hk2'
    have f2 := g2.below hk2'
    have f3 := g3.below hk2'
    have k2 := k1.trans' hk2'
    clear a0 a1 b0 b1 c0 c1
    have a0 := hA2.c0
    have a1 := hA2.c1
    have b0 := hB2.c0
    have b1 := hB2.c1
    have c0 := hC2.c0
    have c1 := hC2.c1
    go_wp2_with fail
    have hs : Three w2 24 w.heap.size (w.heap.size + 1) (w.heap.size + 1 + 1) _ _ _ _ _ _ := ⟨hA2, hB2, hC2⟩
    have hv : Nums w2 (.agg #[.bool n1, .slice A1 p1 q1]) (.agg #[.bool n2, .slice A2 p2 q2]) (.agg #[.bool n3, .slice A3 p3 q3]) (cnt n1 xs) (cnt n2 ys) (cnt n3 zs) :=
      ⟨⟨_, _, ⟨_, rfl, f1⟩, rfl, by omega⟩, ⟨_, _, ⟨_, rfl, f2⟩, rfl, by omega⟩, ⟨_, _, ⟨_, rfl, f3⟩, rfl, by omega⟩⟩
    have ln1 := lenI_cnt n1 xs
    have ln2 := lenI_cnt n2 ys
    have ln3 := lenI_cnt n3 zs
    clear f1 f2 f3 hA2 hB2 hC2 hsh hA1 hB1 hC1 k1 hk1 hkk hkn0 hA hB hC g1 g2 g3 hv1 hv2 hv3 hk2 hk2'
    generalize cnt n1 xs = x at *
    generalize cnt n2 ys = y at *
    generalize cnt n3 zs = z at *
    have lx : lenI x ≤ 12 := by omega
    have ly : lenI y ≤ 12 := by omega
    have lz : lenI z ≤ 12 := by omega
    have lsb := lenI_sub x y
    have lxz := lenI_add x z
    have lyz := lenI_add y z
    clear ln1 ln2 ln3 hl1 hl2 hl3
    have g1 := sign_le (x - y)
    have e1 := sign_flip x y
    have e2 : (x + z - (y + z)).sign = (x - y).sign := by congr 1; omega
    have T := Lib.hid (sign_trans x y z)
    obtain ⟨s, hs0⟩ : ∃ s, (x - y).sign = s := ⟨_, rfl⟩
    rw [hs0] at g1 e1 e2 T
    have HS := Lib.hid hs0
    have H1 := Lib.hid e1
    have H2 := Lib.hid e2
    clear hs0 e1 e2
    have hC0 := Lib.hid (compare_s hv.a hv.b HS.out)
    have e3 : IntKind.i64.wrap s = s := IntWalk.i64_in _ (by omega)
    have e4 : (s != s) = false := by simp
    go_wp2_with fail
    refine hC0.out.mono ?_
    rintro e w3 ⟨rfl, hk3⟩
    clear hC0
    have k4 := k2.trans' hk3
    replace hs := (hs.below hk3).drew
    replace hv := (hv.below hk3).drew
    replace k4 : Keeps w w3.drew := Below.drew k4
    clear a0 a1 b0 b1 c0 c1 k2 hk3
    go_wp2_with fail
    go_region_held3 (fun w' => w'.cell? ⟨w.heap.size, 0, none⟩ = some (.bool n1) ∧ w'.cell? ⟨w.heap.size, 1, none⟩ = some (.slice A1 p1 q1) ∧ w'.cell? ⟨w.heap.size + 1, 0, none⟩ = some (.bool n2) ∧ w'.cell? ⟨w.heap.size + 1, 1, none⟩ = some (.slice A2 p2 q2) ∧ w'.cell? ⟨w.heap.size + 1 + 1, 0, none⟩ = some (.bool n3) ∧ w'.cell? ⟨w.heap.size + 1 + 1, 1, none⟩ = some (.slice A3 p3 q3))
      (exact hs.cells)
      (first
        | (go_at_call 19; refine (sub_num hv.a hv.b).mono ?_; rintro e W5 ⟨U22, rfl, hr, hk⟩; replace hs := hs.below hk; replace hv := hv.below hk; replace k4 := k4.trans' hk)
        | (go_at_call 26; refine (sign_s (hr.num (by omega)) HS.out).mono ?_; rintro e W5 ⟨rfl, hk⟩; replace hs := hs.below hk; replace hv := hv.below hk; replace k4 := k4.trans' hk)
        | (go_at_call 27; refine (rcompare_s hv.a hv.b HS.out).mono ?_; rintro e W5 ⟨rfl, hk⟩; replace hs := hs.below hk; replace hv := hv.below hk; replace k4 := k4.trans' hk)
        | (go_at_call_of 18 (Value.slice A1 p1 q1); refine (add_num hv.a hv.c).mono ?_; rintro e W5 ⟨U44, rfl, hp, hk⟩; replace hs := hs.below hk; replace hv := hv.below hk; replace k4 := k4.trans' hk)
        | (go_at_call_of 18 (Value.slice A2 p2 q2); refine (add_num hv.b hv.c).mono ?_; rintro e W5 ⟨U47, rfl, hr, hk⟩; replace hs := hs.below hk; replace hv := hv.below hk; replace k4 := k4.trans' hk; replace hp := hp.below hk)
        | (go_at_call_of 25 U44; refine (compare_s (hp.num (by omega)) (hr.num (by omega)) H2.out).mono ?_; rintro e W5 ⟨rfl, hk⟩; replace hs := hs.below hk; replace hv := hv.below hk; replace k4 := k4.trans' hk)
        | (go_at_call 25; refine (compare_s hv.b hv.a H1.out).mono ?_; rintro e W5 ⟨rfl, hk⟩; replace hs := hs.below hk; replace hv := hv.below hk; replace k4 := k4.trans' hk))
    clear hr hp hk
    obtain ⟨a0, a1, b0, b1, c0, c1⟩ := hs.cells
    by_cases h0 : 0 < s
    · have hd0 : decide (0 < s) = true := decide_eq_true h0
      go_wp2
      go_ret
      exact ⟨rfl, k4⟩
    · have hd0 : decide (0 < s) = false := decide_eq_false h0
      obtain ⟨t, ht⟩ : ∃ t, (y - z).sign = t := ⟨_, rfl⟩
      have hC1 := Lib.hid (compare_s hv.b hv.c ht)
      rw [ht] at T
      clear ht
      by_cases h1 : 0 < t
      · have hd1 : decide (0 < t) = true := decide_eq_true h1
        go_wp2_with fail
        refine hC1.out.mono ?_
        rintro e w4 ⟨rfl, hk⟩
        replace k4 := k4.trans' hk
        go_wp2
        go_ret
        exact ⟨rfl, k4⟩
      · have hd1 : decide (0 < t) = false := decide_eq_false h1
        have hfin := T.out (by omega) (by omega)
        obtain ⟨u, hu⟩ : ∃ u, (x - z).sign = u := ⟨_, rfl⟩
        rw [hu] at hfin
        have HU := Lib.hid hu
        clear hu
        have hd2 : decide (u ≤ 0) = true := decide_eq_true hfin
        go_wp2_with fail
        refine hC1.out.mono ?_
        rintro e w4 ⟨rfl, hk⟩
        clear hC1
        replace hs := hs.below hk
        replace hv := hv.below hk
        replace k4 := k4.trans' hk
        clear a0 a1 b0 b1 c0 c1 hk
        obtain ⟨a0, a1, b0, b1, c0, c1⟩ := hs.cells
        have hC2 := Lib.hid (compare_s hv.a hv.c HU.out)
        go_wp2_with fail
        refine hC2.out.mono ?_
        rintro e w5 ⟨rfl, hk⟩
        replace k4 := k4.trans' hk
        go_wp2
        go_ret
        exact ⟨rfl, k4⟩
end Go.Proofs.YthgbgoidnnfapaaDoor
