/- The walk of the law IntegerDivides. -/
import Derived.Test.YthgbgoidnnfapaaDoorLawC
import Derived.Test.YthgbgoidnnfapaaDoorRDivide
import Derived.Test.YthgbgoidnnfapaaDoorPhi
namespace Go.Proofs.YthgbgoidnnfapaaDoor
open Go.RowKit Go.Shelf

theorem div_facts_pos (x y q r : Int) (hy : 0 < y) (e : q * y + r = x) (h0 : 0 ≤ r) (h1 : r < y) : q.natAbs ≤ x.natAbs := by
  rcases Int.lt_or_le q 0 with hq | hq
  · have : (q + 1) * y ≤ (q + 1) * 1 := Int.mul_le_mul_of_nonpos_left (by omega) (by omega)
    rw [Int.add_mul] at this
    omega
  · have : q * 1 ≤ q * y := Int.mul_le_mul_of_nonneg_left (by omega) hq
    omega
theorem div_facts (x y : Int) (hy : y ≠ 0) : x.fdiv y * y + x.fmod y = x ∧ ((x.fmod y).sign = 0 ∨ (x.fmod y).sign = y.sign) ∧ (((x.fmod y).natAbs : Int) - y.natAbs).sign = -1 ∧ (x.fdiv y).natAbs ≤ x.natAbs ∧ (x.fmod y).natAbs ≤ y.natAbs := by
  have e : x.fdiv y * y + x.fmod y = x := by rw [Int.fmod_def, Int.mul_comm]; omega
  refine ⟨e, ?_⟩
  rcases Int.lt_or_gt_of_ne hy with h | h
  · have e2 := Int.neg_fmod_neg x y
    have e3 := Int.neg_fdiv_neg x y
    have h0 := Int.fmod_nonneg_of_pos (-x) (show 0 < -y by omega)
    have h1 := Int.fmod_lt_of_pos (-x) (show 0 < -y by omega)
    generalize x.fmod y = r at *
    generalize x.fdiv y = q at *
    rw [e2] at h0 h1
    have h4 := div_facts_pos (-x) (-y) q (-r) (by omega) (by rw [Int.mul_neg]; omega) h0 h1
    refine ⟨?_, ?_, by omega, by omega⟩
    · rcases Int.lt_or_eq_of_le h0 with g | g
      · exact .inr (by rw [Int.sign_eq_neg_one_of_neg (by omega), Int.sign_eq_neg_one_of_neg h])
      · exact .inl (by rw [show r = 0 by omega]; rfl)
    · exact Int.sign_eq_neg_one_of_neg (by omega)
  · have h0 := Int.fmod_nonneg_of_pos x h
    have h1 := Int.fmod_lt_of_pos x h
    generalize x.fmod y = r at *
    generalize x.fdiv y = q at *
    have h4 := div_facts_pos x y q r (by omega) e h0 h1
    refine ⟨?_, ?_, h4, by omega⟩
    · rcases Int.lt_or_eq_of_le h0 with g | g
      · exact .inr (by rw [Int.sign_eq_one_of_pos g, Int.sign_eq_one_of_pos h])
      · exact .inl (by rw [← g]; rfl)
    · exact Int.sign_eq_neg_one_of_neg (by omega)

structure Six (w : World) (t : TypeId) (a b d1 d2 d3 d4 : Nat) (x1 y1 x2 y2 x3 y3 x4 y4 x5 y5 x6 y6 : Value) : Prop where
  o1 : Own w a t [x1, y1]
  o2 : Own w b t [x2, y2]
  o3 : Own w d1 t [x3, y3]
  o4 : Own w d2 t [x4, y4]
  o5 : Own w d3 t [x5, y5]
  o6 : Own w d4 t [x6, y6]
section
variable {w w' : World} {t : TypeId} {a b d1 d2 d3 d4 : Nat} {x1 y1 x2 y2 x3 y3 x4 y4 x5 y5 x6 y6 : Value}
theorem Six.below (h : Six w t a b d1 d2 d3 d4 x1 y1 x2 y2 x3 y3 x4 y4 x5 y5 x6 y6) (hk : Keeps w w') : Six w' t a b d1 d2 d3 d4 x1 y1 x2 y2 x3 y3 x4 y4 x5 y5 x6 y6 :=
  ⟨h.o1.below hk, h.o2.below hk, h.o3.below hk, h.o4.below hk, h.o5.below hk, h.o6.below hk⟩
theorem Six.drew (h : Six w t a b d1 d2 d3 d4 x1 y1 x2 y2 x3 y3 x4 y4 x5 y5 x6 y6) : Six w.drew t a b d1 d2 d3 d4 x1 y1 x2 y2 x3 y3 x4 y4 x5 y5 x6 y6 := ⟨h.o1, h.o2, h.o3, h.o4, h.o5, h.o6⟩
/-- the cells that the last region loads -/
theorem Six.cells (h : Six w t a b d1 d2 d3 d4 x1 y1 x2 y2 x3 y3 x4 y4 x5 y5 x6 y6) :
    w.cell? ⟨a, 0, none⟩ = some x1 ∧ w.cell? ⟨a, 1, none⟩ = some y1 ∧ w.cell? ⟨b, 0, none⟩ = some x2 ∧ w.cell? ⟨b, 1, none⟩ = some y2 ∧ w.cell? ⟨d1, 0, none⟩ = some x3 ∧ w.cell? ⟨d1, 1, none⟩ = some y3 ∧
    w.cell? ⟨d2, 0, none⟩ = some x4 ∧ w.cell? ⟨d2, 1, none⟩ = some y4 :=
  ⟨h.o1.c0, h.o1.c1, h.o2.c0, h.o2.c1, h.o3.c0, h.o3.c1, h.o4.c0, h.o4.c1⟩
end
theorem Six.all {w : World} {t : TypeId} {a b d1 d2 d3 d4 : Nat} {x1 y1 x2 y2 x3 y3 x4 y4 x5 y5 x6 y6 : Value} (h : Six w t a b d1 d2 d3 d4 x1 y1 x2 y2 x3 y3 x4 y4 x5 y5 x6 y6) :
    w.cell? ⟨a, 0, none⟩ = some x1 ∧ w.cell? ⟨a, 1, none⟩ = some y1 ∧ w.cell? ⟨b, 0, none⟩ = some x2 ∧ w.cell? ⟨b, 1, none⟩ = some y2 ∧ w.cell? ⟨d1, 0, none⟩ = some x3 ∧ w.cell? ⟨d1, 1, none⟩ = some y3 ∧
    w.cell? ⟨d2, 0, none⟩ = some x4 ∧ w.cell? ⟨d2, 1, none⟩ = some y4 ∧ w.cell? ⟨d3, 0, none⟩ = some x5 ∧ w.cell? ⟨d3, 1, none⟩ = some y5 ∧ w.cell? ⟨d4, 0, none⟩ = some x6 ∧ w.cell? ⟨d4, 1, none⟩ = some y6 :=
  ⟨h.o1.c0, h.o1.c1, h.o2.c0, h.o2.c1, h.o3.c0, h.o3.c1, h.o4.c0, h.o4.c1, h.o5.c0, h.o5.c1, h.o6.c0, h.o6.c1⟩
structure DivVals (w : World) (Vx Vy Vq Vr Va Vb : Value) (zx zy zq zr : Int) : Prop where
  x : IntNum w Vx zx
  y : IntNum w Vy zy
  q : IntRep w Vq zq
  r : IntRep w Vr zr
  a : IntRep w Va zq
  b : IntRep w Vb zr
theorem DivVals.below {w w' : World} {Vx Vy Vq Vr Va Vb : Value} {x y q r : Int} (h : DivVals w Vx Vy Vq Vr Va Vb x y q r) (hk : Keeps w w') : DivVals w' Vx Vy Vq Vr Va Vb x y q r :=
  ⟨h.x.below hk, h.y.below hk, h.q.below hk, h.r.below hk, h.a.below hk, h.b.below hk⟩
theorem DivVals.drew {w : World} {Vx Vy Vq Vr Va Vb : Value} {x y q r : Int} (h : DivVals w Vx Vy Vq Vr Va Vb x y q r) : DivVals w.drew Vx Vy Vq Vr Va Vb x y q r := ⟨h.x, h.y, h.q, h.r, h.a, h.b⟩

theorem sign_s {w : World} {V : Value} {x s : Int} (h : IntNum w V x) (e : x.sign = s) : Calls Tryd.prog 26 #[V] w fun e w' => e = .returned (.int .i64 s) ∧ Keeps w w' := by subst e; exact sign_num h
theorem rsign_s {w : World} {V : Value} {x s : Int} (h : IntNum w V x) (e : x.sign = s) : Calls Tryd.prog 30 #[V] w fun e w' => e = .returned (.int .i64 s) ∧ Keeps w w' := by subst e; exact rsign_num h
theorem compare_s {w : World} {V1 V2 : Value} {x y s : Int} (h1 : IntNum w V1 x) (h2 : IntNum w V2 y) (e : (x - y).sign = s) : Calls Tryd.prog 25 #[V1, V2] w fun e w' => e = .returned (.int .i64 s) ∧ Keeps w w' := by subst e; exact compare_num h1 h2
theorem lenI_abs (x : Int) : lenI (x.natAbs : Int) = lenI x := by unfold lenI; rw [Int.natAbs_natCast]
theorem lenI_mono {x y : Int} (h : x.natAbs ≤ y.natAbs) : lenI x ≤ lenI y := dig_length_mono h
theorem gives_eq {P : Program} {F : FuncId} {args : Array Value} {w : World} {z z' : Int} (h : Calls P F args w (Gives z w)) (e : z = z') : Calls P F args w (Gives z' w) := by subst e; exact h
/-- what both divisions hand back -/
def DivGives (x y c : Int) (w : World) (e : Ending) (w' : World) : Prop := ∃ Q R, e = .returned (.tuple #[Q, R, .int .i64 c]) ∧ IntRep w' Q (divQ x y) ∧ IntRep w' R (divR x y) ∧ Keeps w w'
theorem divide_num {w : World} {V1 V2 : Value} {x y c : Int} (h1 : IntNum w V1 x) (h2 : IntNum w V2 y) (hc : divC y = c) : Calls Tryd.prog 38 #[V1, V2] w (DivGives x y c w) := by
  obtain ⟨n1, xs, h1, rfl, l1⟩ := h1
  obtain ⟨n2, ys, h2, rfl, l2⟩ := h2
  subst hc
  exact divide_any n1 n2 xs ys V1 V2 w h1 h2 (by omega) (by omega)
theorem rdivide_c {w : World} {V1 V2 : Value} {n1 n2 : Bool} {xs ys : List Nat} {c : Int} (h1 : IntArg w V1 n1 xs) (h2 : IntArg w V2 n2 ys) (l1 : xs.length ≤ 12) (l2 : ys.length ≤ 12) (hc : divC (cnt n2 ys) = c) : Calls Tryd.prog 39 #[V1, V2] w (DivGives (cnt n1 xs) (cnt n2 ys) c w) := by
  subst hc
  exact rdivide_any n1 n2 xs ys V1 V2 w h1 h2 (by omega) (by omega)

def dv0Φ (x y q r : Int) (Vx Vy Vq Vr : Value) : Nat → Value → World → Prop
  | 0, v, _ => v = Vq
  | 1, v, _ => v = Vy
  | 2, v, w => IntRep w v (q * y)
  | 3, v, _ => v = Vr
  | 4, v, w => IntRep w v (x)
  | 5, v, _ => v = Vx
  | 6, v, w => IntRep w v (x)
  | 7, v, _ => v = .bool true
  | 8, v, _ => v = .bool true
  | 9, v, _ => v = .int .i64 0
  | 10, v, _ => v = .bool true
  | 11, v, _ => v = .bool true
  | 12, v, _ => v = undef
  | 13, v, _ => v = undef
  | 14, v, _ => v = undef
  | 15, v, _ => v = undef
  | 16, v, _ => v = .bool true
  | 17, v, _ => v = .bool true
  | 18, v, _ => v = .bool true
  | 19, v, _ => v = Vr
  | 20, v, w => IntRep w v (r.natAbs)
  | 21, v, _ => v = Vy
  | 22, v, w => IntRep w v (y.natAbs)
  | 23, v, _ => v = .int .i64 (-1)
  | 24, v, _ => v = .bool true
  | 25, v, _ => v = .bool true
  | _, _, _ => True
set_option maxRecDepth 100000 in
set_option maxHeartbeats 4000000 in
theorem divides_walk (n1 n2 : Bool) (xs ys : List Nat) (V1 V2 : Value) (w : World) (hkn : ∀ W, Keeps w W → KnownAt W) (h1 : IntArg w V1 n1 xs) (h2 : IntArg w V2 n2 ys)
    (hm1 : xs.length ≤ 9223372036854775807) (hm2 : ys.length ≤ 9223372036854775807) :
    Calls Tryd.prog 7 #[V1, V2] w fun e w' => e = .returned (.bool true) ∧ Keeps w w' := by
  obtain ⟨v1, rfl, hv1⟩ := h1
  obtain ⟨v2, rfl, hv2⟩ := h2
  have hkk := keep2 w (.cells #[.bool n1, v1] 24) (.cells #[.bool n2, v2] 24)
  have hB := own2 w (.cells #[.bool n1, v1] 24) 24 [.bool n2, v2]
  have hA := (Own.new w 24 [.bool n1, v1]).alloc (.cells #[.bool n2, v2] 24)
  have hkn0 := Lib.hid (hkn _ hkk)
  clear hkn
  go_enter Tryd.func7, Tryd.ntmps7
  go_wp2_with fail
  have g1 := hv1.below hkk
  have g2 := hv2.below hkk
  generalize (w.alloc (.cells #[.bool n1, v1] 24)).alloc (.cells #[.bool n2, v2] 24) = W at *
  refine (hkn0.out).mono ?_
  rintro e w1 ⟨rfl, hk1⟩
  have hA1 := hA.below hk1
  have hB1 := hB.below hk1
  have a0 := hA1.c0
  have a1 := hA1.c1
  have b0 := hB1.c0
  have b1 := hB1.c1
  have k1 := hkk.trans' hk1
  have g1 := g1.below hk1
  have g2 := g2.below hk1
  obtain ⟨A1, p1, q1, rfl, e1, -⟩ := g1.open_
  obtain ⟨A2, p2, q2, rfl, e2, -⟩ := g2.open_
  have hsh := Lib.hid (short2 n1 n2 A1 A2 p1 p2 q1 q2 _ _ (Own.new w1 24 [.bool n1, .slice A1 p1 q1, .bool n2, .slice A2 p2 q2]) (by omega) (by omega))
  cases hS : shortB [p1, p2] with
  | false =>
    rw [hS] at hsh
    clear hS e1 e2
    go_wp2_with fail
    refine hsh.out.mono ?_
    rintro e w2 ⟨rfl, hk2⟩
    go_wp2
    go_ret
    exact ⟨rfl, (k1.trans' (box2 _ _)).trans' hk2⟩
  | true =>
    rw [hS] at hsh
    have hl1 : xs.length ≤ 12 := by simp [shortB] at hS; omega
    have hl2 : ys.length ≤ 12 := by simp [shortB] at hS; omega
    clear hS e1 e2
    go_wp2_with fail
    refine hsh.out.mono ?_
    rintro e w2 ⟨rfl, hk2⟩
    have hk2' : Keeps w1 w2 := (box2 _ _).trans' hk2
    have hA2 := hA1.below hk2'
    have hB2 := hB1.below hk2'
    have f1 := g1.below hk2'
    have f2 := g2.below hk2'
    have k2 := k1.trans' hk2'
    clear a0 a1 b0 b1
    have a0 := hA2.c0
    have a1 := hA2.c1
    have b0 := hB2.c0
    have b1 := hB2.c1
    have hvx : IntNum w2 (.agg #[.bool n1, .slice A1 p1 q1]) (cnt n1 xs) := ⟨_, _, ⟨_, rfl, f1⟩, rfl, by omega⟩
    have hvy : IntNum w2 (.agg #[.bool n2, .slice A2 p2 q2]) (cnt n2 ys) := ⟨_, _, ⟨_, rfl, f2⟩, rfl, by omega⟩
    have ln1 := lenI_cnt n1 xs
    have ln2 := lenI_cnt n2 ys
    have hrd := Lib.hid (fun c (hc : divC (cnt n2 ys) = c) W (k : Keeps w2 W) => rdivide_c (V1 := .agg #[.bool n1, .slice A1 p1 q1]) (V2 := .agg #[.bool n2, .slice A2 p2 q2]) (c := c) (w := W) ⟨_, rfl, f1.below k⟩ ⟨_, rfl, f2.below k⟩ hl1 hl2 hc)
    clear f1 f2 hsh hA1 hB1 k1 hk1 hkk hkn0 hA hB g1 g2 hv1 hv2 hk2 hk2' hm1 hm2
    generalize cnt n1 xs = x at *
    generalize cnt n2 ys = y at *
    have lx : lenI x ≤ 12 := by omega
    have ly : lenI y ≤ 12 := by omega
    clear ln1 ln2 hl1 hl2
    have hD := Lib.hid (fun c (hc : divC y = c) => divide_num hvx hvy hc)
    obtain ⟨q, hq0⟩ : ∃ q, divQ x y = q := ⟨_, rfl⟩
    obtain ⟨r, hr0⟩ : ∃ r, divR x y = r := ⟨_, rfl⟩
    have HQ := Lib.hid hq0
    have HR := Lib.hid hr0
    clear hq0 hr0
    by_cases hy : y = 0
    · have HC := Lib.hid (show divC y = 14 from if_pos hy)
      have lq : lenI q = 0 := by rw [← HQ.out, show divQ x y = 0 from if_pos hy]; simp [lenI, dig_zero]
      have lr : lenI r = 0 := by rw [← HR.out, show divR x y = 0 from if_pos hy]; simp [lenI, dig_zero]
      have HY := Lib.hid hy
      clear hy
      replace hD := Lib.hid (hD.out 14 HC.out)
      replace hrd := Lib.hid (hrd.out 14 HC.out)
      unfold DivGives at hD hrd
      go_wp2_with fail
      refine hD.out.mono ?_
      rintro e w3 ⟨Q, R, rfl, hq, hr, hk3⟩
      clear hD
      rw [HQ.out] at hq
      rw [HR.out] at hr
      obtain ⟨A3, n3, c3, rfl, -⟩ := hq.open_
      obtain ⟨A4, n4, c4, rfl, -⟩ := hr.open_
      generalize decide (q < 0) = bq at *
      generalize decide (r < 0) = br at *
      have kb := keep2 w3 (.cells #[.bool bq, .slice A3 n3 c3] 24) (.cells #[.bool br, .slice A4 n4 c4] 24)
      have kb3 := hk3.trans' kb
      have hA3 := hA2.below kb3
      have hB3 := hB2.below kb3
      have hC3 := (Own.new w3 24 [.bool bq, .slice A3 n3 c3]).alloc (.cells #[.bool br, .slice A4 n4 c4] 24)
      have hD3 := own2 w3 (.cells #[.bool bq, .slice A3 n3 c3] 24) 24 [.bool br, .slice A4 n4 c4]
      have hq3 := hq.below kb
      have hr3 := hr.below kb
      have hx3 := hvx.below kb3
      have hy3 := hvy.below kb3
      have k3 := k2.trans' kb3
      have hE := Lib.hid (hrd.out _ kb3)
      clear a0 a1 b0 b1 hq hr kb hk3 hrd kb3
      have a0 := hA3.c0
      have a1 := hA3.c1
      have b0 := hB3.c0
      have b1 := hB3.c1
      generalize hW3 : (w3.alloc (.cells #[.bool bq, .slice A3 n3 c3] 24)).alloc (.cells #[.bool br, .slice A4 n4 c4] 24) = W3 at *
      go_wp2_with fail
      refine hE.out.mono ?_
      rintro e w4 ⟨Qa, Ra, rfl, hq, hr, hk⟩
      clear hE hW3
      rw [HQ.out] at hq
      rw [HR.out] at hr
      obtain ⟨A5, n5, c5, rfl, -⟩ := hq.open_
      obtain ⟨A6, n6, c6, rfl, -⟩ := hr.open_
      generalize decide (q < 0) = bq2 at *
      generalize decide (r < 0) = br2 at *
      have kb := keep2 w4 (.cells #[.bool bq2, .slice A5 n5 c5] 24) (.cells #[.bool br2, .slice A6 n6 c6] 24)
      have kb3 := hk.trans' kb
      have hs : Six _ 24 w.heap.size (w.heap.size + 1) w3.heap.size (w3.heap.size + 1) w4.heap.size (w4.heap.size + 1) _ _ _ _ _ _ _ _ _ _ _ _ := ⟨hA3.below kb3, hB3.below kb3, hC3.below kb3, hD3.below kb3, (Own.new w4 24 [.bool bq2, .slice A5 n5 c5]).alloc (.cells #[.bool br2, .slice A6 n6 c6] 24), own2 w4 (.cells #[.bool bq2, .slice A5 n5 c5] 24) 24 [.bool br2, .slice A6 n6 c6]⟩
      have hv : DivVals _ _ _ _ _ _ _ x y q r := ⟨hx3.below kb3, hy3.below kb3, hq3.below kb3, hr3.below kb3, hq.below kb, hr.below kb⟩
      have k4 := k3.trans' kb3
      clear hA3 hB3 hC3 hD3 hx3 hy3 hq3 hr3 hq hr kb kb3 a0 a1 b0 b1 k3 hk
      generalize hW4 : (w4.alloc (.cells #[.bool bq2, .slice A5 n5 c5] 24)).alloc (.cells #[.bool br2, .slice A6 n6 c6] 24) = W4 at *
      obtain ⟨a0, a1, b0, b1, c0, c1, d0, d1, e0, e1, f0, f1⟩ := hs.all
      have hM := Lib.hid (same_num hv.q hv.a rfl (by omega))
      go_wp2_with fail
      clear hW4
      refine hM.out.mono ?_
      rintro e w5 ⟨rfl, hk⟩
      replace hs := hs.below hk
      replace hv := hv.below hk
      replace k4 := k4.trans' hk
      clear hM a0 a1 b0 b1 c0 c1 d0 d1 e0 e1 f0 f1 hk
      obtain ⟨a0, a1, b0, b1, c0, c1, d0, d1, e0, e1, f0, f1⟩ := hs.all
      have hM := Lib.hid (same_num hv.r hv.b rfl (by omega))
      go_wp2_with fail
      refine hM.out.mono ?_
      rintro e w6 ⟨rfl, hk⟩
      replace hs := hs.below hk
      replace hv := hv.below hk
      replace k4 := k4.trans' hk
      clear hM a0 a1 b0 b1 c0 c1 d0 d1 e0 e1 f0 f1 hk
      obtain ⟨a0, a1, b0, b1, c0, c1, d0, d1, e0, e1, f0, f1⟩ := hs.all
      have hS0 := Lib.hid (rsign_s hv.y (s := 0) (by rw [HY.out]; rfl))
      go_wp2_with fail
      refine hS0.out.mono ?_
      rintro e w7 ⟨rfl, hk⟩
      replace k4 := k4.trans' hk
      go_wp2
      go_ret
      exact ⟨rfl, k4⟩
    · have HC := Lib.hid (show divC y = 0 from if_neg hy)
      obtain ⟨t1, t2, t3, t4, t5⟩ := div_facts x y hy
      rw [show x.fdiv y = q by rw [← HQ.out]; exact (if_neg hy).symm, show x.fmod y = r by rw [← HR.out]; exact (if_neg hy).symm] at *
      have lq : lenI q ≤ 12 := Nat.le_trans (lenI_mono t4) lx
      have lr : lenI r ≤ 12 := Nat.le_trans (lenI_mono t5) ly
      have lm := lenI_mul q y
      have la := lenI_abs r
      have lb := lenI_abs y
      obtain ⟨s, hs0⟩ : ∃ s, r.sign = s := ⟨_, rfl⟩
      rw [hs0] at t2
      have HS := Lib.hid hs0
      have HX := Lib.hid t1
      have HT := Lib.hid t3
      clear hs0 hy t1 t3 t4 t5
      have T2 := Lib.hid t2
      clear t2
      replace hD := Lib.hid (hD.out 0 HC.out)
      replace hrd := Lib.hid (hrd.out 0 HC.out)
      unfold DivGives at hD hrd
      go_wp2_with fail
      refine hD.out.mono ?_
      rintro e w3 ⟨Q, R, rfl, hq, hr, hk3⟩
      clear hD
      rw [HQ.out] at hq
      rw [HR.out] at hr
      obtain ⟨A3, n3, c3, rfl, -⟩ := hq.open_
      obtain ⟨A4, n4, c4, rfl, -⟩ := hr.open_
      generalize decide (q < 0) = bq at *
      generalize decide (r < 0) = br at *
      have kb := keep2 w3 (.cells #[.bool bq, .slice A3 n3 c3] 24) (.cells #[.bool br, .slice A4 n4 c4] 24)
      have kb3 := hk3.trans' kb
      have hA3 := hA2.below kb3
      have hB3 := hB2.below kb3
      have hC3 := (Own.new w3 24 [.bool bq, .slice A3 n3 c3]).alloc (.cells #[.bool br, .slice A4 n4 c4] 24)
      have hD3 := own2 w3 (.cells #[.bool bq, .slice A3 n3 c3] 24) 24 [.bool br, .slice A4 n4 c4]
      have hq3 := hq.below kb
      have hr3 := hr.below kb
      have hx3 := hvx.below kb3
      have hy3 := hvy.below kb3
      have k3 := k2.trans' kb3
      have hE := Lib.hid (hrd.out _ kb3)
      clear a0 a1 b0 b1 hq hr kb hk3 hrd kb3
      have a0 := hA3.c0
      have a1 := hA3.c1
      have b0 := hB3.c0
      have b1 := hB3.c1
      generalize hW3 : (w3.alloc (.cells #[.bool bq, .slice A3 n3 c3] 24)).alloc (.cells #[.bool br, .slice A4 n4 c4] 24) = W3 at *
      go_wp2_with fail
      refine hE.out.mono ?_
      rintro e w4 ⟨Qa, Ra, rfl, hq, hr, hk⟩
      clear hE hW3
      rw [HQ.out] at hq
      rw [HR.out] at hr
      obtain ⟨A5, n5, c5, rfl, -⟩ := hq.open_
      obtain ⟨A6, n6, c6, rfl, -⟩ := hr.open_
      generalize decide (q < 0) = bq2 at *
      generalize decide (r < 0) = br2 at *
      have kb := keep2 w4 (.cells #[.bool bq2, .slice A5 n5 c5] 24) (.cells #[.bool br2, .slice A6 n6 c6] 24)
      have kb3 := hk.trans' kb
      have hs : Six _ 24 w.heap.size (w.heap.size + 1) w3.heap.size (w3.heap.size + 1) w4.heap.size (w4.heap.size + 1) _ _ _ _ _ _ _ _ _ _ _ _ := ⟨hA3.below kb3, hB3.below kb3, hC3.below kb3, hD3.below kb3, (Own.new w4 24 [.bool bq2, .slice A5 n5 c5]).alloc (.cells #[.bool br2, .slice A6 n6 c6] 24), own2 w4 (.cells #[.bool bq2, .slice A5 n5 c5] 24) 24 [.bool br2, .slice A6 n6 c6]⟩
      have hv : DivVals _ _ _ _ _ _ _ x y q r := ⟨hx3.below kb3, hy3.below kb3, hq3.below kb3, hr3.below kb3, hq.below kb, hr.below kb⟩
      have k4 := k3.trans' kb3
      clear hA3 hB3 hC3 hD3 hx3 hy3 hq3 hr3 hq hr kb kb3 a0 a1 b0 b1 k3 hk
      generalize hW4 : (w4.alloc (.cells #[.bool bq2, .slice A5 n5 c5] 24)).alloc (.cells #[.bool br2, .slice A6 n6 c6] 24) = W4 at *
      obtain ⟨a0, a1, b0, b1, c0, c1, d0, d1, e0, e1, f0, f1⟩ := hs.all
      have hM := Lib.hid (same_num hv.q hv.a rfl (by omega))
      go_wp2_with fail
      clear hW4
      refine hM.out.mono ?_
      rintro e w5 ⟨rfl, hk⟩
      replace hs := hs.below hk
      replace hv := hv.below hk
      replace k4 := k4.trans' hk
      clear hM a0 a1 b0 b1 c0 c1 d0 d1 e0 e1 f0 f1 hk
      obtain ⟨a0, a1, b0, b1, c0, c1, d0, d1, e0, e1, f0, f1⟩ := hs.all
      have hM := Lib.hid (same_num hv.r hv.b rfl (by omega))
      go_wp2_with fail
      refine hM.out.mono ?_
      rintro e w6 ⟨rfl, hk⟩
      replace hs := hs.below hk
      replace hv := hv.below hk
      replace k4 := k4.trans' hk
      clear hM a0 a1 b0 b1 c0 c1 d0 d1 e0 e1 f0 f1 hk
      obtain ⟨a0, a1, b0, b1, c0, c1, d0, d1, e0, e1, f0, f1⟩ := hs.all
      have hS0 := Lib.hid (sign_s (hv.r.num (by omega)) HS.out)
      go_wp2_with fail
      refine hS0.out.mono ?_
      rintro e w7 ⟨rfl, hk⟩
      replace hs := hs.below hk
      replace hv := hv.below hk
      replace k4 := k4.trans' hk
      clear hS0 hk a0 a1 b0 b1 c0 c1 d0 d1 e0 e1 f0 f1
      replace hs := hs.drew
      replace hv := hv.drew
      replace k4 : Keeps w _ := Below.drew k4
      by_cases h0 : s = 0
      · subst h0
        go_wp2_with fail
        refine wp_region_steps (m := 26) rfl (by kernel_rfl) (dv0Φ x y q r (.agg #[.bool n1, .slice A1 p1 q1]) (.agg #[.bool n2, .slice A2 p2 q2]) (.agg #[.bool bq, .slice A3 n3 c3]) (.agg #[.bool br, .slice A4 n4 c4])) [] ?_ ?_ ?_
        · intro i v w w' hi h hk
          match i, hi with
          | 0, _ | 1, _ | 3, _ | 5, _ | 7, _ | 8, _ | 9, _ | 10, _ | 11, _ | 12, _ | 13, _ | 14, _ | 15, _ | 16, _ | 17, _ | 18, _ | 19, _ | 21, _ | 23, _ | 24, _ | 25, _ => exact h
          | 2, _ => exact IntRep.below h hk
          | 4, _ => exact IntRep.below h hk
          | 6, _ => exact IntRep.below h hk
          | 20, _ => exact IntRep.below h hk
          | 22, _ => exact IntRep.below h hk
          | i + 26, hi => exact absurd hi (by omega)
        · intro i hi vs w3 hk3 hd
          have hs3 := hs.below hk3
          have hv3 := hv.below hk3
          obtain ⟨a0, a1, b0, b1, c0, c1, d0, d1⟩ := hs3.cells
          match i, hi with
          | 0, _ =>
            refine step_yes (o := ⟨some 55, Op.load 24 (Operand.tmp 5), 24, "law.go:91", #[], none⟩) [] (by kernel_rfl) (by kernel_rfl) fun K hK => ?_
            simp only [frD] at hK ⊢
            refine ⟨by rfl, ?_⟩
            go_simp
            exact hK _ _ ⟨Below.refl _ _, rfl, by simp⟩
          | 1, _ =>
            refine step_yes (o := ⟨some 56, Op.load 24 (Operand.tmp 3), 24, "law.go:91", #[], none⟩) [] (by kernel_rfl) (by kernel_rfl) fun K hK => ?_
            simp only [frD] at hK ⊢
            refine ⟨by rfl, ?_⟩
            go_simp
            exact hK _ _ ⟨Below.refl _ _, rfl, by simp⟩
          | 2, _ =>
            have e0 : vs 0 = (.agg #[.bool bq, .slice A3 n3 c3]) := hd 0 (List.contains_iff_mem.1 (by kernel_rfl))
            have e1 : vs 1 = (.agg #[.bool n2, .slice A2 p2 q2]) := hd 1 (List.contains_iff_mem.1 (by kernel_rfl))
            refine step_yes (o := ⟨some 57, Op.call { callee := Callee.value (Operand.func 20), args := #[Operand.tmp 55, Operand.tmp 56], argTypes := #[24, 24] }, 24, "law.go:91", #[{ on := 0, ground := Ground.data }, { on := 1, ground := Ground.data }], none⟩) [(0, some 55), (1, some 56)] (by kernel_rfl) (by kernel_rfl) fun K hK => ?_
            simp only [frD, e0, e1] at hK ⊢
            refine ⟨by rfl, ?_⟩
            go_simp
            refine (mul_num (hv3.q.num (by omega)) hv3.y).mono ?_
            rintro e w4 ⟨U, rfl, hr, hk4⟩
            exact hK _ _ ⟨hk4, hr, by simp⟩
          | 3, _ =>
            refine step_yes (o := ⟨some 58, Op.load 24 (Operand.tmp 6), 24, "law.go:91", #[], none⟩) [] (by kernel_rfl) (by kernel_rfl) fun K hK => ?_
            simp only [frD] at hK ⊢
            refine ⟨by rfl, ?_⟩
            go_simp
            exact hK _ _ ⟨Below.refl _ _, rfl, by simp⟩
          | 4, _ =>
            have h2 : IntRep w3 (vs 2) (q * y) := hd 2 (List.contains_iff_mem.1 (by kernel_rfl))
            have e3 : vs 3 = (.agg #[.bool br, .slice A4 n4 c4]) := hd 3 (List.contains_iff_mem.1 (by kernel_rfl))
            refine step_yes (o := ⟨some 59, Op.call { callee := Callee.value (Operand.func 18), args := #[Operand.tmp 57, Operand.tmp 58], argTypes := #[24, 24] }, 24, "law.go:91", #[{ on := 2, ground := Ground.data }, { on := 3, ground := Ground.data }, { on := 2, ground := Ground.chain }], none⟩) [(2, some 57), (3, some 58)] (by kernel_rfl) (by kernel_rfl) fun K hK => ?_
            simp only [frD, e3] at hK ⊢
            refine ⟨by rfl, ?_⟩
            go_simp
            refine (gives_eq (add_num (h2.num (by omega)) (hv3.r.num (by omega))) HX.out).mono ?_
            rintro e w4 ⟨U, rfl, hr, hk4⟩
            exact hK _ _ ⟨hk4, hr, by simp⟩
          | 5, _ =>
            refine step_yes (o := ⟨some 60, Op.load 24 (Operand.tmp 2), 24, "law.go:91", #[], none⟩) [] (by kernel_rfl) (by kernel_rfl) fun K hK => ?_
            simp only [frD] at hK ⊢
            refine ⟨by rfl, ?_⟩
            go_simp
            exact hK _ _ ⟨Below.refl _ _, rfl, by simp⟩
          | 6, _ =>
            have h4 : IntRep w3 (vs 4) (x) := hd 4 (List.contains_iff_mem.1 (by kernel_rfl))
            have e5 : vs 5 = (.agg #[.bool n1, .slice A1 p1 q1]) := hd 5 (List.contains_iff_mem.1 (by kernel_rfl))
            refine step_yes (o := ⟨some 61, Op.call { callee := Callee.value (Operand.func 24), args := #[Operand.tmp 60], argTypes := #[24] }, 24, "law.go:91", #[{ on := 5, ground := Ground.data }, { on := 4, ground := Ground.chain }], none⟩) [(4, some 59), (5, some 60)] (by kernel_rfl) (by kernel_rfl) fun K hK => ?_
            simp only [frD, e5] at hK ⊢
            refine ⟨by rfl, ?_⟩
            go_simp
            refine (rvalue_num hv3.x).mono ?_
            rintro e w4 ⟨U, rfl, hr, hk4⟩
            exact hK _ _ ⟨hk4, hr, by simp⟩
          | 7, _ =>
            have h4 : IntRep w3 (vs 4) (x) := hd 4 (List.contains_iff_mem.1 (by kernel_rfl))
            have h6 : IntRep w3 (vs 6) (x) := hd 6 (List.contains_iff_mem.1 (by kernel_rfl))
            refine step_yes (o := ⟨some 62, Op.call { callee := Callee.value (Operand.func 15), args := #[Operand.tmp 59, Operand.tmp 61], argTypes := #[24, 24] }, 4, "law.go:91", #[{ on := 4, ground := Ground.data }, { on := 6, ground := Ground.data }, { on := 6, ground := Ground.chain }], none⟩) [(4, some 59), (6, some 61)] (by kernel_rfl) (by kernel_rfl) fun K hK => ?_
            simp only [frD] at hK ⊢
            refine ⟨by rfl, ?_⟩
            go_simp
            refine (same_num h4 h6 rfl (by omega)).mono ?_
            rintro e w4 ⟨rfl, hk4⟩
            exact hK _ _ ⟨hk4, rfl, by simp⟩
          | 8, _ =>
            have e7 : vs 7 = .bool true := hd 7 (List.contains_iff_mem.1 (by kernel_rfl))
            refine step_yes (o := ⟨some 63, Op.move (Operand.tmp 62), 4, "law.go:91", #[{ on := 7, ground := Ground.data }, { on := 7, ground := Ground.chain }], none⟩) [(7, some 62)] (by kernel_rfl) (by kernel_rfl) fun K hK => ?_
            simp only [frD, e7] at hK ⊢
            refine ⟨by rfl, ?_⟩
            go_simp
            exact hK _ _ ⟨Below.refl _ _, rfl, by simp⟩
          | 9, _ =>
            have e8 : vs 8 = .bool true := hd 8 (List.contains_iff_mem.1 (by kernel_rfl))
            refine step_yes (o := ⟨some 64, Op.move (Operand.tmp 11), 3, "law.go:91", #[{ on := 8, ground := Ground.guard }], some (8, true)⟩) [(8, some 63)] (by kernel_rfl) (by kernel_rfl) fun K hK => ?_
            simp only [frD, e8] at hK ⊢
            refine ⟨by rfl, ?_⟩
            go_simp
            exact hK _ _ ⟨Below.refl _ _, rfl, by simp⟩
          | 10, _ =>
            have e8 : vs 8 = .bool true := hd 8 (List.contains_iff_mem.1 (by kernel_rfl))
            have e9 : vs 9 = .int .i64 0 := hd 9 (List.contains_iff_mem.1 (by kernel_rfl))
            refine step_yes (o := ⟨some 65, Op.binOp BinOp.eql 3 (Operand.tmp 64) (Operand.const (Value.int IntKind.i64 0)) 3, 4, "law.go:91", #[{ on := 9, ground := Ground.data }, { on := 8, ground := Ground.guard }], some (8, true)⟩) [(8, some 63), (9, some 64)] (by kernel_rfl) (by kernel_rfl) fun K hK => ?_
            simp only [frD, e8, e9] at hK ⊢
            refine ⟨by rfl, ?_⟩
            go_simp
            exact hK _ _ ⟨Below.refl _ _, rfl, by simp⟩
          | 11, _ =>
            have e8 : vs 8 = .bool true := hd 8 (List.contains_iff_mem.1 (by kernel_rfl))
            have e10 : vs 10 = .bool true := hd 10 (List.contains_iff_mem.1 (by kernel_rfl))
            refine step_yes (o := ⟨some 66, Op.move (Operand.tmp 65), 4, "law.go:91", #[{ on := 10, ground := Ground.data }, { on := 8, ground := Ground.chain }, { on := 8, ground := Ground.guard }], some (8, true)⟩) [(8, some 63), (10, some 65)] (by kernel_rfl) (by kernel_rfl) fun K hK => ?_
            simp only [frD, e8, e10] at hK ⊢
            refine ⟨by rfl, ?_⟩
            go_simp
            exact hK _ _ ⟨Below.refl _ _, rfl, by simp⟩
          | 12, _ =>
            have e11 : vs 11 = .bool true := hd 11 (List.contains_iff_mem.1 (by kernel_rfl))
            refine step_no (o := ⟨some 67, Op.move (Operand.tmp 11), 3, "law.go:91", #[{ on := 11, ground := Ground.guard }], some (11, false)⟩) [(11, some 66)] (by kernel_rfl) (by kernel_rfl) (by simp only [frD, e11]; rfl) rfl (by simp)
          | 13, _ =>
            have e11 : vs 11 = .bool true := hd 11 (List.contains_iff_mem.1 (by kernel_rfl))
            refine step_no (o := ⟨some 68, Op.load 24 (Operand.tmp 3), 24, "law.go:91", #[{ on := 11, ground := Ground.guard }], some (11, false)⟩) [(11, some 66)] (by kernel_rfl) (by kernel_rfl) (by simp only [frD, e11]; rfl) rfl (by simp)
          | 14, _ =>
            have e11 : vs 11 = .bool true := hd 11 (List.contains_iff_mem.1 (by kernel_rfl))
            have e13 : vs 13 = undef := hd 13 (List.contains_iff_mem.1 (by kernel_rfl))
            refine step_no (o := ⟨some 69, Op.call { callee := Callee.value (Operand.func 26), args := #[Operand.tmp 68], argTypes := #[24] }, 3, "law.go:91", #[{ on := 13, ground := Ground.data }, { on := 11, ground := Ground.chain }, { on := 11, ground := Ground.guard }], some (11, false)⟩) [(11, some 66), (13, some 68)] (by kernel_rfl) (by kernel_rfl) (by simp only [frD, e11, e13]; rfl) rfl (by simp)
          | 15, _ =>
            have e11 : vs 11 = .bool true := hd 11 (List.contains_iff_mem.1 (by kernel_rfl))
            have e12 : vs 12 = undef := hd 12 (List.contains_iff_mem.1 (by kernel_rfl))
            have e14 : vs 14 = undef := hd 14 (List.contains_iff_mem.1 (by kernel_rfl))
            refine step_no (o := ⟨some 70, Op.binOp BinOp.eql 3 (Operand.tmp 67) (Operand.tmp 69) 3, 4, "law.go:91", #[{ on := 12, ground := Ground.data }, { on := 14, ground := Ground.data }, { on := 11, ground := Ground.guard }], some (11, false)⟩) [(11, some 66), (12, some 67), (14, some 69)] (by kernel_rfl) (by kernel_rfl) (by simp only [frD, e11, e12, e14]; rfl) rfl (by simp)
          | 16, _ =>
            have e8 : vs 8 = .bool true := hd 8 (List.contains_iff_mem.1 (by kernel_rfl))
            have e11 : vs 11 = .bool true := hd 11 (List.contains_iff_mem.1 (by kernel_rfl))
            have e15 : vs 15 = undef := hd 15 (List.contains_iff_mem.1 (by kernel_rfl))
            refine step_yes (o := ⟨some 71, Op.pick (Operand.tmp 66) (Operand.const (Value.bool true)) (Operand.tmp 70), 4, "law.go:91", #[{ on := 11, ground := Ground.data }, { on := 15, ground := Ground.data }, { on := 8, ground := Ground.guard }], some (8, true)⟩) [(8, some 63), (11, some 66), (15, some 70)] (by kernel_rfl) (by kernel_rfl) fun K hK => ?_
            simp only [frD, e8, e11, e15] at hK ⊢
            refine ⟨by rfl, ?_⟩
            go_simp
            exact hK _ _ ⟨Below.refl _ _, rfl, by simp⟩
          | 17, _ =>
            have e8 : vs 8 = .bool true := hd 8 (List.contains_iff_mem.1 (by kernel_rfl))
            have e16 : vs 16 = .bool true := hd 16 (List.contains_iff_mem.1 (by kernel_rfl))
            refine step_yes (o := ⟨some 72, Op.pick (Operand.tmp 63) (Operand.tmp 71) (Operand.const (Value.bool false)), 4, "law.go:91", #[{ on := 8, ground := Ground.data }, { on := 16, ground := Ground.data }], none⟩) [(8, some 63), (16, some 71)] (by kernel_rfl) (by kernel_rfl) fun K hK => ?_
            simp only [frD, e8, e16] at hK ⊢
            refine ⟨by rfl, ?_⟩
            go_simp
            exact hK _ _ ⟨Below.refl _ _, rfl, by simp⟩
          | 18, _ =>
            have e14 : vs 14 = undef := hd 14 (List.contains_iff_mem.1 (by kernel_rfl))
            have e17 : vs 17 = .bool true := hd 17 (List.contains_iff_mem.1 (by kernel_rfl))
            refine step_yes (o := ⟨some 73, Op.move (Operand.tmp 72), 4, "law.go:91", #[{ on := 17, ground := Ground.data }, { on := 14, ground := Ground.chain }], none⟩) [(14, some 69), (17, some 72)] (by kernel_rfl) (by kernel_rfl) fun K hK => ?_
            simp only [frD, e14, e17] at hK ⊢
            refine ⟨by rfl, ?_⟩
            go_simp
            exact hK _ _ ⟨Below.refl _ _, rfl, by simp⟩
          | 19, _ =>
            have e18 : vs 18 = .bool true := hd 18 (List.contains_iff_mem.1 (by kernel_rfl))
            refine step_yes (o := ⟨some 74, Op.load 24 (Operand.tmp 6), 24, "law.go:91", #[{ on := 18, ground := Ground.guard }], some (18, true)⟩) [(18, some 73)] (by kernel_rfl) (by kernel_rfl) fun K hK => ?_
            simp only [frD, e18] at hK ⊢
            refine ⟨by rfl, ?_⟩
            go_simp
            exact hK _ _ ⟨Below.refl _ _, rfl, by simp⟩
          | 20, _ =>
            have e18 : vs 18 = .bool true := hd 18 (List.contains_iff_mem.1 (by kernel_rfl))
            have e19 : vs 19 = (.agg #[.bool br, .slice A4 n4 c4]) := hd 19 (List.contains_iff_mem.1 (by kernel_rfl))
            refine step_yes (o := ⟨some 75, Op.call { callee := Callee.value (Operand.func 33), args := #[Operand.tmp 74], argTypes := #[24] }, 24, "law.go:91", #[{ on := 19, ground := Ground.data }, { on := 18, ground := Ground.chain }, { on := 18, ground := Ground.guard }], some (18, true)⟩) [(18, some 73), (19, some 74)] (by kernel_rfl) (by kernel_rfl) fun K hK => ?_
            simp only [frD, e18, e19] at hK ⊢
            refine ⟨by rfl, ?_⟩
            go_simp
            refine (abs_num (hv3.r.num (by omega))).mono ?_
            rintro e w4 ⟨U, rfl, hr, hk4⟩
            exact hK _ _ ⟨hk4, hr, by simp⟩
          | 21, _ =>
            have e18 : vs 18 = .bool true := hd 18 (List.contains_iff_mem.1 (by kernel_rfl))
            refine step_yes (o := ⟨some 76, Op.load 24 (Operand.tmp 3), 24, "law.go:91", #[{ on := 18, ground := Ground.guard }], some (18, true)⟩) [(18, some 73)] (by kernel_rfl) (by kernel_rfl) fun K hK => ?_
            simp only [frD, e18] at hK ⊢
            refine ⟨by rfl, ?_⟩
            go_simp
            exact hK _ _ ⟨Below.refl _ _, rfl, by simp⟩
          | 22, _ =>
            have e18 : vs 18 = .bool true := hd 18 (List.contains_iff_mem.1 (by kernel_rfl))
            have h20 : IntRep w3 (vs 20) (r.natAbs) := hd 20 (List.contains_iff_mem.1 (by kernel_rfl))
            have e21 : vs 21 = (.agg #[.bool n2, .slice A2 p2 q2]) := hd 21 (List.contains_iff_mem.1 (by kernel_rfl))
            refine step_yes (o := ⟨some 77, Op.call { callee := Callee.value (Operand.func 33), args := #[Operand.tmp 76], argTypes := #[24] }, 24, "law.go:91", #[{ on := 21, ground := Ground.data }, { on := 20, ground := Ground.chain }, { on := 18, ground := Ground.guard }], some (18, true)⟩) [(18, some 73), (20, some 75), (21, some 76)] (by kernel_rfl) (by kernel_rfl) fun K hK => ?_
            simp only [frD, e18, e21] at hK ⊢
            refine ⟨by rfl, ?_⟩
            go_simp
            refine (abs_num hv3.y).mono ?_
            rintro e w4 ⟨U, rfl, hr, hk4⟩
            exact hK _ _ ⟨hk4, hr, by simp⟩
          | 23, _ =>
            have e18 : vs 18 = .bool true := hd 18 (List.contains_iff_mem.1 (by kernel_rfl))
            have h20 : IntRep w3 (vs 20) (r.natAbs) := hd 20 (List.contains_iff_mem.1 (by kernel_rfl))
            have h22 : IntRep w3 (vs 22) (y.natAbs) := hd 22 (List.contains_iff_mem.1 (by kernel_rfl))
            refine step_yes (o := ⟨some 78, Op.call { callee := Callee.value (Operand.func 25), args := #[Operand.tmp 75, Operand.tmp 77], argTypes := #[24, 24] }, 3, "law.go:91", #[{ on := 20, ground := Ground.data }, { on := 22, ground := Ground.data }, { on := 22, ground := Ground.chain }, { on := 18, ground := Ground.guard }], some (18, true)⟩) [(18, some 73), (20, some 75), (22, some 77)] (by kernel_rfl) (by kernel_rfl) fun K hK => ?_
            simp only [frD, e18] at hK ⊢
            refine ⟨by rfl, ?_⟩
            go_simp
            refine (compare_s (h20.num (by omega)) (h22.num (by omega)) HT.out).mono ?_
            rintro e w4 ⟨rfl, hk4⟩
            exact hK _ _ ⟨hk4, rfl, by simp⟩
          | 24, _ =>
            have e18 : vs 18 = .bool true := hd 18 (List.contains_iff_mem.1 (by kernel_rfl))
            have e23 : vs 23 = .int .i64 (-1) := hd 23 (List.contains_iff_mem.1 (by kernel_rfl))
            refine step_yes (o := ⟨some 79, Op.binOp BinOp.lss 3 (Operand.tmp 78) (Operand.const (Value.int IntKind.i64 0)) 3, 4, "law.go:91", #[{ on := 23, ground := Ground.data }, { on := 18, ground := Ground.guard }], some (18, true)⟩) [(18, some 73), (23, some 78)] (by kernel_rfl) (by kernel_rfl) fun K hK => ?_
            simp only [frD, e18, e23] at hK ⊢
            refine ⟨by rfl, ?_⟩
            go_simp
            exact hK _ _ ⟨Below.refl _ _, rfl, by simp⟩
          | 25, _ =>
            have e18 : vs 18 = .bool true := hd 18 (List.contains_iff_mem.1 (by kernel_rfl))
            have e24 : vs 24 = .bool true := hd 24 (List.contains_iff_mem.1 (by kernel_rfl))
            refine step_yes (o := ⟨some 80, Op.pick (Operand.tmp 73) (Operand.tmp 79) (Operand.const (Value.bool false)), 4, "law.go:91", #[{ on := 18, ground := Ground.data }, { on := 24, ground := Ground.data }], none⟩) [(18, some 73), (24, some 79)] (by kernel_rfl) (by kernel_rfl) fun K hK => ?_
            simp only [frD, e18, e24] at hK ⊢
            refine ⟨by rfl, ?_⟩
            go_simp
            exact hK _ _ ⟨Below.refl _ _, rfl, by simp⟩
          | i + 26, hi => exact absurd hi (by omega)
        · intro vs w3 hk3 hΦ _
          simp only [List.drop_succ_cons, List.drop_zero]
          rw [fr_frD, show (List.range 26).map _ = [(0, some 55), (1, some 56), (2, some 57), (3, some 58), (4, some 59), (5, some 60), (6, some 61), (7, some 62), (8, some 63), (9, some 64), (10, some 65), (11, some 66), (12, some 67), (13, some 68), (14, some 69), (15, some 70), (16, some 71), (17, some 72), (18, some 73), (19, some 74), (20, some 75), (21, some 76), (22, some 77), (23, some 78), (24, some 79), (25, some 80)] by kernel_rfl]
          have p0 := hΦ 0 (by omega)
          have p1 := hΦ 1 (by omega)
          have p2 := hΦ 2 (by omega)
          have p3 := hΦ 3 (by omega)
          have p4 := hΦ 4 (by omega)
          have p5 := hΦ 5 (by omega)
          have p6 := hΦ 6 (by omega)
          have p7 := hΦ 7 (by omega)
          have p8 := hΦ 8 (by omega)
          have p9 := hΦ 9 (by omega)
          have p10 := hΦ 10 (by omega)
          have p11 := hΦ 11 (by omega)
          have p12 := hΦ 12 (by omega)
          have p13 := hΦ 13 (by omega)
          have p14 := hΦ 14 (by omega)
          have p15 := hΦ 15 (by omega)
          have p16 := hΦ 16 (by omega)
          have p17 := hΦ 17 (by omega)
          have p18 := hΦ 18 (by omega)
          have p19 := hΦ 19 (by omega)
          have p20 := hΦ 20 (by omega)
          have p21 := hΦ 21 (by omega)
          have p22 := hΦ 22 (by omega)
          have p23 := hΦ 23 (by omega)
          have p24 := hΦ 24 (by omega)
          have p25 := hΦ 25 (by omega)
          simp only [dv0Φ] at p0 p1 p2 p3 p4 p5 p6 p7 p8 p9 p10 p11 p12 p13 p14 p15 p16 p17 p18 p19 p20 p21 p22 p23 p24 p25
          clear hΦ
          simp only [frD, p0, p1, p3, p5, p7, p8, p9, p10, p11, p12, p13, p14, p15, p16, p17, p18, p19, p21, p23, p24, p25]
          go_wp2
          go_ret
          exact ⟨rfl, k4.trans' hk3⟩
      · have hd : (s == 0) = false := by simp [h0]
        have hss : y.sign = s := by rcases T2.out with h | h
                                    · exact absurd h h0
                                    · exact h.symm
        have HYS := Lib.hid hss
        have hd2 : (s == s) = true := by simp
        clear h0 hss
        go_wp2_with fail
        go_region_held3 (fun w' => w'.cell? ⟨w.heap.size, 0, none⟩ = some (.bool n1) ∧ w'.cell? ⟨w.heap.size, 1, none⟩ = some (.slice A1 p1 q1) ∧ w'.cell? ⟨w.heap.size + 1, 0, none⟩ = some (.bool n2) ∧ w'.cell? ⟨w.heap.size + 1, 1, none⟩ = some (.slice A2 p2 q2) ∧ w'.cell? ⟨w3.heap.size, 0, none⟩ = some (.bool bq) ∧ w'.cell? ⟨w3.heap.size, 1, none⟩ = some (.slice A3 n3 c3) ∧ w'.cell? ⟨w3.heap.size + 1, 0, none⟩ = some (.bool br) ∧ w'.cell? ⟨w3.heap.size + 1, 1, none⟩ = some (.slice A4 n4 c4))
          (exact hs.cells)
          (first
            | (go_at_call 20; refine (mul_num (hv.q.num (by omega)) hv.y).mono ?_; rintro e W5 ⟨U57, rfl, hp, hk⟩; replace hs := hs.below hk; replace hv := hv.below hk; replace k4 := k4.trans' hk)
            | (go_at_call 18; refine (add_num (hp.num (by omega)) (hv.r.num (by omega))).mono ?_; rintro e W5 ⟨U59, rfl, hp, hk⟩; replace hs := hs.below hk; replace hv := hv.below hk; replace k4 := k4.trans' hk; rw [HX.out] at hp)
            | (go_at_call 24; refine (rvalue_num hv.x).mono ?_; rintro e W5 ⟨U61, rfl, hz, hk⟩; replace hs := hs.below hk; replace hv := hv.below hk; replace k4 := k4.trans' hk; replace hp := hp.below hk)
            | (go_at_call 15; refine (same_num hp hz rfl (by omega)).mono ?_; rintro e W5 ⟨rfl, hk⟩; replace hs := hs.below hk; replace hv := hv.below hk; replace k4 := k4.trans' hk)
            | (go_at_call 26; refine (sign_s hv.y HYS.out).mono ?_; rintro e W5 ⟨rfl, hk⟩; replace hs := hs.below hk; replace hv := hv.below hk; replace k4 := k4.trans' hk)
            | (go_at_call_of 33 (Value.slice A4 n4 c4); refine (abs_num (hv.r.num (by omega))).mono ?_; rintro e W5 ⟨U75, rfl, hp, hk⟩; replace hs := hs.below hk; replace hv := hv.below hk; replace k4 := k4.trans' hk)
            | (go_at_call_of 33 (Value.slice A2 p2 q2); refine (abs_num hv.y).mono ?_; rintro e W5 ⟨U77, rfl, hz, hk⟩; replace hs := hs.below hk; replace hv := hv.below hk; replace k4 := k4.trans' hk; replace hp := hp.below hk)
            | (go_at_call 25; refine (compare_s (hp.num (by omega)) (hz.num (by omega)) HT.out).mono ?_; rintro e W5 ⟨rfl, hk⟩; replace hs := hs.below hk; replace hv := hv.below hk; replace k4 := k4.trans' hk))
        all_goals (go_wp2; go_ret; exact ⟨rfl, k4⟩)
end Go.Proofs.YthgbgoidnnfapaaDoor
