/- ReportChecks: the walk. -/
import Derived.Test.YtgcigdahjabimaaGreatDoorPk48
import Derived.Test.YtgcigdahjabimaaGreatDoorPk47
import Derived.Deep.CutBlock
namespace Go.Proofs.YtgcigdahjabimaaGreatDoor
open Go.RowKit Go.Shelf
theorem RatA.open5 {w : World} {c0 c1 c2 c3 : Value} {s t : Bool} {xs ys : List Nat} (h : RatA w (.agg #[c0, c1, c2, c3]) (s, xs, t, ys)) : ∃ A c B d, c0 = .bool s ∧ c1 = .slice A xs.length c ∧ c2 = .bool t ∧ c3 = .slice B ys.length d := h.open4
theorem get3g {α : Type} {R : World → Value → α → Prop} (hR : Lasts R) {w : World} {A : Option Addr} {l : List α} (hr : Row4 R w A l) {i : Nat} (hi : 3 * i + 2 < l.length) : ∃ B o x y z c0 c1 c2 c3 c4 c5 c6 c7 c8 c9 c10 c11, A = some ⟨B, o, none⟩ ∧ l[3 * i]? = some x ∧ l[3 * i + 1]? = some y ∧ l[3 * i + 2]? = some z ∧
 (∀ W, Keeps w W → W.cell? ⟨B, o + i * 12, none⟩ = some c0 ∧ W.cell? ⟨B, o + i * 12 + 1, none⟩ = some c1 ∧ W.cell? ⟨B, o + i * 12 + 2, none⟩ = some c2 ∧ W.cell? ⟨B, o + i * 12 + 3, none⟩ = some c3 ∧ W.cell? ⟨B, o + i * 12 + 4, none⟩ = some c4 ∧ W.cell? ⟨B, o + i * 12 + 5, none⟩ = some c5 ∧ W.cell? ⟨B, o + i * 12 + 6, none⟩ = some c6 ∧ W.cell? ⟨B, o + i * 12 + 7, none⟩ = some c7 ∧ W.cell? ⟨B, o + i * 12 + 8, none⟩ = some c8 ∧ W.cell? ⟨B, o + i * 12 + 9, none⟩ = some c9 ∧ W.cell? ⟨B, o + i * 12 + 10, none⟩ = some c10 ∧ W.cell? ⟨B, o + i * 12 + 11, none⟩ = some c11) ∧
 ∀ W, Keeps w W → R W (.agg #[c0, c1, c2, c3]) x ∧ R W (.agg #[c4, c5, c6, c7]) y ∧ R W (.agg #[c8, c9, c10, c11]) z := by
 obtain ⟨x, hx⟩ : ∃ x, l[3 * i]? = some x := ⟨_, List.getElem?_eq_getElem (by omega)⟩
 obtain ⟨y, hy⟩ : ∃ x, l[3 * i + 1]? = some x := ⟨_, List.getElem?_eq_getElem (by omega)⟩
 obtain ⟨z, hz⟩ : ∃ x, l[3 * i + 2]? = some x := ⟨_, List.getElem?_eq_getElem hi⟩
 obtain ⟨B, o, c0, c1, c2, c3, rfl, hc, hX⟩ := hr.get hR hx
 obtain ⟨B1, o1, c4, c5, c6, c7, e1, hc1, hY⟩ := hr.get hR hy
 obtain ⟨B2, o2, c8, c9, c10, c11, e2, hc2, hZ⟩ := hr.get hR hz
 cases e1
 cases e2
 refine ⟨B, o, x, y, z, c0, c1, c2, c3, c4, c5, c6, c7, c8, c9, c10, c11, rfl, hx, hy, hz, fun W hk => ?_, fun W hk => ⟨hX W hk, hY W hk, hZ W hk⟩⟩
 obtain ⟨a0, a1, a2, a3⟩ := hc W hk
 obtain ⟨a4, a5, a6, a7⟩ := hc1 W hk
 obtain ⟨a8, a9, a10, a11⟩ := hc2 W hk
 rw [show o + 3 * i * 4 = o + i * 12 by omega] at a0 a1 a2 a3
 rw [show o + (3 * i + 1) * 4 = o + i * 12 + 4 by omega] at a4 a5 a6 a7
 rw [show o + (3 * i + 2) * 4 = o + i * 12 + 8 by omega] at a8 a9 a10 a11
 exact ⟨a0, a1, a2, a3, a4, a5, a6, a7, a8, a9, a10, a11⟩
theorem three_rowg {α : Type} {R : World → Value → α → Prop} {w : World} {g : Nat} {t : TypeId} {c0 c1 c2 c3 c4 c5 c6 c7 c8 c9 c10 c11 : Value} {x y z : α} (hO : Own w g t [c0, c1, c2, c3, c4, c5, c6, c7, c8, c9, c10, c11]) (h1 : R w (.agg #[c0, c1, c2, c3]) x) (h2 : R w (.agg #[c4, c5, c6, c7]) y) (h3 : R w (.agg #[c8, c9, c10, c11]) z) : Row4 R w (some ⟨g, 0, none⟩) [x, y, z] := fun j u hj => by
 match j, hj with
 | 0, hj =>
  obtain rfl : x = u := by simpa using hj
  exact ⟨g, 0, c0, c1, c2, c3, rfl, ⟨(hO.cell _).trans rfl, (hO.cell _).trans rfl, (hO.cell _).trans rfl, (hO.cell _).trans rfl⟩, h1⟩
 | 1, hj =>
  obtain rfl : y = u := by simpa using hj
  exact ⟨g, 0, c4, c5, c6, c7, rfl, ⟨(hO.cell _).trans rfl, (hO.cell _).trans rfl, (hO.cell _).trans rfl, (hO.cell _).trans rfl⟩, h2⟩
 | 2, hj =>
  obtain rfl : z = u := by simpa using hj
  exact ⟨g, 0, c8, c9, c10, c11, rfl, ⟨(hO.cell _).trans rfl, (hO.cell _).trans rfl, (hO.cell _).trans rfl, (hO.cell _).trans rfl⟩, h3⟩
 | j + 3, hj => simp at hj
theorem take3g {α : Type} {l : List α} {i : Nat} {x y z : α} (hx : l[3 * i]? = some x) (hy : l[3 * i + 1]? = some y) (hz : l[3 * i + 2]? = some z) : l.take (3 * (i + 1)) = l.take (3 * i) ++ [x, y, z] := by
 rw [show 3 * (i + 1) = 3 * i + 1 + 1 + 1 by omega, List.take_add_one, List.take_add_one, List.take_add_one, hx, hy, hz]
 simp
theorem SumF.more {L : List Rn} {f : Nat → Rat} {w : World} {j : Nat} {a : Rn} (h : SumF (L.take j) f w) (hj : j < L.length) (ha : RatRep w a.v (f j)) : SumF ((L.set j a).take (j + 1)) f w := fun i hi => by
 have hil : i < j + 1 := by rw [List.length_take] at hi; omega
 have hiL : i < L.length := by omega
 by_cases e : i = j
 ·subst e
  have : ((L.set i a).take (i + 1)).getD i rz0 = a := by simp [List.getD, hiL]
  rw [this]
  exact ha
 ·have h1 := h i (by rw [List.length_take]; omega)
  have : ((L.set j a).take (j + 1)).getD i rz0 = (L.take j).getD i rz0 := by
   simp only [List.getD, List.getElem?_take, List.getElem?_set]
   rw [if_pos hil, if_neg (fun h => e h.symm), if_pos (by omega)]
  rw [this]
  exact h1
theorem tri_rep {w : World} {g : Nat} {t : TypeId} {L : List Rn} {f : Nat → Rat} (hO : Own w g t (cellsQ L)) (h : SumF L f w) (hl : L.length = 3) : Row4 RatRep w (some ⟨g, 0, none⟩) [f 0, f 1, f 2] := by
 obtain ⟨a, b, c, rfl⟩ := len3 hl
 exact three_rep hO (h 0 (by simp)) (h 1 (by simp)) (h 2 (by simp))
theorem SumF.snoc3 {L : List Rn} {f : Nat → Rat} {w : World} {k : Nat} {a b c : Rn} (h : SumF L f w) (hl : L.length = 3 * k) (ha : RatRep w a.v (f (3 * k))) (hb : RatRep w b.v (f (3 * k + 1))) (hc : RatRep w c.v (f (3 * k + 2))) : SumF (L ++ [a, b, c]) f w := fun i hi => by
 rw [List.length_append] at hi
 by_cases h1 : i < L.length
 ·have : (L ++ [a, b, c]).getD i rz0 = L.getD i rz0 := by simp only [List.getD]; rw [List.getElem?_append_left h1]
  rw [this]
  exact h i h1
 ·have hi2 : i = 3 * k ∨ i = 3 * k + 1 ∨ i = 3 * k + 2 := by simp at hi; omega
  have hg : (L ++ [a, b, c]).getD i rz0 = [a, b, c].getD (i - L.length) rz0 := by simp only [List.getD]; rw [List.getElem?_append_right (by omega)]
  rw [hg, hl]
  rcases hi2 with rfl | rfl | rfl
  ·rw [Nat.sub_self]; exact ha
  ·rw [show 3 * k + 1 - 3 * k = 1 by omega]; exact hb
  ·rw [show 3 * k + 2 - 3 * k = 2 by omega]; exact hc
theorem RatV2.rn {w : World} {c0 c1 c2 c3 : Value} {q : QV} (h : RatV2 w (.agg #[c0, c1, c2, c3]) q) : ∃ f : Rn, c0 = f.a ∧ c1 = f.b ∧ c2 = f.c ∧ c3 = f.d := by
 obtain ⟨b, A, n, c, d, B, m, e, h0, h1, h2, h3⟩ := h.open4
 exact ⟨⟨b, A, n, c, d, B, m, e⟩, h0, h1, h2, h3⟩
theorem farT_no {x y z : Int} (h : farT x y z = false) : (-1048576 ≤ x ∧ x ≤ 1048576) ∧ (-1048576 ≤ y ∧ y ≤ 1048576) ∧ (-1048576 ≤ z ∧ z ≤ 1048576) := by
 unfold farT farB at h
 simp at h
 omega
theorem far_at {sp : List Int} (h : sp.any farB = false) {j : Nat} (hj : j < sp.length) : -1048576 ≤ sp.getD j 0 ∧ sp.getD j 0 ≤ 1048576 := by
 have h1 := List.any_eq_false.1 h (sp.getD j 0) (by rw [List.getD, List.getElem?_eq_getElem hj]; exact List.getElem_mem hj)
 generalize sp.getD j 0 = x at *
 unfold farB at h1
 simp at h1
 omega
theorem i64s_app (l r : List Int) : i64s (l ++ r) = i64s l ++ i64s r := by simp [i64s]
theorem cellsQ_app (l r : List Rn) : cellsQ (l ++ r) = cellsQ l ++ cellsQ r := by simp [cellsQ]
def kb62Φ (Vo : Value) (Bf : Nat) (of n cf k B5 : Nat) (b0 b1 b2 : Int) (x0 x1 x2 : Rn) (q0 q1 q2 : Rat) : Nat → Value → World → Prop
 | 0, v, _ => v = Vo
 | 1, v, _ => v = .slice (some ⟨Bf, of, none⟩) n cf
 | 2, v, _ => v = .int .i64 (k : Nat)
 | 3, v, _ => v = .pointer (some ⟨Bf, of + k * 12, none⟩)
 | 4, v, _ => v = .pointer (some ⟨Bf, of + k * 12, none⟩)
 | 5, v, _ => v = x0.v
 | 6, v, _ => v = .pointer (some ⟨B5, 0, none⟩)
 | 7, v, _ => v = .int .i64 b0
 | 8, v, w => RatRep w v ((b0 : Int) : Rat)
 | 9, v, w => RatRep w v (q0 + ((b0 : Int) : Rat))
 | 10, v, _ => v = .slice (some ⟨Bf, of, none⟩) n cf
 | 11, v, _ => v = .int .i64 (k : Nat)
 | 12, v, _ => v = .pointer (some ⟨Bf, of + k * 12, none⟩)
 | 13, v, _ => v = .pointer (some ⟨Bf, of + k * 12 + 4, none⟩)
 | 14, v, _ => v = x1.v
 | 15, v, _ => v = .pointer (some ⟨B5, 1, none⟩)
 | 16, v, _ => v = .int .i64 b1
 | 17, v, w => RatRep w v ((b1 : Int) : Rat)
 | 18, v, w => RatRep w v (q1 + ((b1 : Int) : Rat))
 | 19, v, _ => v = .slice (some ⟨Bf, of, none⟩) n cf
 | 20, v, _ => v = .int .i64 (k : Nat)
 | 21, v, _ => v = .pointer (some ⟨Bf, of + k * 12, none⟩)
 | 22, v, _ => v = .pointer (some ⟨Bf, of + k * 12 + 8, none⟩)
 | 23, v, _ => v = x2.v
 | 24, v, _ => v = .pointer (some ⟨B5, 2, none⟩)
 | 25, v, _ => v = .int .i64 b2
 | 26, v, w => RatRep w v ((b2 : Int) : Rat)
 | 27, v, w => RatRep w v (q2 + ((b2 : Int) : Rat))
 | 28, v, w => Tri w v (q0 + ((b0 : Int) : Rat)) (q1 + ((b1 : Int) : Rat)) (q2 + ((b2 : Int) : Rat))
 | 29, v, w => TriB w v (q0 + ((b0 : Int) : Rat)) (q1 + ((b1 : Int) : Rat)) (q2 + ((b2 : Int) : Rat))
 | _, _, _ => True
set_option maxRecDepth 100000 in
set_option maxHeartbeats 16000000 in
theorem rchecks_any {w : World} {As Af : Option Addr} {m n cs cf : Nat} {sp : List Int} {fa : List RA} (hs : IRow w As sp) (hsl : sp.length = 3 * m) (hm : m ≤ maxLen) (hf : Row4 RatA w Af fa) (hfl : fa.length = 3 * n) (hn : n ≤ maxLen) {b0 b1 b2 : Int} (ht : PowTab w) :
 Calls Tryz.prog 3 #[.slice As m cs, .slice Af n cf, .agg #[.int .i64 b0, .int .i64 b1, .int .i64 b2]] w fun e w' => e = .returned (.bool true) ∧ Keeps w w' := by
 have HF := Lib.hid hf
 have HFL := Lib.hid hfl
 have HS := Lib.hid hs
 have HSL1 := Lib.hid hsl
 have HT := Lib.hid ht
 have hmI : (m : Int) ≤ 9223372036854775807 := by simp only [maxLen] at hm; omega
 have hnI : (n : Int) ≤ 9223372036854775807 := by simp only [maxLen] at hn; omega
 have S := (St.start w).alloc 25 [.int .i64 b0, .int .i64 b1, .int .i64 b2]
 obtain ⟨W0, hW0, S⟩ := S.pack
 clear hs hsl hf hfl ht hm hn
 go_enter Tryz.func3, Tryz.ntmps3
 go_wp2_with fail
 refine (known_r (HT.out.keep S.k)).mono ?_
 rintro e W1 ⟨rfl, hk1⟩
 replace S := S.below hk1
 clear hk1 hW0
 go_upto_region 3 with fail
 go_cut [51] (fun g wx => ∃ b, g = .bool b ∧ Hid (b = false → (m ≤ 8 ∨ 256 < m) ∧ m ≤ 300 ∧ n ≤ 300) ∧ St w wx [(w.heap.size, 25, [.int .i64 b0, .int .i64 b1, .int .i64 b2])] [])
 case first => as_aux_lemma =>
  by_cases h8 : 8 < m
  ·have q1 : decide ((8 : Int) < (m : Int)) = true := decide_eq_true (by omega)
   by_cases h256 : m ≤ 256
   ·have q2 : decide ((m : Int) ≤ 256) = true := decide_eq_true (by omega)
    go_wp2
    go_meet
    case rel => exact ⟨true, rfl, Lib.hid (fun h => by cases h), S⟩
   ·have q2 : decide ((m : Int) ≤ 256) = false := decide_eq_false (by omega)
    have HM : Hid (m ≤ 8 ∨ 256 < m) := Lib.hid (.inr (by omega))
    by_cases h300 : 300 < m
    ·have q3 : decide ((300 : Int) < (m : Int)) = true := decide_eq_true (by omega)
     go_wp2
     go_meet
     case rel => exact ⟨true, rfl, Lib.hid (fun h => by cases h), S⟩
    ·have q3 : decide ((300 : Int) < (m : Int)) = false := decide_eq_false (by omega)
     by_cases hn3 : 300 < n
     ·have q4 : decide ((300 : Int) < (n : Int)) = true := decide_eq_true (by omega)
      go_wp2
      go_meet
      case rel => exact ⟨true, rfl, Lib.hid (fun h => by cases h), S⟩
     ·have q4 : decide ((300 : Int) < (n : Int)) = false := decide_eq_false (by omega)
      have HZZ : Hid ((m ≤ 8 ∨ 256 < m) ∧ m ≤ 300 ∧ n ≤ 300) := Lib.hid ⟨HM.out, by omega, by omega⟩
      go_wp2
      go_meet
      case rel => exact ⟨false, rfl, Lib.hid (fun _ => HZZ.out), S⟩
  ·have q1 : decide ((8 : Int) < (m : Int)) = false := decide_eq_false (by omega)
   have HM : Hid (m ≤ 8 ∨ 256 < m) := Lib.hid (.inl (by omega))
   by_cases h300 : 300 < m
   ·have q3 : decide ((300 : Int) < (m : Int)) = true := decide_eq_true (by omega)
    go_wp2
    go_meet
    case rel => exact ⟨true, rfl, Lib.hid (fun h => by cases h), S⟩
   ·have q3 : decide ((300 : Int) < (m : Int)) = false := decide_eq_false (by omega)
    by_cases hn3 : 300 < n
    ·have q4 : decide ((300 : Int) < (n : Int)) = true := decide_eq_true (by omega)
     go_wp2
     go_meet
     case rel => exact ⟨true, rfl, Lib.hid (fun h => by cases h), S⟩
    ·have q4 : decide ((300 : Int) < (n : Int)) = false := decide_eq_false (by omega)
     have HZZ : Hid ((m ≤ 8 ∨ 256 < m) ∧ m ≤ 300 ∧ n ≤ 300) := Lib.hid ⟨HM.out, by omega, by omega⟩
     go_wp2
     go_meet
     case rel => exact ⟨false, rfl, Lib.hid (fun _ => HZZ.out), S⟩
 case rest =>
  clear S
  obtain ⟨bq, rfl, HB, S⟩ := hcut
  cases bq with
  | true =>
   go_wp2
   go_ret
   exact ⟨rfl, S.k⟩
  | false =>
   obtain ⟨hm8, hm300, hn300⟩ := HB.out rfl
   have HM8 := Lib.hid hm8
   clear HB hm8 hmI hnI
   have hmI : (m : Int) ≤ 300 := by omega
   have hnI : (n : Int) ≤ 300 := by omega
   go_wp2
   go_loopw [7, 54] (fun v i wr => ∃ (k : Nat) (vb : Bool), k ≤ n ∧ i = .int .i64 (k : Nat) ∧ v = .bool vb ∧ Hid (((fa.map raQ).take (3 * k)).all (fun x => x.2) = vb) ∧ Hid (∀ x ∈ fa.take (3 * k), raD x ≤ 4) ∧ St w wr [(w.heap.size, 25, [.int .i64 b0, .int .i64 b1, .int .i64 b2])] []) (fun _ i _ => n - (intOf i).toNat)
   case atStart => exact ⟨0, true, Nat.zero_le _, rfl, rfl, Lib.hid rfl, Lib.hid (by simp), S⟩
   case round =>
    clear S
    obtain ⟨k, vb, hk, rfl, rfl, HV, HD, S⟩ := hrel
    by_cases hlt : k < n
    ·obtain ⟨Bf, of, x, y, z, c0, c1, c2, c3, c4, c5, c6, c7, c8, c9, c10, c11, rfl, hx, hy, hz', hc, hX⟩ := get3g lasts_ra HF.out (i := k) (by rw [HFL.out]; omega)
     obtain ⟨s0, m0, s1, m1⟩ := x
     obtain ⟨s2, m2, s3, m3⟩ := y
     obtain ⟨s4, m4, s5, m5⟩ := z
     obtain ⟨U0, l0, V0, e0, rfl, rfl, rfl, rfl⟩ := RatA.open5 (hX w bl).1
     obtain ⟨U1, l1, V1, e1, rfl, rfl, rfl, rfl⟩ := RatA.open5 (hX w bl).2.1
     obtain ⟨U2, l2, V2, e2, rfl, rfl, rfl, rfl⟩ := RatA.open5 (hX w bl).2.2
     have HX := Lib.hid hX
     have HT3 := Lib.hid (take3g hx hy hz')
     have HVN : Hid (((fa.map raQ).take (3 * (k + 1))).all (fun x => x.2) = (vb && [raQ (s0, m0, s1, m1), raQ (s2, m2, s3, m3), raQ (s4, m4, s5, m5)].all fun x => x.2)) := Lib.hid (by
      have h1 := HV.out
      rw [← List.map_take] at h1
      rw [← List.map_take, take3g hx hy hz', List.map_append, List.all_append, h1]
      rfl)
     obtain ⟨g0, g1, g2, g3, g4, g5, g6, g7, g8, g9, g10, g11⟩ := hc wr S.k
     have hkI : (k : Int) < (n : Int) := by omega
     have t1 : decide ((k : Int) < (n : Int)) = true := decide_eq_true hkI
     clear hx hy hz' hc hX
     go_upto_region 9 with fail
     replace S := S.alloc 32 [.bool s0, .slice U0 m0.length l0, .bool s1, .slice V0 m1.length e0, .bool s2, .slice U1 m2.length l1, .bool s3, .slice V1 m3.length e1, .bool s4, .slice U2 m4.length l2, .bool s5, .slice V2 m5.length e2]
     obtain ⟨W7, eW, S⟩ := S.pack
     rw [eW]
     clear eW g0 g1 g2 g3 g4 g5 g6 g7 g8 g9 g10 g11
     generalize wr.heap.size = P8 at *
     have hrow := three_rowg (R := RatA) (S.o 0 rfl) (HX.out _ S.k).1 (HX.out _ S.k).2.1 (HX.out _ S.k).2.2
     have HSH := Lib.hid (gsh_any (c := 3) hrow rfl (by simp [maxLen]) 3 4 (by omega) (by omega))
     obtain ⟨sb, hsb⟩ : ∃ b, shB 3 4 [(s0, m0, s1, m1), (s2, m2, s3, m3), (s4, m4, s5, m5)] = b := ⟨_, rfl⟩
     rw [hsb] at HSH
     have HSB := Lib.hid hsb
     have HROW := Lib.hid hrow
     clear hsb hrow HX
     go_wp2_with fail
     refine HSH.out.mono ?_
     rintro e W8 ⟨rfl, hk8⟩
     have HROW2 := Lib.hid (HROW.out.below lasts_ra hk8)
     replace S := S.below hk8
     clear hk8 HSH HROW
     cases sb with
     | false =>
      go_wp2
      go_ret
      exact ⟨rfl, S.k⟩
     | true =>
      have HDD := Lib.hid (shB_of HSB.out).2
      have HVL := Lib.hid (gvl_any (c := 3) (Row4.v2 HROW2.out (fun x hx => by have := HDD.out x hx; omega)) rfl (by simp [maxLen]))
      have HD2 : Hid (∀ x ∈ fa.take (3 * (k + 1)), raD x ≤ 4) := Lib.hid fun x hx => by
       rw [HT3.out] at hx
       rcases List.mem_append.1 hx with hx | hx
       ·exact HD.out x hx
       ·exact HDD.out x hx
      simp only [List.map_cons, List.map_nil] at HVL
      obtain ⟨vc, hvc⟩ : ∃ b, ([raQ (s0, m0, s1, m1), raQ (s2, m2, s3, m3), raQ (s4, m4, s5, m5)].all fun x => x.2) = b := ⟨_, rfl⟩
      rw [hvc] at HVL HVN
      clear hvc HDD HSB HD HV HT3 HROW2
      cases vb with
      | false =>
       go_wp2
       go_roundw
       case rel => exact ⟨k + 1, false, by omega, by go_num, rfl, HVN, HD2, S.dropb⟩
       case measure => simp [intOf]; omega
      | true =>
       rw [Bool.true_and] at HVN
       go_wp2_with fail
       refine HVL.out.mono ?_
       rintro e W9 ⟨rfl, hk9⟩
       replace S := (S.below hk9).dropb
       clear hk9
       go_wp2
       go_roundw
       case rel => exact ⟨k + 1, vc, by omega, by go_num, rfl, HVN, HD2, S⟩
       case measure => simp [intOf]; omega
    ·have hkI : ¬ (k : Int) < (n : Int) := by omega
     have t1 : decide ((k : Int) < (n : Int)) = false := decide_eq_false hkI
     obtain rfl : k = n := by omega
     have hd : ∀ x ∈ fa, raD x ≤ 4 := by
      have := HD.out
      rwa [List.take_of_length_le (by rw [HFL.out]; exact Nat.le_refl _)] at this
     have hfv := HF.out.v2 (fun x hx => by have := hd x hx; omega)
     have hzq : ∀ x ∈ fa.map raQ, szR x.1 ≤ 5 := fun x hx => by
      obtain ⟨y, hy, rfl⟩ := List.mem_map.1 hx
      have := hd y hy
      have := raQ_sz y
      omega
     have hfl3 : (fa.map raQ).length = 3 * k := by rw [List.length_map, HFL.out]
     have hvb : (fa.map raQ).all (fun x => x.2) = vb := by
      have := HV.out
      rwa [List.take_of_length_le (by rw [hfl3]; exact Nat.le_refl _)] at this
     have HFV := Lib.hid hfv
     have HZQ := Lib.hid hzq
     have HFL3 := Lib.hid hfl3
     have HVB := Lib.hid hvb
     clear hd hfv hzq hfl3 hvb HV HD HF HFL
     generalize fa.map raQ = fl at *
     go_wp2_with fail
     refine (checks_any (HFV.out.below lasts_v S.k) HFL3.out (Row.below HS.out S.k) HSL1.out (fun x hx => Nat.le_trans (HZQ.out x hx) (by omega)) (by omega) (by omega) HM8.out).mono ?_
     rintro e W9 ⟨V, bb, rfl, hk9, hbad, hgood⟩
     replace S := S.below hk9
     clear hk9
     have hCE : chkC fl sp k m = if !vb then 1 else if m ≠ k then 4 else if m = 0 then 6 else if 256 < m then 3 else if sp.any farB then 2 else 0 := by
      unfold chkC
      have : (fl.any fun x => !x.2) = !vb := by rw [← HVB.out, List.not_all_eq_any_not]
      rw [this]
     obtain ⟨zC, hzC⟩ : ∃ z, chkC fl sp k m = z := ⟨_, rfl⟩
     rw [hzC] at hCE hbad hgood ⊢
     have HCE := Lib.hid hCE
     have HZC := Lib.hid hzC
     clear hCE hzC
     by_cases hc0 : zC = 0
     ·obtain ⟨rfl, rfl, hm0, hm256, hfar⟩ : vb = true ∧ m = k ∧ m ≠ 0 ∧ ¬ 256 < m ∧ sp.any farB = false := by
       have h := HCE.out
       rw [hc0] at h
       cases vb with
       | false =>
        rw [if_pos (by decide)] at h
        exact absurd h (by decide)
       | true =>
        rw [if_neg (by decide)] at h
        by_cases h1 : m = k
        ·rw [if_neg (by simpa using h1)] at h
         by_cases h2 : m = 0
         ·rw [if_pos h2] at h
          exact absurd h (by decide)
         ·rw [if_neg h2] at h
          by_cases h3 : 256 < m
          ·rw [if_pos h3] at h
           exact absurd h (by decide)
          ·rw [if_neg h3] at h
           refine ⟨rfl, h1, h2, h3, ?_⟩
           cases h4 : sp.any farB with
           | false => rfl
           | true => rw [h4] at h; exact absurd h (by decide)
        ·rw [if_pos h1] at h
         exact absurd h (by decide)
      obtain ⟨rfl, L0, hL3, rfl, hSF⟩ := hgood hc0
      subst hc0
      obtain ⟨⟨s0, A0, n0, c0, t0, B0, m0, e0⟩, ⟨s1, A1, n1, c1, t1', B1, m1, e1⟩, ⟨s2, A2, n2, c2, t2', B2, m2, e2⟩, rfl⟩ := len3 hL3
      replace S := S.addF hSF
      have HFR := Lib.hid hfar
      have hm8 : m ≤ 8 := by have := HM8.out; omega
      have HFC := Lib.hid (fun (u : World) (hk : Keeps w u) => farC_any (c := cs) (Row.below HS.out hk) HSL1.out (by omega))
      rw [hfar] at HFC
      have t2 : ((m : Int) != (m : Int)) = false := by simp
      have t3 : ((m : Int) == 0) = false := by simp; omega
      have t4 : decide ((256 : Int) < (m : Int)) = false := decide_eq_false (by omega)
      have HM0 := Lib.hid hm0
      have hV : (.agg (cellsQ [⟨s0, A0, n0, c0, t0, B0, m0, e0⟩, ⟨s1, A1, n1, c1, t1', B1, m1, e1⟩, ⟨s2, A2, n2, c2, t2', B2, m2, e2⟩]).toArray : Value) = .agg #[.bool s0, .slice A0 n0 c0, .bool t0, .slice B0 m0 e0, .bool s1, .slice A1 n1 c1, .bool t1', .slice B1 m1 e1, .bool s2, .slice A2 n2 c2, .bool t2', .slice B2 m2 e2] := rfl
      rw [hV]
      clear hV hbad hgood hL3 hSF hfar hm0 hm256 HCE HVB HM8
      go_upto_region 15 with fail
      replace S := S.alloc 32 [.bool s0, .slice A0 n0 c0, .bool t0, .slice B0 m0 e0, .bool s1, .slice A1 n1 c1, .bool t1', .slice B1 m1 e1, .bool s2, .slice A2 n2 c2, .bool t2', .slice B2 m2 e2]
      obtain ⟨WB, eW, S⟩ := S.pack
      rw [eW]
      clear eW
      generalize W9.heap.size = P11 at *
      obtain ⟨R, HR3, S⟩ : ∃ R : List Rn, Hid (R.length = 3) ∧ St w WB [(P11, 32, cellsQ R), (w.heap.size, 25, [.int .i64 b0, .int .i64 b1, .int .i64 b2])] [SumF R (fun c => totK fl sp c m)] := ⟨[⟨s0, A0, n0, c0, t0, B0, m0, e0⟩, ⟨s1, A1, n1, c1, t1', B1, m1, e1⟩, ⟨s2, A2, n2, c2, t2', B2, m2, e2⟩], Lib.hid rfl, S⟩
      obtain ⟨bm, hbm⟩ : ∃ b, (bestK fl sp m).1 = b := ⟨_, rfl⟩
      have HBM := Lib.hid hbm
      rw [hbm]
      clear hbm
      go_wp2_with fail
      refine (HFC.out _ S.k).mono ?_
      rintro e W10 ⟨rfl, hk10⟩
      replace S := S.below hk10
      clear hk10 HFC
      go_upto_region 29 with fail
      replace S := S.alloc 32 zr12
      obtain ⟨W11, eW, S⟩ := S.pack
      rw [eW]
      clear eW t2 t3 t4
      generalize W10.heap.size = P15 at *
      go_wp2_with fail
      refine (lwhole_num (-1) (by omega) (by omega)).mono ?_
      rintro e W12 ⟨U, rfl, hp, hk1⟩
      obtain ⟨bh, Ah, nh, ch, dh, Bh, mh, eh, rfl⟩ := hp.open_
      replace S := (S.below hk1).addQ hp
      clear hk1 hp
      go_upto_region 30 with fail
      replace S := S.alloc 31 [.bool bh, .slice Ah nh ch, .bool dh, .slice Bh mh eh]
      obtain ⟨W13, eW, S⟩ := S.pack
      rw [eW]
      clear eW
      generalize W12.heap.size = P17 at *
      go_wp2
      go_loopw [120] (fun i wr => ∃ (j : Nat) (L : List Rn), j ≤ 3 ∧ i = .int .i64 (j : Nat) ∧ Hid (L.length = 3) ∧ St w wr [(P17, 31, [.bool bh, .slice Ah nh ch, .bool dh, .slice Bh mh eh]), (P15, 32, cellsQ L), (P11, 32, cellsQ R), (w.heap.size, 25, [.int .i64 b0, .int .i64 b1, .int .i64 b2])] [SumF (L.take j) (fun _ => 0), fun w => RatRep w (.agg #[.bool bh, .slice Ah nh ch, .bool dh, .slice Bh mh eh]) ((-1 : Int) : Rat), SumF R (fun c => totK fl sp c m)]) (fun i _ => 3 - (intOf i).toNat)
      case atStart => exact ⟨0, [rz0, rz0, rz0], Nat.zero_le _, rfl, Lib.hid rfl, S.addF (fun j hj => absurd hj (by simp))⟩
      case round =>
       clear S
       obtain ⟨j, L, hj, rfl, HL3, S⟩ := hrel
       by_cases hj3 : j < 3
       ·as_aux_lemma =>
        have hjI : (j : Int) < 3 := by omega
        have t6 : decide ((j : Int) < 3) = true := decide_eq_true hjI
        have HKL : Hid (j < L.length) := Lib.hid (by rw [HL3.out]; exact hj3)
        go_wp2_with fail
        refine (lwhole_num 0 (by omega) (by omega)).mono ?_
        rintro e W14 ⟨U, rfl, hp, hk1⟩
        obtain ⟨ba, Aa, na, ca, da, Ba, ma, ea, rfl⟩ := hp.open_
        replace S := (S.below hk1)
        have HP := Lib.hid hp
        clear hk1 hp
        have f0 := S.f 1 (j * 4) rfl
        have f1 := S.f 1 (j * 4 + 1) rfl
        have f2 := S.f 1 (j * 4 + 2) rfl
        have f3 := S.f 1 (j * 4 + 3) rfl
        obtain ⟨v0, v1, v2, v3⟩ := S.cR 1 j rfl HKL.out
        go_wp2
        replace S := (S.addQ HP.out).putR 1 j rfl HKL.out ⟨ba, Aa, na, ca, da, Ba, ma, ea⟩
        clear f0 f1 f2 f3 v0 v1 v2 v3
        have hq := S.qi 0 rfl
        have hs := S.fi 1 rfl
        have hg := S.qi 2 rfl
        have hr := S.fi 3 rfl
        have S2 := ((S.onlyL.addF hr).addQ hg).addF (hs.more HKL.out (a := ⟨ba, Aa, na, ca, da, Ba, ma, ea⟩) hq)
        go_roundw
        case rel => exact ⟨j + 1, _, by omega, by go_num, Lib.hid (by rw [List.length_set]; exact HL3.out), S2⟩
        case measure => simp [intOf]; omega
       ·have hjI : ¬ (j : Int) < 3 := by omega
        have t6 : decide ((j : Int) < 3) = false := decide_eq_false hjI
        obtain rfl : j = 3 := by omega
        go_wp2
        go_loopw [16, 129] (fun v i wr => ∃ (k : Nat) (L : List Rn) (r : Rn), k ≤ m ∧ i = .int .i64 (k : Nat) ∧ v = .int .i64 ((bestK fl sp k).1 : Nat) ∧ Hid (L.length = 3) ∧ Hid (∀ c, c < 3 → szR (totK fl sp c k) ≤ 1 + 205 * k) ∧ Hid (szR (bestK fl sp k).2 ≤ 700) ∧
         St w wr [(P17, 31, r.cs), (P15, 32, cellsQ L), (P11, 32, cellsQ R), (w.heap.size, 25, [.int .i64 b0, .int .i64 b1, .int .i64 b2])] [fun w => RatRep w r.v (bestK fl sp k).2, SumF L (fun j => totK fl sp j k), SumF R (fun c => totK fl sp c m)]) (fun _ i _ => m - (intOf i).toNat)
        case atStart =>
         have hs := S.fi 0 rfl
         have hg := S.qi 1 rfl
         have hr := S.fi 2 rfl
         rw [List.take_of_length_le (by rw [HL3.out]; exact Nat.le_refl _)] at hs
         exact ⟨0, L, ⟨bh, Ah, nh, ch, dh, Bh, mh, eh⟩, Nat.zero_le _, rfl, rfl, HL3, Lib.hid (fun c _ => szR_null), Lib.hid (show szR (-1 : Rat) ≤ 700 by decide +kernel), ((S.onlyL.addF hr).addF hs).addQ hg⟩
        case round =>
         clear S HL3
         obtain ⟨k, L, ⟨bg, Ag, ng, cg, dg, Bg, mg, eg⟩, hk, rfl, rfl, HL3, HZT, HZB, S⟩ := hrel
         by_cases hlt : k < m
         ·as_aux_lemma =>
          obtain ⟨Bs, os, rfl, hc⟩ := spot_at HS.out HSL1.out hlt
          obtain ⟨g0, g1, g2⟩ := hc wr S.k
          obtain ⟨x0, hx0⟩ : ∃ x, sp.getD (3 * k) 0 = x := ⟨_, rfl⟩
          obtain ⟨x1, hx1⟩ : ∃ x, sp.getD (3 * k + 1) 0 = x := ⟨_, rfl⟩
          obtain ⟨x2, hx2⟩ : ∃ x, sp.getD (3 * k + 2) 0 = x := ⟨_, rfl⟩
          rw [hx0] at g0
          rw [hx1] at g1
          rw [hx2] at g2
          have HXS : Hid (∀ j, j < 3 → [Value.int .i64 x0, .int .i64 x1, .int .i64 x2][j]? = some (.int .i64 (sp.getD (3 * k + j) 0))) := Lib.hid fun j hj => by
           have : j = 0 ∨ j = 1 ∨ j = 2 := by omega
           rcases this with rfl | rfl | rfl
           ·rw [Nat.add_zero, hx0]; rfl
           ·rw [hx1]; rfl
           ·rw [hx2]; rfl
          have hkI : (k : Int) < (m : Int) := by omega
          have t5 : decide ((k : Int) < (m : Int)) = true := decide_eq_true hkI
          clear hx0 hx1 hx2 hc
          go_upto_region 38 with fail
          replace S := S.alloc 25 [.int .i64 x0, .int .i64 x1, .int .i64 x2]
          obtain ⟨W15, eW, S⟩ := S.pack
          rw [eW]
          clear eW g0 g1 g2
          generalize wr.heap.size = P20 at *
          go_wp2_with fail
          refine (lwhole_num 0 (by omega) (by omega)).mono ?_
          rintro e W16 ⟨U, rfl, hp, hk1⟩
          obtain ⟨bz, Az, nz, cz, dz, Bz, mz, ez, rfl⟩ := hp.open_
          replace S := (S.below hk1).addQ hp
          clear hk1 hp
          go_upto_region 39 with fail
          replace S := S.alloc 31 [.bool bz, .slice Az nz cz, .bool dz, .slice Bz mz ez]
          obtain ⟨W17, eW, S⟩ := S.pack
          rw [eW]
          clear eW
          generalize W16.heap.size = P21 at *
          have g0 := S.c 1 0 rfl rfl
          have g1 := S.c 1 1 rfl rfl
          have g2 := S.c 1 2 rfl rfl
          go_upto_block 7 with fail
          replace S := S.alloc 3 [.int .i64 x0, .int .i64 x1, .int .i64 x2]
          obtain ⟨W18, eW, S⟩ := S.pack
          rw [eW]
          clear eW g0 g1 g2
          generalize W17.heap.size = P25 at *
          have HB : Hid (bestK fl sp (k + 1) = if (bestK fl sp k).2 < allK fl sp k 3 then (k, allK fl sp k 3) else bestK fl sp k) := Lib.hid rfl
          go_wp2
          go_loopw [143] (fun v wr => ∃ (j : Nat) (L : List Rn) (r : Rn), j ≤ 3 ∧ v = .int .i64 (j : Nat) ∧ Hid (L.length = 3) ∧ Hid (szR (allK fl sp k j) ≤ 1 + 205 * j) ∧ Hid (∀ c, c < j → szR (totK fl sp c (k + 1)) ≤ 1 + 205 * (k + 1)) ∧
           St w wr [(P25, 3, [.int .i64 x0, .int .i64 x1, .int .i64 x2]), (P21, 31, r.cs), (P20, 25, [.int .i64 x0, .int .i64 x1, .int .i64 x2]), (P17, 31, [.bool bg, .slice Ag ng cg, .bool dg, .slice Bg mg eg]), (P15, 32, cellsQ L), (P11, 32, cellsQ R), (w.heap.size, 25, [.int .i64 b0, .int .i64 b1, .int .i64 b2])]
            [fun w => RatRep w r.v (allK fl sp k j), SumF L (fun i => if i < j then totK fl sp i (k + 1) else totK fl sp i k), fun w => RatRep w (.agg #[.bool bg, .slice Ag ng cg, .bool dg, .slice Bg mg eg]) (bestK fl sp k).2, SumF R (fun c => totK fl sp c m)]) (fun v _ => 3 - (intOf v).toNat)
          case atStart =>
           have hz0 := S.qi 0 rfl
           have hg := S.qi 1 rfl
           have hs := S.fi 2 rfl
           have hr := S.fi 3 rfl
           exact ⟨0, L, ⟨bz, Az, nz, cz, dz, Bz, mz, ez⟩, Nat.zero_le _, rfl, HL3, Lib.hid szR_null, Lib.hid (fun c hc => absurd hc (by omega)), (((S.onlyL.addF hr).addQ hg).addF (hs.congr fun i _ => by simp)).addQ hz0⟩
          case round =>
           clear S HL3
           obtain ⟨j, L, ⟨ba, Aa, na, ca, da, Ba, ma, ea⟩, hj, rfl, HL3, HZA, HZN, S⟩ := hrel
           by_cases hj3 : j < 3
           ·have hjI : (j : Int) < 3 := by omega
            have t6 : decide ((j : Int) < 3) = true := decide_eq_true hjI
            have hxs := HXS.out j hj3
            obtain ⟨xk, hxk⟩ : ∃ x, sp.getD (3 * k + j) 0 = x := ⟨_, rfl⟩
            rw [hxk] at hxs
            have HXK := Lib.hid hxk
            have x9 := S.c 0 j rfl hxs
            have hbx : -1048576 ≤ xk ∧ xk ≤ 1048576 := by
             have h2 : 3 * k + j < sp.length := by rw [HSL1.out]; omega
             have h1 := List.any_eq_false.1 HFR.out (sp.getD (3 * k + j) 0) (by rw [List.getD, List.getElem?_eq_getElem h2]; exact List.getElem_mem h2)
             rw [hxk] at h1
             unfold farB at h1
             simp at h1
             omega
            obtain ⟨hlo, hhi⟩ := hbx
            clear hxk hxs
            go_upto_region 42 with fail
            clear x9
            obtain ⟨⟨qf, vf⟩, hqf⟩ : ∃ x, fl[3 * k + j]? = some x := ⟨_, List.getElem?_eq_getElem (by rw [HFL3.out]; omega)⟩
            obtain ⟨Bf, of, d0, d1, d2, d3, rfl, hcf, hxf⟩ := HFV.out.get lasts_v hqf
            obtain ⟨fb, fA, fn, fc, fd, fB, fm, fe, rfl, rfl, rfl, rfl⟩ := (hxf w bl).open4
            have HCF : Hid (∀ u, Keeps w u → u.cell? ⟨Bf, of + k * 12 + j * 4, none⟩ = some (.bool fb) ∧ u.cell? ⟨Bf, of + k * 12 + j * 4 + 1, none⟩ = some (.slice fA fn fc) ∧ u.cell? ⟨Bf, of + k * 12 + j * 4 + 2, none⟩ = some (.bool fd) ∧ u.cell? ⟨Bf, of + k * 12 + j * 4 + 3, none⟩ = some (.slice fB fm fe)) := Lib.hid fun u hk => by
             have h := hcf u hk
             rwa [show of + (3 * k + j) * 4 = of + k * 12 + j * 4 by omega] at h
            have hfq : fq fl (3 * k + j) = qf := by unfold fq; rw [List.getD, hqf]; rfl
            have zf := HZQ.out _ (List.mem_of_getElem? hqf)
            simp only at zf
            have zx := szR_small' (x := xk) (by omega) (by omega)
            have hsq : sqK fl sp k j = (qf - (xk : Rat)) * (qf - (xk : Rat)) := by unfold sqK dK; rw [hfq, HXK.out]
            have HSQ := Lib.hid hsq
            obtain ⟨⟨rb, rA, rn, rc, rd', rB, rm, re⟩, hre⟩ : ∃ r, L.getD j rz0 = r := ⟨_, rfl⟩
            have hqt := S.fi 1 rfl j (by rw [HL3.out]; exact hj3)
            simp only [Nat.lt_irrefl, if_false] at hqt
            rw [hre] at hqt
            have HKL : Hid (j < L.length) := Lib.hid (by rw [HL3.out]; exact hj3)
            have HRE := Lib.hid hre
            have hqa := S.qi 0 rfl
            have zt := HZT.out j hj3
            have za := HZA.out
            obtain ⟨qt, hqt2⟩ : ∃ q, totK fl sp j k = q := ⟨_, rfl⟩
            obtain ⟨qa, hqa2⟩ : ∃ q, allK fl sp k j = q := ⟨_, rfl⟩
            have HQT := Lib.hid hqt2
            have HQA := Lib.hid hqa2
            rw [hqt2] at hqt zt
            rw [hqa2] at hqa za
            replace S := ((S.addR (RatV.num (hxf wr S.k))).addQ hqt).addQ hqa
            clear hqf hcf hxf hfq hsq hre hqt2 hqa2 hqt hqa
            have y0 := szR_int xk
            have y1 := szR_sub qf (((xk : Int) : Rat))
            have y2 := szR_mul (qf - (((xk : Int) : Rat))) (qf - (((xk : Int) : Rat)))
            have y3 := szR_add qt ((qf - (((xk : Int) : Rat))) * (qf - (((xk : Int) : Rat))))
            go_upto_region 42 with fail
            refine wp_region_steps (m := 10) rfl (by kernel_rfl) (fun iF vF wF => (List.getD [ve (.slice (some ⟨Bf, of, none⟩) m cf), ve (.int .i64 (k : Int)), ve (.int .i64 (j : Int)), ve (.pointer (some ⟨Bf, of + k * 12, none⟩)), ve (.pointer (some ⟨Bf, of + k * 12 + j * 4, none⟩)), ve (.agg #[.bool fb, .slice fA fn fc, .bool fd, .slice fB fm fe]), ve (.int .i64 xk), fun vF wF => RatRep wF vF (((xk : Int) : Rat)), fun vF wF => RatRep wF vF (qf - (((xk : Int) : Rat))), fun vF wF => ∃ b, vF = .pointer (some ⟨b, 0, none⟩) ∧ wr.heap.size ≤ b ∧ Own wF b 31 [.bool false, .slice none 0 0, .bool false, .slice none 0 0]] iF (fun _ _ => True)) vF wF) [9] ?_ ?_ ?_
            ·intro i v w w' _ h hk
             refine stabL_get ?_ i v w w' h hk
             exact stab_cons st_e (stab_cons st_e (stab_cons st_e (stab_cons st_e (stab_cons st_e (stab_cons st_e (stab_cons st_e (stab_cons st_q (stab_cons st_q (stab_cons st_a stab_nil)))))))))
            ·intro i hi vs w3 hk3 hd
             have S3 := S.drew.below hk3
             obtain ⟨g0, g1, g2, g3⟩ := HCF.out _ S3.k
             match i, hi with
             | 0, _ =>
              refine sv0 [] (ve (.slice (some ⟨Bf, of, none⟩) m cf)) rfl fun K hK => ?_; clear hd; simp only [frD] at hK ⊢; go_simp
              exact hK _ _ bl rfl
             | 1, _ =>
              refine sv0 [] (ve (.int .i64 (k : Int))) rfl fun K hK => ?_; clear hd; simp only [frD] at hK ⊢; go_simp
              exact hK _ _ bl rfl
             | 2, _ =>
              refine sv0 [] (ve (.int .i64 (j : Int))) rfl fun K hK => ?_; clear hd; simp only [frD] at hK ⊢; go_simp
              exact hK _ _ bl rfl
             | 3, _ =>
              have qe0 : (vs 0) = .slice (some ⟨Bf, of, none⟩) m cf := hdk hd 0; have qe1 : (vs 1) = .int .i64 (k : Int) := hdk hd 1
              refine sv0 [(0, some 148), (1, some 149)] (ve (.pointer (some ⟨Bf, of + k * 12, none⟩))) rfl fun K hK => ?_; clear hd; simp only [frD, qe0, qe1] at hK ⊢; go_simp
              exact hK _ _ bl rfl
             | 4, _ =>
              have qe2 : (vs 2) = .int .i64 (j : Int) := hdk hd 2; have qe3 : (vs 3) = .pointer (some ⟨Bf, of + k * 12, none⟩) := hdk hd 3
              refine sv0 [(2, some 150), (3, some 151)] (ve (.pointer (some ⟨Bf, of + k * 12 + j * 4, none⟩))) rfl fun K hK => ?_; clear hd; simp only [frD, qe2, qe3] at hK ⊢; go_simp
              exact hK _ _ bl rfl
             | 5, _ =>
              have qe4 : (vs 4) = .pointer (some ⟨Bf, of + k * 12 + j * 4, none⟩) := hdk hd 4
              refine sv0 [(4, some 152)] (ve (.agg #[.bool fb, .slice fA fn fc, .bool fd, .slice fB fm fe])) rfl fun K hK => ?_; clear hd; simp only [frD, qe4] at hK ⊢; go_simp
              exact hK _ _ bl rfl
             | 6, _ =>
              refine sv0 [] (ve (.int .i64 xk)) rfl fun K hK => ?_; clear hd; simp only [frD] at hK ⊢; go_simp
              exact hK _ _ bl rfl
             | 7, _ =>
              have qe6 : (vs 6) = .int .i64 xk := hdk hd 6
              refine sc (A := #[(vs 6)]) (B := #[.int .i64 xk]) [(6, some 154)] (fun vF wF => RatRep wF vF (((xk : Int) : Rat))) rfl (wanted_none rfl) (by rw [qe6]) Tryz.func14 ?_
              refine ((lwhole_num xk (by omega) (by omega))).mono ?_; rintro e w4 ⟨U, rfl, hr, hk4⟩; exact ⟨_, rfl, hk4, hr⟩
             | 8, _ =>
              have qe5 : (vs 5) = .agg #[.bool fb, .slice fA fn fc, .bool fd, .slice fB fm fe] := hdk hd 5; have h7 : RatRep w3 (vs 7) (((xk : Int) : Rat)) := hdk hd 7
              refine sc (A := #[(vs 5), (vs 7)]) (B := #[.agg #[.bool fb, .slice fA fn fc, .bool fd, .slice fB fm fe], (vs 7)]) [(5, some 153), (7, some 155)] (fun vF wF => RatRep wF vF (qf - (((xk : Int) : Rat)))) rfl (wanted_none rfl) (by rw [qe5]) Tryz.func15 ?_
              refine ((lsub_num (S3.ri 2 rfl) (h7.num (by omega)))).mono ?_; rintro e w4 ⟨U, rfl, hr, hk4⟩; exact ⟨_, rfl, hk4, hr⟩
             | 9, _ =>
              refine step_yes [] rfl (by kernel_rfl) fun K hK => ?_; simp only [frD] at hK ⊢; refine ⟨by rfl, ?_⟩; go_simp
              exact hK _ _ ⟨bl.alloc (Nat.le_refl _) _, ⟨_, rfl, hk3.size, Own.new w3 _ _⟩, fun _ => ⟨rfl, by simp⟩⟩
             | i + 10, hi => exact absurd hi (by omega)
            ·intro vs W41 hk3 hΦ _
             simp only [List.drop_succ_cons, List.drop_zero]
             rw [fr_frD, show (List.range 10).map _ = [(0, some 148), (1, some 149), (2, some 150), (3, some 151), (4, some 152), (5, some 153), (6, some 154), (7, some 155), (8, some 156), (9, some 24)] by kernel_rfl]
             have pe0 : (vs 0) = .slice (some ⟨Bf, of, none⟩) m cf := hΦ 0 (by decide)
             have pe1 : (vs 1) = .int .i64 (k : Int) := hΦ 1 (by decide)
             have pe2 : (vs 2) = .int .i64 (j : Int) := hΦ 2 (by decide)
             have pe3 : (vs 3) = .pointer (some ⟨Bf, of + k * 12, none⟩) := hΦ 3 (by decide)
             have pe4 : (vs 4) = .pointer (some ⟨Bf, of + k * 12 + j * 4, none⟩) := hΦ 4 (by decide)
             have pe5 : (vs 5) = .agg #[.bool fb, .slice fA fn fc, .bool fd, .slice fB fm fe] := hΦ 5 (by decide)
             have pe6 : (vs 6) = .int .i64 xk := hΦ 6 (by decide)
             have pe7 : RatRep W41 (vs 7) (((xk : Int) : Rat)) := hΦ 7 (by decide)
             have pe8 : RatRep W41 (vs 8) (qf - (((xk : Int) : Rat))) := hΦ 8 (by decide)
             have pe9 : ∃ b, (vs 9) = .pointer (some ⟨b, 0, none⟩) ∧ wr.heap.size ≤ b ∧ Own W41 b 31 [.bool false, .slice none 0 0, .bool false, .slice none 0 0] := hΦ 9 (by decide)
             clear hΦ
             obtain ⟨bpe9, qA9, hlA9, hOA9⟩ := pe9
             simp only [frD, pe0, pe1, pe2, pe3, pe4, pe5, pe6, qA9]
             simp only [Act.put, List.setIfInBounds_toArray, List.set_cons_zero, List.set_cons_succ]
             clear pe0 pe1 pe2 pe3 pe4 pe5 pe6
             generalize vs 7 = Upe7 at pe7 ⊢
             generalize vs 8 = Upe8 at pe8 ⊢
             replace S := S.drew.box (S.drew.below hk3) hOA9 hlA9
             clear qA9 hlA9 hOA9
             clear pe7
             obtain ⟨b43, A43, n43, c43, d43, B43, m43, e43, rfl⟩ := pe8.open_
             replace S := S.addQ pe8
             clear pe8
             clear hk3
             have r7_0 := S.c 0 0 rfl rfl
             have f7_0 := S.f 0 0 rfl
             have r7_1 := S.c 0 1 rfl rfl
             have f7_1 := S.f 0 1 rfl
             have r7_2 := S.c 0 2 rfl rfl
             have f7_2 := S.f 0 2 rfl
             have r7_3 := S.c 0 3 rfl rfl
             have f7_3 := S.f 0 3 rfl
             go_upto_region 43 with fail
             replace S := (S.put4 0 rfl rfl rfl (x' := .bool b43) (y' := .slice A43 n43 c43) (z' := .bool d43) (u' := .slice B43 m43 e43))
             obtain ⟨W42, eW, S⟩ := S.pack
             rw [eW]
             clear eW
             clear r7_0 f7_0 r7_1 f7_1 r7_2 f7_2 r7_3 f7_3
             refine wp_region_steps (m := 8) rfl (by kernel_rfl) (fun iF vF wF => (List.getD [ve (.int .i64 (j : Int)), ve (.int .i64 (j : Int)), ve (.pointer (some ⟨P15, j * 4, none⟩)), ve (.agg #[.bool rb, .slice rA rn rc, .bool rd', .slice rB rm re]), ve (.agg #[.bool b43, .slice A43 n43 c43, .bool d43, .slice B43 m43 e43]), ve (.agg #[.bool b43, .slice A43 n43 c43, .bool d43, .slice B43 m43 e43]), fun vF wF => RatRep wF vF ((qf - (((xk : Int) : Rat))) * (qf - (((xk : Int) : Rat)))), fun vF wF => RatRep wF vF (qt + ((qf - (((xk : Int) : Rat))) * (qf - (((xk : Int) : Rat)))))] iF (fun _ _ => True)) vF wF) [] ?_ ?_ ?_
             ·intro i v w w' _ h hk
              refine stabL_get ?_ i v w w' h hk
              exact stab_cons st_e (stab_cons st_e (stab_cons st_e (stab_cons st_e (stab_cons st_e (stab_cons st_e (stab_cons st_q (stab_cons st_q stab_nil)))))))
             ·intro i hi vs w3 hk3 hd
              have S3 := S.drew.below hk3
              obtain ⟨g0, g1, g2, g3⟩ := S3.cR 5 j rfl HKL.out
              rw [HRE.out] at g0 g1 g2 g3
              obtain ⟨a0, a1, a2, a3⟩ := S3.cc4 0 rfl
              match i, hi with
              | 0, _ =>
               refine sv0 [] (ve (.int .i64 (j : Int))) rfl fun K hK => ?_; clear hd; simp only [frD] at hK ⊢; go_simp
               exact hK _ _ bl rfl
              | 1, _ =>
               refine sv0 [] (ve (.int .i64 (j : Int))) rfl fun K hK => ?_; clear hd; simp only [frD] at hK ⊢; go_simp
               exact hK _ _ bl rfl
              | 2, _ =>
               have qe1 : (vs 1) = .int .i64 (j : Int) := hdk hd 1
               refine sv0 [(1, some 158)] (ve (.pointer (some ⟨P15, j * 4, none⟩))) rfl fun K hK => ?_; clear hd; simp only [frD, qe1] at hK ⊢; go_simp
               exact hK _ _ bl rfl
              | 3, _ =>
               have qe2 : (vs 2) = .pointer (some ⟨P15, j * 4, none⟩) := hdk hd 2
               refine sv0 [(2, some 159)] (ve (.agg #[.bool rb, .slice rA rn rc, .bool rd', .slice rB rm re])) rfl fun K hK => ?_; clear hd; simp only [frD, qe2] at hK ⊢; go_simp
               exact hK _ _ bl rfl
              | 4, _ =>
               refine sv0 [] (ve (.agg #[.bool b43, .slice A43 n43 c43, .bool d43, .slice B43 m43 e43])) rfl fun K hK => ?_; clear hd; simp only [frD] at hK ⊢; go_simp
               exact hK _ _ bl rfl
              | 5, _ =>
               refine sv0 [] (ve (.agg #[.bool b43, .slice A43 n43 c43, .bool d43, .slice B43 m43 e43])) rfl fun K hK => ?_; clear hd; simp only [frD] at hK ⊢; go_simp
               exact hK _ _ bl rfl
              | 6, _ =>
               have qe4 : (vs 4) = .agg #[.bool b43, .slice A43 n43 c43, .bool d43, .slice B43 m43 e43] := hdk hd 4; have qe5 : (vs 5) = .agg #[.bool b43, .slice A43 n43 c43, .bool d43, .slice B43 m43 e43] := hdk hd 5
               refine sc (A := #[(vs 4), (vs 5)]) (B := #[.agg #[.bool b43, .slice A43 n43 c43, .bool d43, .slice B43 m43 e43], .agg #[.bool b43, .slice A43 n43 c43, .bool d43, .slice B43 m43 e43]]) [(4, some 161), (5, some 162)] (fun vF wF => RatRep wF vF ((qf - (((xk : Int) : Rat))) * (qf - (((xk : Int) : Rat))))) rfl (wanted_none rfl) (by rw [qe4, qe5]) Tryz.func17 ?_
               refine ((lmul_num ((S3.qi 0 rfl).num (by omega)) ((S3.qi 0 rfl).num (by omega)))).mono ?_; rintro e w4 ⟨U, rfl, hr, hk4⟩; exact ⟨_, rfl, hk4, hr⟩
              | 7, _ =>
               have qe3 : (vs 3) = .agg #[.bool rb, .slice rA rn rc, .bool rd', .slice rB rm re] := hdk hd 3; have h6 : RatRep w3 (vs 6) ((qf - (((xk : Int) : Rat))) * (qf - (((xk : Int) : Rat)))) := hdk hd 6
               refine sc (A := #[(vs 3), (vs 6)]) (B := #[.agg #[.bool rb, .slice rA rn rc, .bool rd', .slice rB rm re], (vs 6)]) [(3, some 160), (6, some 163)] (fun vF wF => RatRep wF vF (qt + ((qf - (((xk : Int) : Rat))) * (qf - (((xk : Int) : Rat)))))) rfl (wanted_none rfl) (by rw [qe3]) Tryz.func16 ?_
               refine ((gadd_num ((S3.qi 2 rfl).num (by omega)) (h6.num (by omega)))).mono ?_; rintro e w4 ⟨U, rfl, hr, hk4⟩; exact ⟨_, rfl, hk4, hr⟩
              | i + 8, hi => exact absurd hi (by omega)
             ·intro vs W43 hk3 hΦ _
              simp only [List.drop_succ_cons, List.drop_zero]
              rw [fr_frD, show (List.range 8).map _ = [(0, some 157), (1, some 158), (2, some 159), (3, some 160), (4, some 161), (5, some 162), (6, some 163), (7, some 164)] by kernel_rfl]
              have pf0 : (vs 0) = .int .i64 (j : Int) := hΦ 0 (by decide)
              have pf1 : (vs 1) = .int .i64 (j : Int) := hΦ 1 (by decide)
              have pf2 : (vs 2) = .pointer (some ⟨P15, j * 4, none⟩) := hΦ 2 (by decide)
              have pf3 : (vs 3) = .agg #[.bool rb, .slice rA rn rc, .bool rd', .slice rB rm re] := hΦ 3 (by decide)
              have pf4 : (vs 4) = .agg #[.bool b43, .slice A43 n43 c43, .bool d43, .slice B43 m43 e43] := hΦ 4 (by decide)
              have pf5 : (vs 5) = .agg #[.bool b43, .slice A43 n43 c43, .bool d43, .slice B43 m43 e43] := hΦ 5 (by decide)
              have pf6 : RatRep W43 (vs 6) ((qf - (((xk : Int) : Rat))) * (qf - (((xk : Int) : Rat)))) := hΦ 6 (by decide)
              have pf7 : RatRep W43 (vs 7) (qt + ((qf - (((xk : Int) : Rat))) * (qf - (((xk : Int) : Rat))))) := hΦ 7 (by decide)
              clear hΦ
              simp only [frD, pf0, pf1, pf2, pf3, pf4, pf5]
              simp only [Act.put, List.setIfInBounds_toArray, List.set_cons_zero, List.set_cons_succ]
              clear pf0 pf1 pf2 pf3 pf4 pf5
              generalize vs 6 = Upf6 at pf6 ⊢
              generalize vs 7 = Upf7 at pf7 ⊢
              replace S := S.drew.below hk3
              clear pf6
              obtain ⟨b44, A44, n44, c44, d44, B44, m44, e44, rfl⟩ := pf7.open_
              replace S := S.addQ pf7
              clear pf7
              clear hk3
              have f0 := S.f 5 (j * 4) rfl
              have f1 := S.f 5 (j * 4 + 1) rfl
              have f2 := S.f 5 (j * 4 + 2) rfl
              have f3 := S.f 5 (j * 4 + 3) rfl
              obtain ⟨v0, v1, v2, v3⟩ := S.cR 5 j rfl HKL.out
              go_upto_region 44 with fail
              replace S := S.putR 5 j rfl HKL.out ⟨b44, A44, n44, c44, d44, B44, m44, e44⟩
              obtain ⟨W50, eW, S⟩ := S.pack
              rw [eW]
              clear eW f0 f1 f2 f3 v0 v1 v2 v3
              have y0 := szR_mul (qf - (xk : Rat)) (qf - (xk : Rat))
              have y1 := szR_add qa ((qf - (xk : Rat)) * (qf - (xk : Rat)))
              go_upto_region 44 with fail
              refine wp_region_steps (m := 5) rfl (by kernel_rfl) (fun iF vF wF => (List.getD [ve (.agg #[.bool ba, .slice Aa na ca, .bool da, .slice Ba ma ea]), ve (.agg #[.bool b43, .slice A43 n43 c43, .bool d43, .slice B43 m43 e43]), ve (.agg #[.bool b43, .slice A43 n43 c43, .bool d43, .slice B43 m43 e43]), fun vF wF => RatRep wF vF ((qf - (xk : Rat)) * (qf - (xk : Rat))), fun vF wF => RatRep wF vF (qa + ((qf - (xk : Rat)) * (qf - (xk : Rat))))] iF (fun _ _ => True)) vF wF) [] ?_ ?_ ?_
              ·intro i v w w' _ h hk
               refine stabL_get ?_ i v w w' h hk
               exact stab_cons st_e (stab_cons st_e (stab_cons st_e (stab_cons st_q (stab_cons st_q stab_nil))))
              ·intro i hi vs w3 hk3 hd
               have S3 := S.drew.below hk3
               obtain ⟨a0, a1, a2, a3⟩ := S3.cc4 2 rfl
               obtain ⟨a4, a5, a6, a7⟩ := S3.cc4 0 rfl
               match i, hi with
               | 0, _ =>
                refine sv0 [] (ve (.agg #[.bool ba, .slice Aa na ca, .bool da, .slice Ba ma ea])) rfl fun K hK => ?_; clear hd; simp only [frD] at hK ⊢; go_simp
                exact hK _ _ bl rfl
               | 1, _ =>
                refine sv0 [] (ve (.agg #[.bool b43, .slice A43 n43 c43, .bool d43, .slice B43 m43 e43])) rfl fun K hK => ?_; clear hd; simp only [frD] at hK ⊢; go_simp
                exact hK _ _ bl rfl
               | 2, _ =>
                refine sv0 [] (ve (.agg #[.bool b43, .slice A43 n43 c43, .bool d43, .slice B43 m43 e43])) rfl fun K hK => ?_; clear hd; simp only [frD] at hK ⊢; go_simp
                exact hK _ _ bl rfl
               | 3, _ =>
                have qe1 : (vs 1) = .agg #[.bool b43, .slice A43 n43 c43, .bool d43, .slice B43 m43 e43] := hdk hd 1; have qe2 : (vs 2) = .agg #[.bool b43, .slice A43 n43 c43, .bool d43, .slice B43 m43 e43] := hdk hd 2
                refine sc (A := #[(vs 1), (vs 2)]) (B := #[.agg #[.bool b43, .slice A43 n43 c43, .bool d43, .slice B43 m43 e43], .agg #[.bool b43, .slice A43 n43 c43, .bool d43, .slice B43 m43 e43]]) [(1, some 167), (2, some 168)] (fun vF wF => RatRep wF vF ((qf - (xk : Rat)) * (qf - (xk : Rat)))) rfl (wanted_none rfl) (by rw [qe1, qe2]) Tryz.func17 ?_
                refine ((lmul_num ((S3.qi 1 rfl).num (by omega)) ((S3.qi 1 rfl).num (by omega)))).mono ?_; rintro e w4 ⟨U, rfl, hr, hk4⟩; exact ⟨_, rfl, hk4, hr⟩
               | 4, _ =>
                have qe0 : (vs 0) = .agg #[.bool ba, .slice Aa na ca, .bool da, .slice Ba ma ea] := hdk hd 0; have h3 : RatRep w3 (vs 3) ((qf - (xk : Rat)) * (qf - (xk : Rat))) := hdk hd 3
                refine sc (A := #[(vs 0), (vs 3)]) (B := #[.agg #[.bool ba, .slice Aa na ca, .bool da, .slice Ba ma ea], (vs 3)]) [(0, some 166), (3, some 169)] (fun vF wF => RatRep wF vF (qa + ((qf - (xk : Rat)) * (qf - (xk : Rat))))) rfl (wanted_none rfl) (by rw [qe0]) Tryz.func16 ?_
                refine ((gadd_num ((S3.qi 2 rfl).num (by omega)) (h3.num (by omega)))).mono ?_; rintro e w4 ⟨U, rfl, hr, hk4⟩; exact ⟨_, rfl, hk4, hr⟩
               | i + 5, hi => exact absurd hi (by omega)
              ·intro vs W51 hk3 hΦ _
               simp only [List.drop_succ_cons, List.drop_zero]
               rw [fr_frD, show (List.range 5).map _ = [(0, some 166), (1, some 167), (2, some 168), (3, some 169), (4, some 170)] by kernel_rfl]
               have pu0 : (vs 0) = .agg #[.bool ba, .slice Aa na ca, .bool da, .slice Ba ma ea] := hΦ 0 (by decide)
               have pu1 : (vs 1) = .agg #[.bool b43, .slice A43 n43 c43, .bool d43, .slice B43 m43 e43] := hΦ 1 (by decide)
               have pu2 : (vs 2) = .agg #[.bool b43, .slice A43 n43 c43, .bool d43, .slice B43 m43 e43] := hΦ 2 (by decide)
               have pu3 : RatRep W51 (vs 3) ((qf - (xk : Rat)) * (qf - (xk : Rat))) := hΦ 3 (by decide)
               have pu4 : RatRep W51 (vs 4) (qa + ((qf - (xk : Rat)) * (qf - (xk : Rat)))) := hΦ 4 (by decide)
               clear hΦ
               simp only [frD, pu0, pu1, pu2]
               simp only [Act.put, List.setIfInBounds_toArray, List.set_cons_zero, List.set_cons_succ]
               clear pu0 pu1 pu2
               generalize vs 3 = Upu3 at pu3 ⊢
               generalize vs 4 = Upu4 at pu4 ⊢
               replace S := S.drew.below hk3
               clear pu3
               obtain ⟨b53, A53, n53, c53, d53, B53, m53, e53, rfl⟩ := pu4.open_
               replace S := S.addQ pu4
               clear pu4
               clear hk3
               have r0_0 := S.c 2 0 rfl rfl
               have f0_0 := S.f 2 0 rfl
               have r0_1 := S.c 2 1 rfl rfl
               have f0_1 := S.f 2 1 rfl
               have r0_2 := S.c 2 2 rfl rfl
               have f0_2 := S.f 2 2 rfl
               have r0_3 := S.c 2 3 rfl rfl
               have f0_3 := S.f 2 3 rfl
               go_wp2
               replace S := (S.put4 2 rfl rfl rfl (x' := .bool b53) (y' := .slice A53 n53 c53) (z' := .bool d53) (u' := .slice B53 m53 e53))
               clear r0_0 f0_0 r0_1 f0_1 r0_2 f0_2 r0_3 f0_3
               have hq := S.qi 0 rfl
               have hn := S.qi 1 rfl
               have hs := S.fi 7 rfl
               have hg := S.qi 8 rfl
               have hr := S.fi 9 rfl
               have hal : allK fl sp k (j + 1) = qa + (qf - (xk : Rat)) * (qf - (xk : Rat)) := by rw [← HSQ.out, ← HQA.out]; rfl
               have hto : totK fl sp j (k + 1) = qt + (qf - (xk : Rat)) * (qf - (xk : Rat)) := by rw [← HSQ.out, ← HQT.out]; rfl
               have yz1 := szR_sub qf ((xk : Int) : Rat)
               have yz2 := szR_mul (qf - (xk : Rat)) (qf - (xk : Rat))
               have yz3 := szR_add qa ((qf - (xk : Rat)) * (qf - (xk : Rat)))
               have yz4 := szR_add qt ((qf - (xk : Rat)) * (qf - (xk : Rat)))
               have hza : Hid (szR (allK fl sp k (j + 1)) ≤ 1 + 205 * (j + 1)) := Lib.hid (by rw [hal]; omega)
               have hzn : Hid (∀ c, c < j + 1 → szR (totK fl sp c (k + 1)) ≤ 1 + 205 * (k + 1)) := Lib.hid fun c hc => by
                by_cases e : c = j
                ·subst e; rw [hto]; omega
                ·exact HZN.out c (by omega)
               have S2 := ((((S.onlyL.addF hr).addQ hg).addF ((hs.set (a := ⟨b44, A44, n44, c44, d44, B44, m44, e44⟩) hn).congr (g := fun i => if i < j + 1 then totK fl sp i (k + 1) else totK fl sp i k) fun i _ => by
                by_cases e : i = j
                ·subst e; rw [if_pos rfl, if_pos (by omega), hto]
                ·rw [if_neg e]
                 by_cases e2 : i < j
                 ·rw [if_pos e2, if_pos (by omega)]
                 ·rw [if_neg e2, if_neg (by omega)])).addQ hq).dropb
               rw [← hal] at S2
               go_roundw
               case rel => exact ⟨j + 1, _, ⟨b53, A53, n53, c53, d53, B53, m53, e53⟩, by omega, by go_num, Lib.hid (by rw [List.length_set]; exact HL3.out), hza, hzn, S2⟩
               case measure => simp [intOf]; omega
           ·have hjI : ¬ (j : Int) < 3 := by omega
            have t6 : decide ((j : Int) < 3) = false := decide_eq_false hjI
            obtain rfl : j = 3 := by omega
            obtain ⟨s1, hs1⟩ : ∃ s, cmpR (allK fl sp k 3) (bestK fl sp k).2 = s := ⟨_, rfl⟩
            have HS1 := Lib.hid hs1
            have za := HZA.out
            have zb := HZB.out
            obtain ⟨r0, r1, r2, r3⟩ := S.cc4 1 rfl
            obtain ⟨u0, u1, u2, u3⟩ := S.cc4 3 rfl
            clear hs1
            go_wp2_with fail
            refine (gcompare_s ((S.qi 0 rfl).num (by omega)) ((S.qi 2 rfl).num (by omega)) (by omega) HS1.out).mono ?_
            rintro e W19 ⟨rfl, hk9⟩
            replace S := S.below hk9
            clear hk9 r0 r1 r2 r3 u0 u1 u2 u3
            have hq := S.qi 0 rfl
            have hs := (S.fi 1 rfl).congr (g := fun i => totK fl sp i (k + 1)) fun i hi => if_pos (by rw [HL3.out] at hi; exact hi)
            have hg := S.qi 2 rfl
            have hr := S.fi 3 rfl
            by_cases hpos : 0 < s1
            ·have t7 : decide (0 < s1) = true := decide_eq_true hpos
             have hbe : bestK fl sp (k + 1) = (k, allK fl sp k 3) := by rw [HB.out, if_pos ((cmpR_pos _ _).1 (by rw [HS1.out]; exact hpos))]
             have S2 := (((S.onlyL.addF hr).addF hs).addQ hq).put4 3 rfl rfl rfl (x' := .bool ba) (y' := .slice Aa na ca) (z' := .bool da) (u' := .slice Ba ma ea)
             have HS2 := Lib.hid S2.dropb.dropb.dropb
             have HBE := Lib.hid hbe
             obtain ⟨r0, r1, r2, r3⟩ := S.cc4 1 rfl
             obtain ⟨u0, u1, u2, u3⟩ := S.cc4 3 rfl
             obtain ⟨f0, f1, f2, f3⟩ := S.ff4 3 rfl
             clear hq hs hg hr S2 hbe hpos
             go_wp2
             go_region
             go_wp2
             go_roundw
             case rel => exact ⟨k + 1, L, ⟨ba, Aa, na, ca, da, Ba, ma, ea⟩, by omega, by go_num, by rw [HBE.out], HL3, HZN, Lib.hid (by rw [HBE.out]; show szR (allK fl sp k 3) ≤ 700; omega), by rw [HBE.out]; exact HS2.out.drew⟩
             case measure => simp [intOf]; omega
            ·have t7 : decide (0 < s1) = false := decide_eq_false hpos
             have hbe : bestK fl sp (k + 1) = bestK fl sp k := by rw [HB.out, if_neg fun h => hpos (by have := (cmpR_pos _ _).2 h; rw [HS1.out] at this; exact this)]
             have HS2 := Lib.hid (((S.onlyL.addF hr).addF hs).addQ hg).dropb.dropb.dropb
             have HBE := Lib.hid hbe
             clear hq hs hg hr hbe hpos
             go_wp2
             go_roundw
             case rel => exact ⟨k + 1, L, ⟨bg, Ag, ng, cg, dg, Bg, mg, eg⟩, by omega, by go_num, by rw [HBE.out], HL3, HZN, by rw [HBE.out]; exact HZB, by rw [HBE.out]; exact HS2.out⟩
             case measure => simp [intOf]; omega
         ·have hkI : ¬ (k : Int) < (m : Int) := by omega
          have t5 : decide ((k : Int) < (m : Int)) = false := decide_eq_false hkI
          obtain rfl : m = k := by omega
          generalize L = L9 at *
          have hr1 := tri_rep (S.o 2 rfl) (S.fi 2 rfl) HR3.out
          have hr2 := tri_rep (S.o 1 rfl) (S.fi 1 rfl) HL3.out
          have HSL := Lib.hid (fun (u : World) (hk : Keeps wr u) => gsl_same (n := 3) (ca := 3) (cb := 3) (Row4.below lasts_rep hr1 hk) (Row4.below lasts_rep hr2 hk) rfl (by simp [maxLen]) (fun x hx => by
           simp only [List.mem_cons, List.not_mem_nil, or_false] at hx
           rcases hx with rfl | rfl | rfl
           ·have := HZT.out 0 (by omega); omega
           ·have := HZT.out 1 (by omega); omega
           ·have := HZT.out 2 (by omega); omega))
          rw [HBM.out]
          clear hr1 hr2
          go_wp2
          go_upto_region 49 with fail
          refine wp_region_steps (m := 13) rfl (by kernel_rfl) (fun iF vF wF => (List.getD [ve (.int .i64 0), ve (.bool false), ve (.bool false), ve (.int .i64 (bm : Nat)), ve (.int .i64 (bm : Nat)), ve (.bool false), ve (.bool false), ve (.bool false), ve (.slice (some ⟨P11, 0, none⟩) 3 3), ve (.slice (some ⟨P15, 0, none⟩) 3 3), ve (.bool true), ve (.bool false), ve (.bool false)] iF (fun _ _ => True)) vF wF) [] ?_ ?_ ?_
          ·intro i v w w' _ h hk
           refine stabL_get ?_ i v w w' h hk
           exact stab_cons st_e (stab_cons st_e (stab_cons st_e (stab_cons st_e (stab_cons st_e (stab_cons st_e (stab_cons st_e (stab_cons st_e (stab_cons st_e (stab_cons st_e (stab_cons st_e (stab_cons st_e (stab_cons st_e stab_nil))))))))))))
          ·intro i hi vs w3 hk3 hd
           have S3 := S.drew.below hk3
           match i, hi with
           | 0, _ =>
            refine sv0 [] (ve (.int .i64 0)) rfl fun K hK => ?_; clear hd; simp only [frD] at hK ⊢; go_simp
            exact hK _ _ bl rfl
           | 1, _ =>
            have qe0 : (vs 0) = .int .i64 0 := hdk hd 0
            refine sv0 [(0, some 179)] (ve (.bool false)) rfl fun K hK => ?_; clear hd; simp only [frD, qe0] at hK ⊢; go_simp
            exact hK _ _ bl rfl
           | 2, _ =>
            have qe1 : (vs 1) = .bool false := hdk hd 1
            refine sv0 [(1, some 180)] (ve (.bool false)) rfl fun K hK => ?_; clear hd; simp only [frD, qe1] at hK ⊢; go_simp
            exact hK _ _ bl rfl
           | 3, _ =>
            have qe2 : (vs 2) = .bool false := hdk hd 2
            refine svg [(2, some 181)] (ve (.int .i64 (bm : Nat))) rfl (ws 181 qe2) fun K hK => ?_; clear hd; simp only [frD, qe2] at hK ⊢; go_simp
            exact hK _ _ bl rfl
           | 4, _ =>
            have qe2 : (vs 2) = .bool false := hdk hd 2
            refine svg [(2, some 181)] (ve (.int .i64 (bm : Nat))) rfl (ws 181 qe2) fun K hK => ?_; clear hd; simp only [frD, qe2] at hK ⊢; go_simp
            exact hK _ _ bl rfl
           | 5, _ =>
            have qe2 : (vs 2) = .bool false := hdk hd 2; have qe3 : (vs 3) = .int .i64 (bm : Nat) := hdk hd 3; have qe4 : (vs 4) = .int .i64 (bm : Nat) := hdk hd 4
            refine svg [(2, some 181), (3, some 182), (4, some 183)] (ve (.bool false)) rfl (ws 181 qe2) fun K hK => ?_; clear hd; simp only [frD, qe2, qe3, qe4] at hK ⊢; go_simp
            exact hK _ _ bl rfl
           | 6, _ =>
            have qe2 : (vs 2) = .bool false := hdk hd 2; have qe5 : (vs 5) = .bool false := hdk hd 5
            refine sv0 [(2, some 181), (5, some 184)] (ve (.bool false)) rfl fun K hK => ?_; clear hd; simp only [frD, qe2, qe5] at hK ⊢; go_simp
            exact hK _ _ bl rfl
           | 7, _ =>
            have qe2 : (vs 2) = .bool false := hdk hd 2; have qe6 : (vs 6) = .bool false := hdk hd 6
            refine sv0 [(2, some 181), (6, some 185)] (ve (.bool false)) rfl fun K hK => ?_; clear hd; simp only [frD, qe2, qe6] at hK ⊢; go_simp
            exact hK _ _ bl rfl
           | 8, _ =>
            have qe7 : (vs 7) = .bool false := hdk hd 7
            refine svg [(7, some 186)] (ve (.slice (some ⟨P11, 0, none⟩) 3 3)) rfl (ws 186 qe7) fun K hK => ?_; clear hd; simp only [frD, qe7] at hK ⊢; go_simp
            exact hK _ _ bl rfl
           | 9, _ =>
            have qe7 : (vs 7) = .bool false := hdk hd 7
            refine svg [(7, some 186)] (ve (.slice (some ⟨P15, 0, none⟩) 3 3)) rfl (ws 186 qe7) fun K hK => ?_; clear hd; simp only [frD, qe7] at hK ⊢; go_simp
            exact hK _ _ bl rfl
           | 10, _ =>
            have qe7 : (vs 7) = .bool false := hdk hd 7; have qe8 : (vs 8) = .slice (some ⟨P11, 0, none⟩) 3 3 := hdk hd 8; have qe9 : (vs 9) = .slice (some ⟨P15, 0, none⟩) 3 3 := hdk hd 9
            refine sc (A := #[(vs 8), (vs 9)]) (B := #[.slice (some ⟨P11, 0, none⟩) 3 3, .slice (some ⟨P15, 0, none⟩) 3 3]) [(7, some 186), (8, some 187), (9, some 188)] (ve (.bool true)) rfl (ws 186 qe7) (by rw [qe8, qe9]) Tryz.func19 ?_
            refine ((HSL.out _ (Keeps.trans' (w1 := wr.drew) (Below.drew (Below.refl _ wr)) hk3))).mono ?_; rintro e w4 ⟨rfl, hk4⟩; exact ⟨_, rfl, hk4, rfl⟩
           | 11, _ =>
            have qe7 : (vs 7) = .bool false := hdk hd 7; have qe10 : (vs 10) = .bool true := hdk hd 10
            refine svg [(7, some 186), (10, some 189)] (ve (.bool false)) rfl (ws 186 qe7) fun K hK => ?_; clear hd; simp only [frD, qe7, qe10] at hK ⊢; go_simp
            exact hK _ _ bl rfl
           | 12, _ =>
            have qe7 : (vs 7) = .bool false := hdk hd 7; have qe11 : (vs 11) = .bool false := hdk hd 11
            refine sv0 [(7, some 186), (11, some 190)] (ve (.bool false)) rfl fun K hK => ?_; clear hd; simp only [frD, qe7, qe11] at hK ⊢; go_simp
            exact hK _ _ bl rfl
           | i + 13, hi => exact absurd hi (by omega)
          ·intro vs W81 hk3 hΦ _
           simp only [List.drop_succ_cons, List.drop_zero]
           rw [fr_frD, show (List.range 13).map _ = [(0, some 179), (1, some 180), (2, some 181), (3, some 182), (4, some 183), (5, some 184), (6, some 185), (7, some 186), (8, some 187), (9, some 188), (10, some 189), (11, some 190), (12, some 191)] by kernel_rfl]
           have pk0 : (vs 0) = .int .i64 0 := hΦ 0 (by decide)
           have pk1 : (vs 1) = .bool false := hΦ 1 (by decide)
           have pk2 : (vs 2) = .bool false := hΦ 2 (by decide)
           have pk3 : (vs 3) = .int .i64 (bm : Nat) := hΦ 3 (by decide)
           have pk4 : (vs 4) = .int .i64 (bm : Nat) := hΦ 4 (by decide)
           have pk5 : (vs 5) = .bool false := hΦ 5 (by decide)
           have pk6 : (vs 6) = .bool false := hΦ 6 (by decide)
           have pk7 : (vs 7) = .bool false := hΦ 7 (by decide)
           have pk8 : (vs 8) = .slice (some ⟨P11, 0, none⟩) 3 3 := hΦ 8 (by decide)
           have pk9 : (vs 9) = .slice (some ⟨P15, 0, none⟩) 3 3 := hΦ 9 (by decide)
           have pk10 : (vs 10) = .bool true := hΦ 10 (by decide)
           have pk11 : (vs 11) = .bool false := hΦ 11 (by decide)
           have pk12 : (vs 12) = .bool false := hΦ 12 (by decide)
           clear hΦ
           simp only [frD, pk0, pk1, pk2, pk3, pk4, pk5, pk6, pk7, pk8, pk9, pk10, pk11, pk12]
           simp only [Act.put, List.setIfInBounds_toArray, List.set_cons_zero, List.set_cons_succ]
           clear pk0 pk1 pk2 pk3 pk4 pk5 pk6 pk7 pk8 pk9 pk10 pk11 pk12
           replace S := S.drew.below hk3
           clear hk3
           have y0 := S.c 3 0 rfl rfl
           have y1 := S.c 3 1 rfl rfl
           have y2 := S.c 3 2 rfl rfl
           obtain ⟨fb, hfb⟩ : ∃ b, farT b0 b1 b2 = b := ⟨_, rfl⟩
           have HFT := Lib.hid (fun u => far_any u b0 b1 b2)
           rw [hfb] at HFT
           have HFB := Lib.hid hfb
           clear hfb HSL
           go_wp2_with fail
           refine (HFT.out _).mono ?_
           rintro e W82 ⟨rfl, hk2⟩
           replace S := S.below hk2
           clear hk2 y0 y1 y2 HFT
           cases fb with
           | true =>
            go_wp2
            go_ret
            exact ⟨rfl, S.k⟩
           | false =>
            obtain ⟨⟨hb0, hb0'⟩, ⟨hb1, hb1'⟩, hb2, hb2'⟩ := farT_no HFB.out
            have l0 := (S.o 0 rfl).lt
            have l1 := (S.o 1 rfl).lt
            have l2 := (S.o 2 rfl).lt
            have l3 := (S.o 3 rfl).lt
            simp only at l0 l1 l2 l3
            obtain ⟨B0, hB0⟩ : ∃ b, W82.heap.size = b := ⟨_, rfl⟩
            have HLO : Hid (P17 < B0 ∧ P15 < B0 ∧ P11 < B0 ∧ w.heap.size < B0) := Lib.hid ⟨by omega, by omega, by omega, by omega⟩
            have hr := S.fi 2 rfl
            have hz0 : B0 ≤ W82.heap.size := by omega
            have S2 := (S.onlyL.addF hr).addF (l := ([] : List Rn)) (f := fun j => fq fl j + ((bK b0 b1 b2 j : Int) : Rat)) (fun j hj => absurd hj (by simp))
            have zb0 := szR_small' (x := b0) hb0 hb0'
            have zb1 := szR_small' (x := b1) hb1 hb1'
            have zb2 := szR_small' (x := b2) hb2 hb2'
            obtain ⟨i0, hi, hi0, hi1, hi2⟩ := info_parts info_spot
            obtain ⟨j0, hj, hj0, hj1, hj2⟩ := info_parts info_tri
            have HCI := Lib.hid (And.intro hi (And.intro hi0 (And.intro hi1 hi2)))
            have HCJ := Lib.hid (And.intro hj (And.intro hj0 (And.intro hj1 hj2)))
            clear l0 l1 l2 l3 hr hB0 hi hi0 hi1 hi2 hj hj0 hj1 hj2
            go_wp2
            go_loopw [25, 26, 197] (fun v1 v2 i wr => ∃ (k : Nat) (L : List Rn) (V1 V2 : Value), k ≤ m ∧ i = .int .i64 (k : Nat) ∧ V1 = v1 ∧ V2 = v2 ∧ Hid (L.length = 3 * k) ∧ Hid ((mvS sp b0 b1 b2 k).any farB = false) ∧ Hid (CleanN wr B0 25 3 V1 k (i64s (mvS sp b0 b1 b2 k))) ∧ Hid (CleanN wr B0 32 12 V2 k (cellsQ L)) ∧ B0 ≤ wr.heap.size ∧
             St w wr [(P17, 31, [.bool bg, .slice Ag ng cg, .bool dg, .slice Bg mg eg]), (P15, 32, cellsQ L9), (P11, 32, cellsQ R), (w.heap.size, 25, [.int .i64 b0, .int .i64 b1, .int .i64 b2])] [SumF L (fun j => fq fl j + ((bK b0 b1 b2 j : Int) : Rat)), SumF R (fun c => totK fl sp c m)]) (fun _ _ i _ => m - (intOf i).toNat)
            case atStart => exact ⟨0, [], _, _, Nat.zero_le _, rfl, rfl, rfl, Lib.hid rfl, Lib.hid rfl, Lib.hid CleanN.nil, Lib.hid CleanN.nil, hz0, S2⟩
            case round =>
             clear S S2 hz0
             obtain ⟨k, L, V1, V2, hk, rfl, rfl, rfl, HLL, HMF, HC1, HC2, hz0, S⟩ := hrel
             by_cases hlt : k < m
             ·obtain ⟨Bs, os, rfl, hc⟩ := spot_at HS.out HSL1.out hlt
              obtain ⟨g0, g1, g2⟩ := hc _ S.k
              have fx0 := far_at HFR.out (j := 3 * k) (by rw [HSL1.out]; omega)
              have fx1 := far_at HFR.out (j := 3 * k + 1) (by rw [HSL1.out]; omega)
              have fx2 := far_at HFR.out (j := 3 * k + 2) (by rw [HSL1.out]; omega)
              have HMN := Lib.hid (mvS_next (sp := sp) (b0 := b0) (b1 := b1) (b2 := b2) k)
              generalize sp.getD (3 * k) 0 = x0 at *
              generalize sp.getD (3 * k + 1) 0 = x1 at *
              generalize sp.getD (3 * k + 2) 0 = x2 at *
              obtain ⟨fx0, fx0'⟩ := fx0
              obtain ⟨fx1, fx1'⟩ := fx1
              obtain ⟨fx2, fx2'⟩ := fx2
              have hkI : (k : Int) < (m : Int) := by omega
              have t5 : decide ((k : Int) < (m : Int)) = true := decide_eq_true hkI
              have wx0 : IntKind.i64.wrap (x0 + b0) = x0 + b0 := IntWalk.i64_in _ (by omega)
              have wx1 : IntKind.i64.wrap (x1 + b1) = x1 + b1 := IntWalk.i64_in _ (by omega)
              have wx2 : IntKind.i64.wrap (x2 + b2) = x2 + b2 := IntWalk.i64_in _ (by omega)
              clear hc
              go_upto_region 58 with fail
              replace S := S.alloc 25 [.int .i64 x0, .int .i64 x1, .int .i64 x2]
              obtain ⟨W83, eW, S⟩ := S.pack
              rw [eW]
              have hks : Keeps wr W83 := eW ▸ box2 wr _
              have hbk : B0 ≤ W83.heap.size := Nat.le_trans hz0 hks.size
              clear eW g0 g1 g2
              generalize wr.heap.size = P28 at *
              have g0 := S.c 0 0 rfl rfl
              have g1 := S.c 0 1 rfl rfl
              have g2 := S.c 0 2 rfl rfl
              have y0 := S.c 4 0 rfl rfl
              have y1 := S.c 4 1 rfl rfl
              have y2 := S.c 4 2 rfl rfl
              go_upto_region 59 with fail
              clear g0 g1 g2 y0 y1 y2 wx0 wx1 wx2
              generalize x0 + b0 = s0 at *
              generalize x1 + b1 = s1 at *
              generalize x2 + b2 = s2 at *
              have hks2 := hks.trans' (box2 W83 (.cells #[.int .i64 s0, .int .i64 s1, .int .i64 s2] 25))
              replace S := S.dropb.alloc 25 [.int .i64 s0, .int .i64 s1, .int .i64 s2]
              obtain ⟨W84, eW, S⟩ := S.pack
              rw [eW] at hks2 ⊢
              clear eW hks
              generalize W83.heap.size = P29 at *
              obtain ⟨fb, hfb⟩ : ∃ b, farT s0 s1 s2 = b := ⟨_, rfl⟩
              have HFT := Lib.hid (fun u => far_any u s0 s1 s2)
              have g0 := S.c 0 0 rfl rfl
              have g1 := S.c 0 1 rfl rfl
              have g2 := S.c 0 2 rfl rfl
              rw [hfb] at HFT
              have HFB2 := Lib.hid hfb
              clear hfb
              go_wp2_with fail
              refine (HFT.out _).mono ?_
              rintro e W85 ⟨rfl, hk2⟩
              replace S := S.below hk2
              replace hks2 := hks2.trans' hk2
              clear hk2 g0 g1 g2 HFT
              cases fb with
              | true =>
               go_wp2
               go_ret
               exact ⟨rfl, S.k⟩
              | false =>
               have g0 := S.c 0 0 rfl rfl
               have g1 := S.c 0 1 rfl rfl
               have g2 := S.c 0 2 rfl rfl
               obtain ⟨hi, hi0, hi1, hi2⟩ := HCI.out
               have hks3 := hks2.trans' (box2 W85 (.cells #[.int .i64 s0, .int .i64 s1, .int .i64 s2] 25))
               have HC1b := Lib.hid (HC1.out.keeps hks3)
               have HC2b := Lib.hid (HC2.out.keeps hks3)
               have hm12 : k + 1 ≤ 9 := by omega
               have HS9 := Lib.hid S
               have hzz9 : B0 ≤ (W85.alloc (.cells #[.int .i64 s0, .int .i64 s1, .int .i64 s2] 25)).heap.size := by
                have := (S.o 0 rfl).lt
                simp only at this
                rw [World.size_alloc]
                omega
               clear hks2 hks3 S HC1 HC2
               go_wp2_with (at_builtin; refine wpList_append_cleanN (base := B0) (e := 25) (size := 3) rfl _ _ 22 rfl i0 (.agg #[.int .i64 0, .int .i64 0, .int .i64 0]) 24 Tryz.underlying22 hi hi0 hi1 hi2 rfl rfl rfl HC1b.out ⟨W85.heap.size, 0, none⟩ 1 1 [.int .i64 s0, .int .i64 s1, .int .i64 s2] rfl rfl (own_cells (Own.new W85 _ _)) (by simp [Value.oneCell']) rfl (by omega) (by simp only [maxLen]; omega) (by omega) hzz9 ?_; intro v3 W61 hcl hgrow)
               have S := (HS9.out.dropb.below (box2 W85 (.cells #[.int .i64 s0, .int .i64 s1, .int .i64 s2] 25))).grownC HC1b.out hgrow (by have := HLO.out; omega) (by have := HLO.out; simp; omega)
               have HC3 : Hid (CleanN W61 B0 25 3 v3 (k + 1) (i64s (mvS sp b0 b1 b2 (k + 1)))) := Lib.hid (by rw [HMN.out, i64s_app]; exact hcl)
               have HC4 := Lib.hid (HC2b.out.turn (Turn.of_grown hgrow) fun q hq hq2 => owns_apart HC1b.out.owns HC2b.out.owns (by decide) q hq2 hq)
               have HMF2 : Hid ((mvS sp b0 b1 b2 (k + 1)).any farB = false) := Lib.hid (by
                rw [HMN.out, List.any_append, HMF.out]
                exact HFB2.out)
               have hz1 : B0 ≤ W61.heap.size := Nat.le_trans hzz9 hgrow.size
               clear hcl hgrow hzz9 HC1b HC2b HS9 g0 g1 g2 hi hi0 hi1 hi2 HMF HFB2
               obtain ⟨Bf, of, ⟨qf0, u0⟩, ⟨qf1, u1⟩, ⟨qf2, u2⟩, c0, c1, c2, c3, c4, c5, c6, c7, c8, c9, c10, c11, rfl, hx, hy, hz', hc, hX⟩ := get3 HFV.out (i := k) (by rw [HFL3.out]; omega)
               obtain ⟨f0, rfl, rfl, rfl, rfl⟩ := RatV2.rn (hX w bl).1
               obtain ⟨f1, rfl, rfl, rfl, rfl⟩ := RatV2.rn (hX w bl).2.1
               obtain ⟨f2, rfl, rfl, rfl, rfl⟩ := RatV2.rn (hX w bl).2.2
               have HX : Hid (∀ u, Keeps w u → RatNum u f0.v qf0 ∧ RatNum u f1.v qf1 ∧ RatNum u f2.v qf2) := Lib.hid fun u hk => ⟨(hX u hk).1.num', (hX u hk).2.1.num', (hX u hk).2.2.num'⟩
               have HCF := Lib.hid hc
               have HQ0 : Hid (fq fl (3 * k) = qf0) := Lib.hid (by unfold fq; rw [List.getD, hx]; rfl)
               have HQ1 : Hid (fq fl (3 * k + 1) = qf1) := Lib.hid (by unfold fq; rw [List.getD, hy]; rfl)
               have HQ2 : Hid (fq fl (3 * k + 2) = qf2) := Lib.hid (by unfold fq; rw [List.getD, hz']; rfl)
               clear hx hy hz' hc hX
               go_upto_region 62 with fail
               refine wp_region_steps (m := 30) rfl (by kernel_rfl) (kb62Φ V2 Bf of m cf k w.heap.size b0 b1 b2 f0 f1 f2 qf0 qf1 qf2) [] ?_ ?_ ?_
               ·intro i v w w' hi h hk
                match i, hi with
                | 0, _ | 1, _ | 2, _ | 3, _ | 4, _ | 5, _ | 6, _ | 7, _ | 10, _ | 11, _ | 12, _ | 13, _ | 14, _ | 15, _ | 16, _ | 19, _ | 20, _ | 21, _ | 22, _ | 23, _ | 24, _ | 25, _ => exact h
                | 8, _ => exact h.map hk.same32
                | 9, _ => exact h.map hk.same32
                | 17, _ => exact h.map hk.same32
                | 18, _ => exact h.map hk.same32
                | 26, _ => exact h.map hk.same32
                | 27, _ => exact h.map hk.same32
                | 28, _ => exact Tri.keep h hk
                | 29, _ => exact TriB.keep h hk
                | i + 30, hi => exact absurd hi (by omega)
               ·intro i hi vs wph3 hk3 hd
                have hkq := Keeps.trans' (w1 := W61.drew) (Below.drew (Below.refl _ W61)) hk3
                have S3 := S.below hkq
                have a0 := S3.c 3 0 rfl rfl
                have a1 := S3.c 3 1 rfl rfl
                have a2 := S3.c 3 2 rfl rfl
                obtain ⟨g0, g1, g2, g3, g4, g5, g6, g7, g8, g9, g10, g11⟩ := HCF.out _ S3.k
                match i, hi with
                | 0, _ =>
                 refine step_yes [] rfl (by kernel_rfl) fun K hK => ?_
                 simp only [frD] at hK ⊢
                 refine ⟨by rfl, ?_⟩
                 go_simp
                 exact hK _ _ ⟨Below.refl _ _, rfl, by simp⟩
                | 1, _ =>
                 refine step_yes [] rfl (by kernel_rfl) fun K hK => ?_
                 simp only [frD] at hK ⊢
                 refine ⟨by rfl, ?_⟩
                 go_simp
                 exact hK _ _ ⟨Below.refl _ _, rfl, by simp⟩
                | 2, _ =>
                 refine step_yes [] rfl (by kernel_rfl) fun K hK => ?_
                 simp only [frD] at hK ⊢
                 refine ⟨by rfl, ?_⟩
                 go_simp
                 exact hK _ _ ⟨Below.refl _ _, rfl, by simp⟩
                | 3, _ =>
                 have e1 : vs 1 = .slice (some ⟨Bf, of, none⟩) m cf := hd 1 (List.contains_iff_mem.1 (by kernel_rfl))
                 have e2 : vs 2 = .int .i64 (k : Nat) := hd 2 (List.contains_iff_mem.1 (by kernel_rfl))
                 refine step_yes [(1, some 226), (2, some 227)] rfl (by kernel_rfl) fun K hK => ?_
                 simp only [frD, e1, e2] at hK ⊢
                 refine ⟨by rfl, ?_⟩
                 go_simp
                 exact hK _ _ ⟨Below.refl _ _, rfl, by simp⟩
                | 4, _ =>
                 have e3 : vs 3 = .pointer (some ⟨Bf, of + k * 12, none⟩) := hd 3 (List.contains_iff_mem.1 (by kernel_rfl))
                 refine step_yes [(3, some 228)] rfl (by kernel_rfl) fun K hK => ?_
                 simp only [frD, e3] at hK ⊢
                 refine ⟨by rfl, ?_⟩
                 go_simp
                 exact hK _ _ ⟨Below.refl _ _, rfl, by simp⟩
                | 5, _ =>
                 have e4 : vs 4 = .pointer (some ⟨Bf, of + k * 12, none⟩) := hd 4 (List.contains_iff_mem.1 (by kernel_rfl))
                 refine step_yes [(4, some 229)] rfl (by kernel_rfl) fun K hK => ?_
                 simp only [frD, e4] at hK ⊢
                 refine ⟨by rfl, ?_⟩
                 go_simp
                 exact hK _ _ ⟨Below.refl _ _, rfl, by simp⟩
                | 6, _ =>
                 refine step_yes [] rfl (by kernel_rfl) fun K hK => ?_
                 simp only [frD] at hK ⊢
                 refine ⟨by rfl, ?_⟩
                 go_simp
                 exact hK _ _ ⟨Below.refl _ _, rfl, by simp⟩
                | 7, _ =>
                 have e6 : vs 6 = .pointer (some ⟨w.heap.size, 0, none⟩) := hd 6 (List.contains_iff_mem.1 (by kernel_rfl))
                 refine step_yes [(6, some 231)] rfl (by kernel_rfl) fun K hK => ?_
                 simp only [frD, e6] at hK ⊢
                 refine ⟨by rfl, ?_⟩
                 go_simp
                 exact hK _ _ ⟨Below.refl _ _, rfl, by simp⟩
                | 8, _ =>
                 have e7 : vs 7 = .int .i64 b0 := hd 7 (List.contains_iff_mem.1 (by kernel_rfl))
                 refine step_yes [(7, some 232)] rfl (by kernel_rfl) fun K hK => ?_
                 simp only [frD, e7] at hK ⊢
                 refine ⟨by rfl, ?_⟩
                 go_simp
                 refine (lwhole_num b0 (by omega) (by omega)).mono ?_
                 rintro e wph4 ⟨U, rfl, hr, hk4⟩
                 exact hK _ _ ⟨hk4, hr, by simp⟩
                | 9, _ =>
                 have e5 : vs 5 = f0.v := hd 5 (List.contains_iff_mem.1 (by kernel_rfl))
                 have h8 : RatRep wph3 (vs 8) ((b0 : Int) : Rat) := hd 8 (List.contains_iff_mem.1 (by kernel_rfl))
                 refine step_yes [(5, some 230), (8, some 233)] rfl (by kernel_rfl) fun K hK => ?_
                 simp only [frD, e5] at hK ⊢
                 refine ⟨by rfl, ?_⟩
                 go_simp
                 refine (gadd_num (HX.out _ S3.k).1 (h8.num (by omega))).mono ?_
                 rintro e wph4 ⟨U, rfl, hr, hk4⟩
                 exact hK _ _ ⟨hk4, hr, by simp⟩
                | 10, _ =>
                 refine step_yes [] rfl (by kernel_rfl) fun K hK => ?_
                 simp only [frD] at hK ⊢
                 refine ⟨by rfl, ?_⟩
                 go_simp
                 exact hK _ _ ⟨Below.refl _ _, rfl, by simp⟩
                | 11, _ =>
                 refine step_yes [] rfl (by kernel_rfl) fun K hK => ?_
                 simp only [frD] at hK ⊢
                 refine ⟨by rfl, ?_⟩
                 go_simp
                 exact hK _ _ ⟨Below.refl _ _, rfl, by simp⟩
                | 12, _ =>
                 have e10 : vs 10 = .slice (some ⟨Bf, of, none⟩) m cf := hd 10 (List.contains_iff_mem.1 (by kernel_rfl))
                 have e11 : vs 11 = .int .i64 (k : Nat) := hd 11 (List.contains_iff_mem.1 (by kernel_rfl))
                 refine step_yes [(10, some 235), (11, some 236)] rfl (by kernel_rfl) fun K hK => ?_
                 simp only [frD, e10, e11] at hK ⊢
                 refine ⟨by rfl, ?_⟩
                 go_simp
                 exact hK _ _ ⟨Below.refl _ _, rfl, by simp⟩
                | 13, _ =>
                 have e12 : vs 12 = .pointer (some ⟨Bf, of + k * 12, none⟩) := hd 12 (List.contains_iff_mem.1 (by kernel_rfl))
                 refine step_yes [(12, some 237)] rfl (by kernel_rfl) fun K hK => ?_
                 simp only [frD, e12] at hK ⊢
                 refine ⟨by rfl, ?_⟩
                 go_simp
                 exact hK _ _ ⟨Below.refl _ _, rfl, by simp⟩
                | 14, _ =>
                 have e13 : vs 13 = .pointer (some ⟨Bf, of + k * 12 + 4, none⟩) := hd 13 (List.contains_iff_mem.1 (by kernel_rfl))
                 refine step_yes [(13, some 238)] rfl (by kernel_rfl) fun K hK => ?_
                 simp only [frD, e13] at hK ⊢
                 refine ⟨by rfl, ?_⟩
                 go_simp
                 exact hK _ _ ⟨Below.refl _ _, rfl, by simp⟩
                | 15, _ =>
                 refine step_yes [] rfl (by kernel_rfl) fun K hK => ?_
                 simp only [frD] at hK ⊢
                 refine ⟨by rfl, ?_⟩
                 go_simp
                 exact hK _ _ ⟨Below.refl _ _, rfl, by simp⟩
                | 16, _ =>
                 have e15 : vs 15 = .pointer (some ⟨w.heap.size, 1, none⟩) := hd 15 (List.contains_iff_mem.1 (by kernel_rfl))
                 refine step_yes [(15, some 240)] rfl (by kernel_rfl) fun K hK => ?_
                 simp only [frD, e15] at hK ⊢
                 refine ⟨by rfl, ?_⟩
                 go_simp
                 exact hK _ _ ⟨Below.refl _ _, rfl, by simp⟩
                | 17, _ =>
                 have h9 : RatRep wph3 (vs 9) (qf0 + ((b0 : Int) : Rat)) := hd 9 (List.contains_iff_mem.1 (by kernel_rfl))
                 have e16 : vs 16 = .int .i64 b1 := hd 16 (List.contains_iff_mem.1 (by kernel_rfl))
                 refine step_yes [(9, some 234), (16, some 241)] rfl (by kernel_rfl) fun K hK => ?_
                 simp only [frD, e16] at hK ⊢
                 refine ⟨by rfl, ?_⟩
                 go_simp
                 refine (lwhole_num b1 (by omega) (by omega)).mono ?_
                 rintro e wph4 ⟨U, rfl, hr, hk4⟩
                 exact hK _ _ ⟨hk4, hr, by simp⟩
                | 18, _ =>
                 have e14 : vs 14 = f1.v := hd 14 (List.contains_iff_mem.1 (by kernel_rfl))
                 have h17 : RatRep wph3 (vs 17) ((b1 : Int) : Rat) := hd 17 (List.contains_iff_mem.1 (by kernel_rfl))
                 refine step_yes [(14, some 239), (17, some 242)] rfl (by kernel_rfl) fun K hK => ?_
                 simp only [frD, e14] at hK ⊢
                 refine ⟨by rfl, ?_⟩
                 go_simp
                 refine (gadd_num (HX.out _ S3.k).2.1 (h17.num (by omega))).mono ?_
                 rintro e wph4 ⟨U, rfl, hr, hk4⟩
                 exact hK _ _ ⟨hk4, hr, by simp⟩
                | 19, _ =>
                 refine step_yes [] rfl (by kernel_rfl) fun K hK => ?_
                 simp only [frD] at hK ⊢
                 refine ⟨by rfl, ?_⟩
                 go_simp
                 exact hK _ _ ⟨Below.refl _ _, rfl, by simp⟩
                | 20, _ =>
                 refine step_yes [] rfl (by kernel_rfl) fun K hK => ?_
                 simp only [frD] at hK ⊢
                 refine ⟨by rfl, ?_⟩
                 go_simp
                 exact hK _ _ ⟨Below.refl _ _, rfl, by simp⟩
                | 21, _ =>
                 have e19 : vs 19 = .slice (some ⟨Bf, of, none⟩) m cf := hd 19 (List.contains_iff_mem.1 (by kernel_rfl))
                 have e20 : vs 20 = .int .i64 (k : Nat) := hd 20 (List.contains_iff_mem.1 (by kernel_rfl))
                 refine step_yes [(19, some 244), (20, some 245)] rfl (by kernel_rfl) fun K hK => ?_
                 simp only [frD, e19, e20] at hK ⊢
                 refine ⟨by rfl, ?_⟩
                 go_simp
                 exact hK _ _ ⟨Below.refl _ _, rfl, by simp⟩
                | 22, _ =>
                 have e21 : vs 21 = .pointer (some ⟨Bf, of + k * 12, none⟩) := hd 21 (List.contains_iff_mem.1 (by kernel_rfl))
                 refine step_yes [(21, some 246)] rfl (by kernel_rfl) fun K hK => ?_
                 simp only [frD, e21] at hK ⊢
                 refine ⟨by rfl, ?_⟩
                 go_simp
                 exact hK _ _ ⟨Below.refl _ _, rfl, by simp⟩
                | 23, _ =>
                 have e22 : vs 22 = .pointer (some ⟨Bf, of + k * 12 + 8, none⟩) := hd 22 (List.contains_iff_mem.1 (by kernel_rfl))
                 refine step_yes [(22, some 247)] rfl (by kernel_rfl) fun K hK => ?_
                 simp only [frD, e22] at hK ⊢
                 refine ⟨by rfl, ?_⟩
                 go_simp
                 exact hK _ _ ⟨Below.refl _ _, rfl, by simp⟩
                | 24, _ =>
                 refine step_yes [] rfl (by kernel_rfl) fun K hK => ?_
                 simp only [frD] at hK ⊢
                 refine ⟨by rfl, ?_⟩
                 go_simp
                 exact hK _ _ ⟨Below.refl _ _, rfl, by simp⟩
                | 25, _ =>
                 have e24 : vs 24 = .pointer (some ⟨w.heap.size, 2, none⟩) := hd 24 (List.contains_iff_mem.1 (by kernel_rfl))
                 refine step_yes [(24, some 249)] rfl (by kernel_rfl) fun K hK => ?_
                 simp only [frD, e24] at hK ⊢
                 refine ⟨by rfl, ?_⟩
                 go_simp
                 exact hK _ _ ⟨Below.refl _ _, rfl, by simp⟩
                | 26, _ =>
                 have h18 : RatRep wph3 (vs 18) (qf1 + ((b1 : Int) : Rat)) := hd 18 (List.contains_iff_mem.1 (by kernel_rfl))
                 have e25 : vs 25 = .int .i64 b2 := hd 25 (List.contains_iff_mem.1 (by kernel_rfl))
                 refine step_yes [(18, some 243), (25, some 250)] rfl (by kernel_rfl) fun K hK => ?_
                 simp only [frD, e25] at hK ⊢
                 refine ⟨by rfl, ?_⟩
                 go_simp
                 refine (lwhole_num b2 (by omega) (by omega)).mono ?_
                 rintro e wph4 ⟨U, rfl, hr, hk4⟩
                 exact hK _ _ ⟨hk4, hr, by simp⟩
                | 27, _ =>
                 have e23 : vs 23 = f2.v := hd 23 (List.contains_iff_mem.1 (by kernel_rfl))
                 have h26 : RatRep wph3 (vs 26) ((b2 : Int) : Rat) := hd 26 (List.contains_iff_mem.1 (by kernel_rfl))
                 refine step_yes [(23, some 248), (26, some 251)] rfl (by kernel_rfl) fun K hK => ?_
                 simp only [frD, e23] at hK ⊢
                 refine ⟨by rfl, ?_⟩
                 go_simp
                 refine (gadd_num (HX.out _ S3.k).2.2 (h26.num (by omega))).mono ?_
                 rintro e wph4 ⟨U, rfl, hr, hk4⟩
                 exact hK _ _ ⟨hk4, hr, by simp⟩
                | 28, _ =>
                 have h9 : RatRep wph3 (vs 9) (qf0 + ((b0 : Int) : Rat)) := hd 9 (List.contains_iff_mem.1 (by kernel_rfl))
                 have h18 : RatRep wph3 (vs 18) (qf1 + ((b1 : Int) : Rat)) := hd 18 (List.contains_iff_mem.1 (by kernel_rfl))
                 have h27 : RatRep wph3 (vs 27) (qf2 + ((b2 : Int) : Rat)) := hd 27 (List.contains_iff_mem.1 (by kernel_rfl))
                 obtain ⟨r9, z9⟩ := h9.rn
                 obtain ⟨r18, z18⟩ := h18.rn
                 obtain ⟨r27, z27⟩ := h27.rn
                 rw [z9] at h9
                 rw [z18] at h18
                 rw [z27] at h27
                 have hbt := build_tri r9 r18 r27
                 refine step_yes [(9, some 234), (18, some 243), (27, some 252)] rfl (by kernel_rfl) fun K hK => ?_
                 simp only [frD, z9, z18, z27] at hK ⊢
                 refine ⟨by rfl, ?_⟩
                 go_simp
                 exact hK _ _ ⟨Below.refl _ _, ⟨_, _, _, rfl, h9, h18, h27⟩, by simp⟩
                | 29, _ =>
                 have h28 : Tri wph3 (vs 28) (qf0 + ((b0 : Int) : Rat)) (qf1 + ((b1 : Int) : Rat)) (qf2 + ((b2 : Int) : Rat)) := hd 28 (List.contains_iff_mem.1 (by kernel_rfl))
                 obtain ⟨r0, r1, r2, z28, h1, h2, h3⟩ := h28
                 refine step_yes [(28, some 253)] rfl (by kernel_rfl) fun K hK => ?_
                 simp only [frD, z28] at hK ⊢
                 refine ⟨by rfl, ?_⟩
                 go_simp
                 exact hK _ _ ⟨bl.alloc (Nat.le_refl _) _, TriB.mk h1 h2 h3, by simp⟩
                | i + 30, hi => exact absurd hi (by omega)
               ·intro vs wph3 hk3 hΦ _
                simp only [List.drop_succ_cons, List.drop_zero]
                rw [fr_frD, show (List.range 30).map _ = [(0, some 225), (1, some 226), (2, some 227), (3, some 228), (4, some 229), (5, some 230), (6, some 231), (7, some 232), (8, some 233), (9, some 234), (10, some 235), (11, some 236), (12, some 237), (13, some 238), (14, some 239), (15, some 240), (16, some 241), (17, some 242), (18, some 243), (19, some 244), (20, some 245), (21, some 246), (22, some 247), (23, some 248), (24, some 249), (25, some 250), (26, some 251), (27, some 252), (28, some 253), (29, some 254)] by kernel_rfl]
                have ph0 := hΦ 0 (by omega)
                have ph1 := hΦ 1 (by omega)
                have ph2 := hΦ 2 (by omega)
                have ph3 := hΦ 3 (by omega)
                have ph4 := hΦ 4 (by omega)
                have ph5 := hΦ 5 (by omega)
                have ph6 := hΦ 6 (by omega)
                have ph7 := hΦ 7 (by omega)
                have ph8 := hΦ 8 (by omega)
                have ph9 := hΦ 9 (by omega)
                have ph10 := hΦ 10 (by omega)
                have ph11 := hΦ 11 (by omega)
                have ph12 := hΦ 12 (by omega)
                have ph13 := hΦ 13 (by omega)
                have ph14 := hΦ 14 (by omega)
                have ph15 := hΦ 15 (by omega)
                have ph16 := hΦ 16 (by omega)
                have ph17 := hΦ 17 (by omega)
                have ph18 := hΦ 18 (by omega)
                have ph19 := hΦ 19 (by omega)
                have ph20 := hΦ 20 (by omega)
                have ph21 := hΦ 21 (by omega)
                have ph22 := hΦ 22 (by omega)
                have ph23 := hΦ 23 (by omega)
                have ph24 := hΦ 24 (by omega)
                have ph25 := hΦ 25 (by omega)
                have ph26 := hΦ 26 (by omega)
                have ph27 := hΦ 27 (by omega)
                have ph28 := hΦ 28 (by omega)
                have ph29 := hΦ 29 (by omega)
                simp only [kb62Φ] at ph0 ph1 ph2 ph3 ph4 ph5 ph6 ph7 ph8 ph9 ph10 ph11 ph12 ph13 ph14 ph15 ph16 ph17 ph18 ph19 ph20 ph21 ph22 ph23 ph24 ph25 ph26 ph27 ph28 ph29
                clear hΦ
                simp only [frD, ph0, ph1, ph2, ph3, ph4, ph5, ph6, ph7, ph10, ph11, ph12, ph13, ph14, ph15, ph16, ph19, ph20, ph21, ph22, ph23, ph24, ph25]
                simp only [Act.put, List.setIfInBounds_toArray, List.set_cons_zero, List.set_cons_succ]
                clear ph0
                clear ph1
                clear ph2
                clear ph3
                clear ph4
                clear ph5
                clear ph6
                clear ph7
                generalize vs 8 = U8 at ph8 ⊢
                generalize vs 9 = U9 at ph9 ⊢
                clear ph10
                clear ph11
                clear ph12
                clear ph13
                clear ph14
                clear ph15
                clear ph16
                generalize vs 17 = U17 at ph17 ⊢
                generalize vs 18 = U18 at ph18 ⊢
                clear ph19
                clear ph20
                clear ph21
                clear ph22
                clear ph23
                clear ph24
                clear ph25
                generalize vs 26 = U26 at ph26 ⊢
                generalize vs 27 = U27 at ph27 ⊢
                generalize vs 28 = U28 at ph28 ⊢
                generalize vs 29 = U29 at ph29 ⊢
                obtain ⟨bA, ra, rb, rc, rfl, hOA, h9, h18, h27⟩ := ph29
                have hkd6 : Keeps W61 wph3 := Keeps.trans' (w1 := W61.drew) (Below.drew (Below.refl _ W61)) hk3
                obtain ⟨hi, hi0, hi1, hi2⟩ := HCJ.out
                have hbz := hkd6.size
                refine wpList_append_cleanN (base := B0) (e := 32) (size := 12) (by rfl) _ _ _ (by rfl) j0 (.agg zr12.toArray) 192 Tryz.underlying23 hi hi0 hi1 hi2 rfl rfl (by rfl) (HC4.out.keeps hkd6) ⟨bA, 0, none⟩ 1 1 (cellsQ [ra, rb, rc]) (by rfl) rfl (own_cells hOA) (by simp [Value.oneCell', cellsQ]) (cellsQ_no _) (by omega) (by simp only [maxLen]; omega) (by omega) (by omega) ?_
                intro v4 W62 hcl hgrow
                have S9 := ((((S.below hkd6).addQ h27).addQ h18).addQ h9).grownC (HC4.out.keeps hkd6) hgrow (by have := HLO.out; omega) (by have := HLO.out; simp; omega)
                have hs := S9.fi 3 rfl
                have hr := S9.fi 4 rfl
                have HS2 := Lib.hid ((S9.onlyL.addF hr).addF (hs.snoc3 HLL.out (by simp only [HQ0.out, bK0]; exact S9.qi 0 rfl) (by simp only [HQ1.out, bK1]; exact S9.qi 1 rfl) (by simp only [HQ2.out, bK2]; exact S9.qi 2 rfl)))
                have HC5 := Lib.hid ((HC3.out.keeps hkd6).turn (Turn.of_grown hgrow) fun q hq hq2 => owns_apart (HC3.out.keeps hkd6).owns (HC4.out.keeps hkd6).owns (by decide) q hq hq2)
                have HC6 : Hid (CleanN W62 B0 32 12 v4 (k + 1) (cellsQ (L ++ [ra, rb, rc]))) := Lib.hid (by rw [cellsQ_app]; exact hcl)
                have HL6 : Hid ((L ++ [ra, rb, rc]).length = 3 * (k + 1)) := Lib.hid (by rw [List.length_append, HLL.out]; simp; omega)
                have hz2 : B0 ≤ W62.heap.size := Nat.le_trans (Nat.le_trans hz1 hbz) hgrow.size
                clear hcl hgrow hs hr S9 hi hi0 hi1 hi2 hOA h9 h18 h27
                go_wp2
                go_roundw
                case rel => exact ⟨k + 1, _, _, _, by omega, by go_num, rfl, rfl, HL6, HMF2, HC5, HC6, hz2, HS2.out⟩
                case measure => simp [intOf]; omega
             ·have hkI : ¬ (k : Int) < (m : Int) := by omega
              have t5 : decide ((k : Int) < (m : Int)) = false := decide_eq_false hkI
              obtain rfl : m = k := by omega
              obtain ⟨A1, c1, rfl, -⟩ := HC1.out.owns.sl
              obtain ⟨A2, c2, rfl, -⟩ := HC2.out.owns.sl
              have HSS := Lib.hid (HC1.out.irow (by rw [mvS_len]; omega))
              have hsf := S.fi 0 rfl
              have HZM : Hid (∀ x ∈ mvF fl b0 b1 b2 m, szR x.1 ≤ 100) := Lib.hid fun x hx => by
               unfold mvF at hx
               obtain ⟨j, hj, rfl⟩ := List.mem_map.1 hx
               have hj2 : j < fl.length := by rw [HFL3.out]; exact List.mem_range.1 hj
               have h1 := HZQ.out (fl.getD j (0, false)) (by rw [List.getD, List.getElem?_eq_getElem hj2]; exact List.getElem_mem hj2)
               have h2 := szR_add (fq fl j) ((bK b0 b1 b2 j : Int) : Rat)
               have h3 : szR ((bK b0 b1 b2 j : Int) : Rat) ≤ 1 := by
                unfold bK
                split
                ·exact zb0
                ·split
                 ·exact zb1
                 ·exact zb2
               have h4 : szR (fq fl j) ≤ 5 := h1
               show szR (fq fl j + ((bK b0 b1 b2 j : Int) : Rat)) ≤ 100
               omega
              have HRR : Hid (Row4 RatV2 wr A2 (mvF fl b0 b1 b2 m)) := Lib.hid (HC2.out.row (by rw [mvF_len, HLL.out]) (by rw [HLL.out]; omega) fun j x hx => by
               have hjl : j < 3 * m := by have := (List.getElem?_eq_some_iff.1 hx).1; rwa [mvF_len] at this
               have hxm := HZM.out x (List.mem_of_getElem? hx)
               have hxe : x = (fq fl j + ((bK b0 b1 b2 j : Int) : Rat), true) := by
                unfold mvF at hx
                rw [List.getElem?_map, List.getElem?_range hjl] at hx
                exact (Option.some.inj hx).symm
               subst hxe
               exact rat_v2 (hsf j (by rw [HLL.out]; exact hjl)) (by simp only at hxm; omega))
              have HCC := Lib.hid (checks_any (cs := c1) (cf := c2) HRR.out (mvF_len (fl := fl) (b0 := b0) (b1 := b1) (b2 := b2) m) HSS.out (mvS_len (sp := sp) (b0 := b0) (b1 := b1) (b2 := b2) m) HZM.out (by omega) (by omega) (.inl (by omega)))
              have HC0 := Lib.hid (chkC_move (fl := fl) HM0.out (by omega) HMF.out)
              have HBE := Lib.hid (bestK_move (fl := fl) (sp := sp) (b0 := b0) (b1 := b1) (b2 := b2) (m := m) m (Nat.le_refl _))
              have HTE : Hid (∀ c, c < 3 → totK (mvF fl b0 b1 b2 m) (mvS sp b0 b1 b2 m) c m = totK fl sp c m) := Lib.hid fun c hc => totK_move hc m (Nat.le_refl _)
              clear hsf HRR HSS
              go_wp2_with fail
              refine HCC.out.mono ?_
              rintro e W86 ⟨V, bb, rfl, hk9, -, hgood⟩
              obtain ⟨rfl, L8, hL8, rfl, hSF⟩ := hgood HC0.out
              rw [HC0.out, HBE.out, HBM.out]
              obtain ⟨⟨s0, A0, n0, c0, t0, B0', m0, e0⟩, ⟨s1, A1', n1, c1', t1', B1, m1, e1⟩, ⟨s2, A2', n2, c2', t2', B2, m2, e2⟩, rfl⟩ := len3 hL8
              replace S := (S.below hk9).addF (hSF.congr fun c hc => HTE.out c (by rw [hL8] at hc; exact hc))
              have hV : (.agg (cellsQ [⟨s0, A0, n0, c0, t0, B0', m0, e0⟩, ⟨s1, A1', n1, c1', t1', B1, m1, e1⟩, ⟨s2, A2', n2, c2', t2', B2, m2, e2⟩]).toArray : Value) = .agg #[.bool s0, .slice A0 n0 c0, .bool t0, .slice B0' m0 e0, .bool s1, .slice A1' n1 c1', .bool t1', .slice B1 m1 e1, .bool s2, .slice A2' n2 c2', .bool t2', .slice B2 m2 e2] := rfl
              rw [hV]
              clear hV hk9 hL8 hSF hgood HCC HC0 HTE
              go_upto_region 65 with fail
              replace S := S.alloc 32 [.bool s0, .slice A0 n0 c0, .bool t0, .slice B0' m0 e0, .bool s1, .slice A1' n1 c1', .bool t1', .slice B1 m1 e1, .bool s2, .slice A2' n2 c2', .bool t2', .slice B2 m2 e2]
              obtain ⟨WZ, eW, S⟩ := S.pack
              rw [eW]
              clear eW
              generalize W86.heap.size = P30 at *
              have hr1 := tri_rep (L := [⟨s0, A0, n0, c0, t0, B0', m0, e0⟩, ⟨s1, A1', n1, c1', t1', B1, m1, e1⟩, ⟨s2, A2', n2, c2', t2', B2, m2, e2⟩]) (S.o 0 rfl) (S.fi 0 rfl) rfl
              have hr2 := tri_rep (S.o 3 rfl) (S.fi 2 rfl) HR3.out
              have HSL := Lib.hid (fun (u : World) (hk : Keeps WZ u) => gsl_same (n := 3) (ca := 3) (cb := 3) (Row4.below lasts_rep hr1 hk) (Row4.below lasts_rep hr2 hk) rfl (by simp [maxLen]) (fun x hx => by
               simp only [List.mem_cons, List.not_mem_nil, or_false] at hx
               rcases hx with rfl | rfl | rfl
               ·have := HZT.out 0 (by omega); omega
               ·have := HZT.out 1 (by omega); omega
               ·have := HZT.out 2 (by omega); omega))
              clear hr1 hr2
              go_upto_region 65 with fail
              refine wp_region_steps (m := 12) rfl (by kernel_rfl) (fun iF vF wF => (List.getD [ve (.int .i64 0), ve (.bool true), ve (.bool true), ve (.int .i64 (bm : Nat)), ve (.int .i64 (bm : Nat)), ve (.bool true), ve (.bool true), ve (.bool true), ve (.slice (some ⟨P30, 0, none⟩) 3 3), ve (.slice (some ⟨P11, 0, none⟩) 3 3), ve (.bool true), ve (.bool true)] iF (fun _ _ => True)) vF wF) [] ?_ ?_ ?_
              ·intro i v w w' _ h hk
               refine stabL_get ?_ i v w w' h hk
               exact stab_cons st_e (stab_cons st_e (stab_cons st_e (stab_cons st_e (stab_cons st_e (stab_cons st_e (stab_cons st_e (stab_cons st_e (stab_cons st_e (stab_cons st_e (stab_cons st_e (stab_cons st_e stab_nil)))))))))))
              ·intro i hi vs w3 hk3 hd
               have S3 := S.drew.below hk3
               match i, hi with
               | 0, _ =>
                refine sv0 [] (ve (.int .i64 0)) rfl fun K hK => ?_; clear hd; simp only [frD] at hK ⊢; go_simp
                exact hK _ _ bl rfl
               | 1, _ =>
                have qe0 : (vs 0) = .int .i64 0 := hdk hd 0
                refine sv0 [(0, some 264)] (ve (.bool true)) rfl fun K hK => ?_; clear hd; simp only [frD, qe0] at hK ⊢; go_simp
                exact hK _ _ bl rfl
               | 2, _ =>
                have qe1 : (vs 1) = .bool true := hdk hd 1
                refine sv0 [(1, some 265)] (ve (.bool true)) rfl fun K hK => ?_; clear hd; simp only [frD, qe1] at hK ⊢; go_simp
                exact hK _ _ bl rfl
               | 3, _ =>
                have qe2 : (vs 2) = .bool true := hdk hd 2
                refine svg [(2, some 266)] (ve (.int .i64 (bm : Nat))) rfl (ws 266 qe2) fun K hK => ?_; clear hd; simp only [frD, qe2] at hK ⊢; go_simp
                exact hK _ _ bl rfl
               | 4, _ =>
                have qe2 : (vs 2) = .bool true := hdk hd 2
                refine svg [(2, some 266)] (ve (.int .i64 (bm : Nat))) rfl (ws 266 qe2) fun K hK => ?_; clear hd; simp only [frD, qe2] at hK ⊢; go_simp
                exact hK _ _ bl rfl
               | 5, _ =>
                have qe2 : (vs 2) = .bool true := hdk hd 2; have qe3 : (vs 3) = .int .i64 (bm : Nat) := hdk hd 3; have qe4 : (vs 4) = .int .i64 (bm : Nat) := hdk hd 4
                refine svg [(2, some 266), (3, some 267), (4, some 268)] (ve (.bool true)) rfl (ws 266 qe2) fun K hK => ?_; clear hd; simp only [frD, qe2, qe3, qe4] at hK ⊢; go_simp
                exact hK _ _ bl rfl
               | 6, _ =>
                have qe2 : (vs 2) = .bool true := hdk hd 2; have qe5 : (vs 5) = .bool true := hdk hd 5
                refine sv0 [(2, some 266), (5, some 269)] (ve (.bool true)) rfl fun K hK => ?_; clear hd; simp only [frD, qe2, qe5] at hK ⊢; go_simp
                exact hK _ _ bl rfl
               | 7, _ =>
                have qe2 : (vs 2) = .bool true := hdk hd 2; have qe6 : (vs 6) = .bool true := hdk hd 6
                refine sv0 [(2, some 266), (6, some 270)] (ve (.bool true)) rfl fun K hK => ?_; clear hd; simp only [frD, qe2, qe6] at hK ⊢; go_simp
                exact hK _ _ bl rfl
               | 8, _ =>
                have qe7 : (vs 7) = .bool true := hdk hd 7
                refine svg [(7, some 271)] (ve (.slice (some ⟨P30, 0, none⟩) 3 3)) rfl (ws 271 qe7) fun K hK => ?_; clear hd; simp only [frD, qe7] at hK ⊢; go_simp
                exact hK _ _ bl rfl
               | 9, _ =>
                have qe7 : (vs 7) = .bool true := hdk hd 7
                refine svg [(7, some 271)] (ve (.slice (some ⟨P11, 0, none⟩) 3 3)) rfl (ws 271 qe7) fun K hK => ?_; clear hd; simp only [frD, qe7] at hK ⊢; go_simp
                exact hK _ _ bl rfl
               | 10, _ =>
                have qe7 : (vs 7) = .bool true := hdk hd 7; have qe8 : (vs 8) = .slice (some ⟨P30, 0, none⟩) 3 3 := hdk hd 8; have qe9 : (vs 9) = .slice (some ⟨P11, 0, none⟩) 3 3 := hdk hd 9
                refine sc (A := #[(vs 8), (vs 9)]) (B := #[.slice (some ⟨P30, 0, none⟩) 3 3, .slice (some ⟨P11, 0, none⟩) 3 3]) [(7, some 271), (8, some 272), (9, some 273)] (ve (.bool true)) rfl (ws 271 qe7) (by rw [qe8, qe9]) Tryz.func19 ?_
                refine ((HSL.out _ (Keeps.trans' (w1 := WZ.drew) (Below.drew (Below.refl _ WZ)) hk3))).mono ?_; rintro e w4 ⟨rfl, hk4⟩; exact ⟨_, rfl, hk4, rfl⟩
               | 11, _ =>
                have qe7 : (vs 7) = .bool true := hdk hd 7; have qe10 : (vs 10) = .bool true := hdk hd 10
                refine sv0 [(7, some 271), (10, some 274)] (ve (.bool true)) rfl fun K hK => ?_; clear hd; simp only [frD, qe7, qe10] at hK ⊢; go_simp
                exact hK _ _ bl rfl
               | i + 12, hi => exact absurd hi (by omega)
              ·intro vs W91 hk3 hΦ _
               simp only [List.drop_succ_cons, List.drop_zero]
               rw [fr_frD, show (List.range 12).map _ = [(0, some 264), (1, some 265), (2, some 266), (3, some 267), (4, some 268), (5, some 269), (6, some 270), (7, some 271), (8, some 272), (9, some 273), (10, some 274), (11, some 275)] by kernel_rfl]
               have pm0 : (vs 0) = .int .i64 0 := hΦ 0 (by decide)
               have pm1 : (vs 1) = .bool true := hΦ 1 (by decide)
               have pm2 : (vs 2) = .bool true := hΦ 2 (by decide)
               have pm3 : (vs 3) = .int .i64 (bm : Nat) := hΦ 3 (by decide)
               have pm4 : (vs 4) = .int .i64 (bm : Nat) := hΦ 4 (by decide)
               have pm5 : (vs 5) = .bool true := hΦ 5 (by decide)
               have pm6 : (vs 6) = .bool true := hΦ 6 (by decide)
               have pm7 : (vs 7) = .bool true := hΦ 7 (by decide)
               have pm8 : (vs 8) = .slice (some ⟨P30, 0, none⟩) 3 3 := hΦ 8 (by decide)
               have pm9 : (vs 9) = .slice (some ⟨P11, 0, none⟩) 3 3 := hΦ 9 (by decide)
               have pm10 : (vs 10) = .bool true := hΦ 10 (by decide)
               have pm11 : (vs 11) = .bool true := hΦ 11 (by decide)
               clear hΦ
               simp only [frD, pm0, pm1, pm2, pm3, pm4, pm5, pm6, pm7, pm8, pm9, pm10, pm11]
               simp only [Act.put, List.setIfInBounds_toArray, List.set_cons_zero, List.set_cons_succ]
               clear pm0 pm1 pm2 pm3 pm4 pm5 pm6 pm7 pm8 pm9 pm10 pm11
               replace S := S.drew.below hk3
               clear hk3
               go_wp2
               go_ret
               exact ⟨rfl, S.k⟩
     ·as_aux_lemma =>
      obtain ⟨rfl, rfl⟩ := hbad hc0
      clear hbad hgood
      go_upto_region 15 with fail
      replace S := S.alloc 32 zr12
      obtain ⟨WB, eW, S⟩ := S.pack
      rw [eW]
      clear eW
      generalize W9.heap.size = PB at *
      go_upto_block 2 with fail
      go_cut [14] (fun v wx => v = .int .i64 zC ∧ St w wx [(PB, 32, zr12), (w.heap.size, 25, [.int .i64 b0, .int .i64 b1, .int .i64 b2])] [])
      case first => as_aux_lemma =>
       clear hc0
       cases vb with
       | false =>
        have HZ1 : Hid (zC = 1) := Lib.hid HCE.out
        go_wp2
        go_meet
        case rel => exact ⟨by rw [HZ1.out], S⟩
       | true =>
        by_cases hmk : m = k
        ·subst hmk
         have t2 : ((m : Int) != (m : Int)) = false := by simp
         by_cases h0 : m = 0
         ·subst h0
          have HZ1 : Hid (zC = 6) := Lib.hid HCE.out
          go_wp2
          go_meet
          case rel => exact ⟨by rw [HZ1.out], S⟩
         ·have t3 : ((m : Int) == 0) = false := by simp; omega
          by_cases h256 : 256 < m
          ·have t4 : decide ((256 : Int) < (m : Int)) = true := decide_eq_true (by omega)
           have HZ1 : Hid (zC = 3) := Lib.hid (by rw [HCE.out, if_neg (by decide), if_neg (by simp), if_neg h0, if_pos h256])
           go_wp2
           go_meet
           case rel => exact ⟨by rw [HZ1.out], S⟩
          ·have t4 : decide ((256 : Int) < (m : Int)) = false := decide_eq_false (by omega)
           obtain ⟨fb, hfb⟩ : ∃ b, sp.any farB = b := ⟨_, rfl⟩
           have HFC := Lib.hid (farC_any (c := cs) (Row.below HS.out S.k) HSL1.out (by omega))
           rw [hfb] at HFC HCE
           have HZ1 : Hid (zC = if fb then 2 else 0) := Lib.hid (by rw [HCE.out, if_neg (by decide), if_neg (by simp), if_neg h0, if_neg h256])
           clear hfb
           go_wp2_with fail
           refine HFC.out.mono ?_
           rintro e W10 ⟨rfl, hk10⟩
           replace S := S.below hk10
           clear hk10
           cases fb with
           | false =>
            go_wp2
            go_meet
            case rel => exact ⟨by rw [HZ1.out]; rfl, S⟩
           | true =>
            go_wp2
            go_meet
            case rel => exact ⟨by rw [HZ1.out]; rfl, S⟩
        ·have t2 : ((m : Int) != (k : Int)) = true := by simp; omega
         have HZ1 : Hid (zC = 4) := Lib.hid (by rw [HCE.out, if_neg (by decide), if_pos hmk])
         go_wp2
         go_meet
         case rel => exact ⟨by rw [HZ1.out], S⟩
      case rest =>
       clear S
       obtain ⟨rfl, S⟩ := hcut
       have t5 : (zC != 0) = true := by simp [hc0]
       have t6 : (zC == zC) = true := by simp
       clear hc0
       have y0 := S.c 0 0 rfl rfl
       have y1 := S.c 0 1 rfl rfl
       have y2 := S.c 0 2 rfl rfl
       have y3 := S.c 0 3 rfl rfl
       have y4 := S.c 0 4 rfl rfl
       have y5 := S.c 0 5 rfl rfl
       have y6 := S.c 0 6 rfl rfl
       have y7 := S.c 0 7 rfl rfl
       have y8 := S.c 0 8 rfl rfl
       have y9 := S.c 0 9 rfl rfl
       have y10 := S.c 0 10 rfl rfl
       have y11 := S.c 0 11 rfl rfl
       go_wp2_with fail
       refine gzero_s.mono ?_
       rintro e W11 ⟨rfl, hk11⟩
       replace S := S.below hk11
       clear hk11 y0 y1 y2 y3 y4 y5 y6 y7 y8 y9 y10 y11
       have y0 := S.c 0 0 rfl rfl
       have y1 := S.c 0 1 rfl rfl
       have y2 := S.c 0 2 rfl rfl
       have y3 := S.c 0 3 rfl rfl
       have y4 := S.c 0 4 rfl rfl
       have y5 := S.c 0 5 rfl rfl
       have y6 := S.c 0 6 rfl rfl
       have y7 := S.c 0 7 rfl rfl
       have y8 := S.c 0 8 rfl rfl
       have y9 := S.c 0 9 rfl rfl
       have y10 := S.c 0 10 rfl rfl
       have y11 := S.c 0 11 rfl rfl
       go_wp2_with fail
       refine gzero_s.mono ?_
       rintro e W12 ⟨rfl, hk11⟩
       replace S := S.below hk11
       clear hk11 y0 y1 y2 y3 y4 y5 y6 y7 y8 y9 y10 y11
       have y0 := S.c 0 0 rfl rfl
       have y1 := S.c 0 1 rfl rfl
       have y2 := S.c 0 2 rfl rfl
       have y3 := S.c 0 3 rfl rfl
       have y4 := S.c 0 4 rfl rfl
       have y5 := S.c 0 5 rfl rfl
       have y6 := S.c 0 6 rfl rfl
       have y7 := S.c 0 7 rfl rfl
       have y8 := S.c 0 8 rfl rfl
       have y9 := S.c 0 9 rfl rfl
       have y10 := S.c 0 10 rfl rfl
       have y11 := S.c 0 11 rfl rfl
       go_wp2_with fail
       refine gzero_s.mono ?_
       rintro e W13 ⟨rfl, hk11⟩
       replace S := S.below hk11
       clear hk11 y0 y1 y2 y3 y4 y5 y6 y7 y8 y9 y10 y11
       go_wp2
       go_ret
       exact ⟨rfl, S.k⟩
end Go.Proofs.YtgcigdahjabimaaGreatDoor
