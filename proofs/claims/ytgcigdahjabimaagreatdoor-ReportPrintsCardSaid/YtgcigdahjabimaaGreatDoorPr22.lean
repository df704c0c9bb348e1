/- The walk of fraction.Simplest. The number of decimal digits; powers. No program in sight. The walks of digits and of the reference's Digits. The walk of Power. The walks of fraction.nearest, tens. Square roots: what Newton's step and halving make of them. No program in sight. The walk of Root. The walk of the reference's Digits. The walk of the reference's Power. The walk of the reference's Log. The walk of the reference's Root. The walk of fraction.scaled. The walks of fraction.placed, Down, Up, Near. Texts joined. No program in sight. The walk of fraction.Text. -/
import Derived.Test.YtgcigdahjabimaaGreatDoorPr21
import Derived.Test.YtgcigdahjabimaaGreatDoorPr18
import Derived.Test.YtgcigdahjabimaaGreatDoorPr1
import Derived.Test.YtgcigdahjabimaaGreatDoorPr9
import Derived.Test.YtgcigdahjabimaaGreatDoorPr5
import Derived.Test.YtgcigdahjabimaaGreatDoorPr3
import Derived.Test.YtgcigdahjabimaaGreatDoorPr13
import Derived.Deep.LoopGhost
import Derived.Test.YtgcigdahjabimaaGreatDoorPr8
import Derived.Test.YtgcigdahjabimaaGreatDoorPr15
import Derived.Test.YtgcigdahjabimaaGreatDoorPr11
import Derived.Test.YtgcigdahjabimaaGreatDoorPr17
import Derived.Test.YtgcigdahjabimaaGreatDoorPr20
namespace Go.Proofs.YtgcigdahjabimaaGreatDoor
open Go.RowKit Go.Shelf

end Go.Proofs.YtgcigdahjabimaaGreatDoor
namespace Go.Proofs.YtgcigdahjabimaaGreatDoor
open Go

end Go.Proofs.YtgcigdahjabimaaGreatDoor
namespace Go.Proofs.YtgcigdahjabimaaGreatDoor
open Go.RowKit Go.Shelf

end Go.Proofs.YtgcigdahjabimaaGreatDoor
namespace Go.Proofs.YtgcigdahjabimaaGreatDoor

def IsRoot (z : Int) (s : Nat) : Prop := if z < 0 then s = 0 else (s : Int) * s ≤ z ∧ z < ((s : Int) + 1) * (s + 1)
theorem IsRoot.zero : IsRoot 0 0 := by unfold IsRoot; rw [if_neg (by omega)]; omega
theorem IsRoot.neg {z : Int} (h : z < 0) : IsRoot z 0 := by unfold IsRoot; rw [if_pos h]
end Go.Proofs.YtgcigdahjabimaaGreatDoor
namespace Go.Proofs.YtgcigdahjabimaaGreatDoor
open Go.RowKit Go.Shelf

theorem IntNum.two {w : World} {V : Value} {z : Int} {R : Nat} {t : TypeId} {x y x' y' : Value} (h : IntNum w V z) (hR : Own w R t [x, y]) (hx : noU32 x = true) (hy : noU32 y = true) (hx' : noU32 x' = true) :
 IntNum ((w.setCell ⟨R, 0, none⟩ x').setCell ⟨R, 1, none⟩ y') V z := by
 obtain ⟨neg, xs, ⟨v, rfl, hv⟩, e, l⟩ := h
 exact ⟨neg, xs, ⟨v, rfl, hv.two hR hx hy hx'⟩, e, l⟩
theorem rcompare_s {w : World} {V1 V2 : Value} {x y s : Int} (h1 : IntNum w V1 x) (h2 : IntNum w V2 y) (e : (x - y).sign = s) : Calls Tryz.prog 66 #[V1, V2] w fun e w' => e = .returned (.int .i64 s) ∧ Keeps w w' := by subst e; exact rcompare_num h1 h2
def PowCut (W wx : World) (t : TypeId) (P : Int) (p : Value) : Prop := ∃ d9 bp Ap np cp, p = .pointer (some ⟨d9, 0, none⟩) ∧ W.heap.size ≤ d9 ∧ Own wx d9 t [.bool bp, .slice Ap np cp] ∧ IntRep wx (.agg #[.bool bp, .slice Ap np cp]) P ∧
 (∀ b vs, b < W.heap.size → Own W b t vs → Own wx b t vs) ∧ Same32 W wx ∧ (∀ w0 : World, w0.heap.size ≤ W.heap.size → Keeps w0 W → Keeps w0 wx)
theorem PowCut.new {W w3 : World} {t : TypeId} {P : Int} {bp : Bool} {Ap : Option Addr} {np cp : Nat} (hk : Keeps W w3) (hq : IntRep w3 (.agg #[.bool bp, .slice Ap np cp]) P) :
 PowCut W (w3.alloc (.cells #[.bool bp, .slice Ap np cp] t)) t P (.pointer (some ⟨w3.heap.size, 0, none⟩)) :=
 ⟨w3.heap.size, bp, Ap, np, cp, rfl, hk.size, Own.new w3 t [.bool bp, .slice Ap np cp], hq.below (box2 _ _), fun _ _ _ h => (h.below hk).alloc _, fun _ _ h => (h.below hk).below (box2 _ _), fun _ _ h => (h.trans' hk).trans' (box2 _ _)⟩
theorem PowCut.of {W w3 : World} {t : TypeId} {P : Int} {d9 : Nat} {bp : Bool} {Ap : Option Addr} {np cp : Nat} (hk : Keeps W w3) (hd : W.heap.size ≤ d9) (hO : Own w3 d9 t [.bool false, .slice none 0 0]) (hq : IntRep w3 (.agg #[.bool bp, .slice Ap np cp]) P) :
 PowCut W ((w3.setCell ⟨d9, 0, none⟩ (.bool bp)).setCell ⟨d9, 1, none⟩ (.slice Ap np cp)) t P (.pointer (some ⟨d9, 0, none⟩)) :=
 ⟨d9, bp, Ap, np, cp, rfl, hd, hO.two _ _, hq.two hO rfl rfl rfl, fun b vs hb h => (h.below hk).far2 (by omega), fun v xs h => (h.below hk).two hO rfl rfl rfl, fun w0 hs h => ((h.trans' hk).set (p := ⟨d9, 0, none⟩) (by simp only; omega) _).set (p := ⟨d9, 1, none⟩) (by simp only; omega) _⟩
end Go.Proofs.YtgcigdahjabimaaGreatDoor
namespace Go.Proofs.YtgcigdahjabimaaGreatDoor
open Go

theorem cat_str (a b : List UInt8) : ByteArray.mk a.toArray ++ ByteArray.mk b.toArray = ByteArray.mk (a ++ b).toArray := by
 apply ByteArray.ext
 rw [ByteArray.data_append]
 simp
end Go.Proofs.YtgcigdahjabimaaGreatDoor
namespace Go.Proofs.YtgcigdahjabimaaGreatDoor
open Go.RowKit Go.Shelf

def fracT (q : Rat) : List UInt8 := textL q.num ++ (if q.den = 1 then [] else 47 :: textL (q.den : Int))
theorem textL_le (z : Int) : (textL z).length ≤ 9 * lenI z + 2 := by
 unfold textL
 split
 ·simp
 ·rename_i h0
  rw [← txt_pos _ (show z.natAbs ≠ 0 by omega), List.length_append]
  have h1 := dig_lt z.natAbs
  have h2 : (txt z.natAbs).length ≤ 9 * (dig z.natAbs).length := txt_len _ _ (by rw [Nat.pow_mul]; exact h1)
  unfold lenI
  have : (if z < 0 then ([45] : List UInt8) else []).length ≤ 1 := by split <;> simp
  omega
theorem text_l {w : World} {V : Value} {z : Int} {T : List UInt8} (h : IntNum w V z) (ht : PowTab w) (e : textL z = T) : Calls Tryz.prog 153 #[V] w fun e w' => e = .returned (.string ⟨T.toArray⟩) ∧ Keeps w w' := by
 subst e; exact text_num h ht
set_option maxRecDepth 100000 in
set_option maxHeartbeats 1000000 in
theorem ftext_num {w : World} {V1 : Value} {x : Rat} (h1 : RatNum w V1 x) (ht : PowTab w) : Calls Tryz.prog 115 #[V1] w fun e w' => e = .returned (.string ⟨(fracT x).toArray⟩) ∧ Keeps w w' := by
 obtain ⟨b1, A1, n1, c1, d1, B1, m1, e1, rfl⟩ := h1.open_
 have hx := h1.sz
 have S := (St.start w).alloc 31 [.bool b1, .slice A1 n1 c1, .bool d1, .slice B1 m1 e1]
 obtain ⟨T1, hT1⟩ : ∃ T, textL x.num = T := ⟨_, rfl⟩
 obtain ⟨T2, hT2⟩ : ∃ T, textL (x.den : Int) = T := ⟨_, rfl⟩
 have l1 := textL_le x.num
 have l2 := textL_le (x.den : Int)
 have lx1 := szR_num hx
 have lx2 := szR_den hx
 rw [hT1] at l1
 rw [hT2] at l2
 have k1 : (T1.length : Int) ≤ 1000000 := by omega
 have k2 : (T2.length : Int) ≤ 1000000 := by omega
 have HT1 := Lib.hid hT1
 have HT2 := Lib.hid hT2
 clear hT1 hT2 l1 l2
 go_enter Tryz.func115, Tryz.ntmps115
 go_wp2_with fail
 generalize w.alloc (.cells #[.bool b1, .slice A1 n1 c1, .bool d1, .slice B1 m1 e1] 31) = W at *
 refine (fvalue_num (h1.below S.k)).mono ?_
 rintro e W1 ⟨U, rfl, hp, hk⟩
 obtain ⟨b3, A3, n3, c3, d3, B3, m3, e3, rfl⟩ := hp.open_
 replace S := (S.below hk).addQ hp
 clear hk hp h1
 obtain ⟨r0_0, r0_1, r0_2, r0_3⟩ := S.cc4 0 rfl
 obtain ⟨f0_0, f0_1, f0_2, f0_3⟩ := S.ff4 0 rfl
 go_upto_region 2 with fail
 replace S := S.put4 0 rfl rfl rfl (x' := .bool b3) (y' := .slice A3 n3 c3) (z' := .bool d3) (u' := .slice B3 m3 e3)
 generalize (((W1.setCell ⟨w.heap.size, 0, none⟩ (.bool b3)).setCell ⟨w.heap.size, 1, none⟩ (.slice A3 n3 c3)).setCell ⟨w.heap.size, 2, none⟩ (.bool d3)).setCell ⟨w.heap.size, 3, none⟩ (.slice B3 m3 e3) = W4 at S ⊢
 clear r0_0 r0_1 r0_2 r0_3 f0_0 f0_1 f0_2 f0_3
 obtain ⟨r0_0, r0_1, r0_2, r0_3⟩ := S.cc4 0 rfl
 go_wp2_with fail
 refine (text_l ((S.qi 0 rfl).nn hx) (ht.keep S.k) HT1.out).mono ?_
 rintro e W5 ⟨rfl, hk⟩
 replace S := (S.below hk)
 clear hk r0_0 r0_1 r0_2 r0_3
 go_upto_region 3 with fail
 obtain ⟨s, hs⟩ : ∃ s, ((x.den : Int) - 1).sign = s := ⟨_, rfl⟩
 have HS := Lib.hid hs
 replace S := S.drew
 go_region_held3 (fun w' => w'.cell? ⟨w.heap.size, 2, none⟩ = some (.bool d3) ∧ w'.cell? ⟨w.heap.size, 3, none⟩ = some (.slice B3 m3 e3))
  (with_reducible exact ⟨S.c 0 2 rfl rfl, S.c 0 3 rfl rfl⟩)
  (first
   | (go_at_call 44; refine (of_num 1 (by omega) (by omega)).mono ?_; rintro e W6 ⟨U9, rfl, hp, hk⟩; replace S := (S.below hk).addN (hp.num (by have := lenI_one; omega)))
   | (go_at_call 87; refine (icompare_s ((S.qi 1 rfl).dn hx) (S.ni 0 rfl) HS.out).mono ?_; rintro e W7 ⟨rfl, hk2⟩; replace S := (S.below hk2)))
 have hdp := den_posI x
 by_cases hd : x.den = 1
 ·have hs0 : s = 0 := by rw [← hs, hd]; rfl
  have hf : fracT x = T1 := by unfold fracT; rw [if_pos hd, HT1.out, List.append_nil]
  have HF := Lib.hid hf
  have hsb : (s != 0) = false := by rw [hs0]; rfl
  clear hs0 hf hs hd HS
  go_wp2
  go_ret
  exact ⟨by rw [HF.out]; rfl, S.k⟩
 ·have hs0 : s ≠ 0 := by
   intro e
   rw [← hs, Int.sign_eq_zero_iff_zero] at e
   omega
  have hf : fracT x = T1 ++ ([47] ++ T2) := by unfold fracT; rw [if_neg hd, HT1.out, HT2.out]; rfl
  have HF := Lib.hid hf
  have hsb : (s != 0) = true := by simpa using hs0
  clear hs0 hf hs hd HS
  have r0_2 := S.c 0 2 rfl rfl
  have r0_3 := S.c 0 3 rfl rfl
  go_wp2_with fail
  refine (text_l ((S.qi 1 rfl).dn hx) (ht.keep S.k) HT2.out).mono ?_
  rintro e W8 ⟨rfl, hk⟩
  replace S := (S.below hk)
  clear hk r0_2 r0_3
  go_wp2
  go_ret
  refine ⟨?_, S.k⟩
  rw [HF.out, ← cat_str, ← cat_str]
  rfl
end Go.Proofs.YtgcigdahjabimaaGreatDoor
