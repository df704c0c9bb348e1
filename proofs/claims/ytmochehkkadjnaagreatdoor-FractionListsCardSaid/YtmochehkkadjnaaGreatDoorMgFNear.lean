/- The walks of fraction.nearest, tens. Square roots: what Newton's step and halving make of them. No program in sight. The walk of Root. The walk of the reference's Digits. The walk of the reference's Power. The walk of the reference's Log. -/
import Derived.Test.YtmochehkkadjnaaGreatDoorMgSt2
import Derived.Test.YtmochehkkadjnaaGreatDoorMgPowNum
import Derived.Test.YtmochehkkadjnaaGreatDoorMgOver
import Derived.Test.YtmochehkkadjnaaGreatDoorMgNums
import Derived.Deep.LoopGhost
import Derived.Test.YtmochehkkadjnaaGreatDoorRefH
import Derived.Test.YtmochehkkadjnaaGreatDoorMgRParts
import Derived.Test.YtmochehkkadjnaaGreatDoorMgDet
namespace Go.Proofs.YtmochehkkadjnaaGreatDoor
open Go.RowKit Go.Shelf

def halfR : Rat := Rat.divInt 1 2
theorem half_fields : halfR.num = 1 ∧ (halfR.den : Int) = 2 := divInt_fields (by decide) (by decide)
theorem szR_half : szR halfR ≤ 1 := by
  obtain ⟨h1, h2⟩ := half_fields
  refine szR_mk ?_ ?_
  · rw [h1]; exact lenI_one
  · rw [h2]; exact dig_length_le (n := (2 : Int).natAbs) (k := 1) (by decide)
set_option maxRecDepth 100000 in
set_option maxHeartbeats 1000000 in
theorem fnearest_num {w : World} {V1 : Value} {x : Rat} (h1 : RatNum w V1 x) (hx : szR x ≤ 90000) : Calls Tryz.prog 105 #[V1] w (Gives (x + halfR).floor w) := by
  obtain ⟨b1, A1, n1, c1, d1, B1, m1, e1, rfl⟩ := h1.open_
  have S := ((St.start w).alloc 28 [.bool b1, .slice A1 n1 c1, .bool d1, .slice B1 m1 e1]).alloc 24 [.bool false, .slice none 0 0]
  simp only [World.size_alloc] at S
  have hz := szR_add x halfR
  have hz2 := szR_half
  go_enter Tryz.func105, Tryz.ntmps105
  go_wp2_with fail
  generalize (w.alloc (.cells #[.bool b1, .slice A1 n1 c1, .bool d1, .slice B1 m1 e1] 28)).alloc (.cells #[.bool false, .slice none 0 0] 24) = W at *
  refine (of_num 1 (by omega) (by omega)).mono ?_
  rintro e W1 ⟨U1, rfl, hp, hk⟩
  obtain ⟨b3, A3, n3, c3, rfl⟩ := hp.open3
  replace S := (S.below hk).addI hp
  clear hk hp
  go_wp2_with fail
  refine (of_num 2 (by omega) (by omega)).mono ?_
  rintro e W2 ⟨U2, rfl, hp, hk⟩
  obtain ⟨b4, A4, n4, c4, rfl⟩ := hp.open3
  replace S := (S.below hk).addI hp
  clear hk hp
  have hq : RatNum W2 (.agg #[.bool b3, .slice A3 n3 c3, .bool b4, .slice A4 n4 c4]) halfR := (RatRep.mk (S.ii 1 rfl) (S.ii 0 rfl) half_fields.1.symm half_fields.2.symm).num (by omega)
  have lt2 : w.heap.size + 1 < W2.heap.size := (S.o 0 rfl).lt
  replace S := (S.addR hq).alloc 28 [.bool b3, .slice A3 n3 c3, .bool b4, .slice A4 n4 c4]
  clear hq
  go_upto_region 2 with fail
  generalize hB : W2.heap.size = B at *
  generalize hW : W2.alloc (.cells #[.bool b3, .slice A3 n3 c3, .bool b4, .slice A4 n4 c4] 28) = W3 at *
  clear hB hW
  have r0_0 := S.c 0 0 rfl rfl
  have r0_1 := S.c 0 1 rfl rfl
  have r0_2 := S.c 0 2 rfl rfl
  have r0_3 := S.c 0 3 rfl rfl
  have r2_0 := S.c 2 0 rfl rfl
  have r2_1 := S.c 2 1 rfl rfl
  have r2_2 := S.c 2 2 rfl rfl
  have r2_3 := S.c 2 3 rfl rfl
  go_wp2_with fail
  refine (fadd_num (h1.below S.k) (S.ri 0 rfl)).mono ?_
  rintro e W4 ⟨U4, rfl, hp, hk⟩
  replace S := (S.below hk).addR (hp.num (by omega))
  clear hk hp r0_0 r0_1 r0_2 r0_3 r2_0 r2_1 r2_2 r2_3
  go_wp2_with fail
  refine (ffloor_num (S.ri 0 rfl)).mono ?_
  rintro e W5 ⟨U5, rfl, hp, hk⟩
  obtain ⟨b5, A5, n5, c5, rfl⟩ := hp.open3
  replace S := (S.below hk).addI hp
  clear hk hp
  have r1_0 := S.c 1 0 rfl rfl
  have r1_1 := S.c 1 1 rfl rfl
  have f1_0 := S.f 1 0 rfl
  have f1_1 := S.f 1 1 rfl
  go_wp2
  replace S := S.put2 1 rfl rfl rfl (x' := .bool b5) (y' := .slice A5 n5 c5)
  refine bodyPost_ret (v := .agg #[.bool b5, .slice A5 n5 c5]) (by simp [results, Tryz.results105, go_sem, S.c 1 0 rfl rfl, S.c 1 1 rfl rfl]) rfl ?_
  exact ⟨_, rfl, S.ii 0 rfl, S.k⟩

theorem power_small {w : World} {V : Value} {z : Int} {n : Int} (h : IntRep w V z) (ht : PowTab w) (hn : 0 ≤ n) (hn2 : n ≤ 4096) (hd : n * (dgs z.natAbs : Nat) ≤ 20000) (hl : lenI z ≤ 900000) :
    Calls Tryz.prog 150 #[V, .int .i64 n] w fun e w' => ∃ Q, e = .returned (.tuple #[Q, .int .i64 0]) ∧ IntRep w' Q (z ^ n.toNat) ∧ Keeps w w' := by
  have := power_any _ _ V n w h.arg hl ht (by omega) (by omega)
  rw [cnt_rep] at this
  have hc : powC z n = 0 := by
    unfold powC
    rw [if_neg (by omega), if_neg (by omega)]
  rwa [hc, show powZ z n = z ^ n.toNat from if_pos hc] at this
theorem dgs_ten2 : dgs 10 = 2 := by
  unfold dgs
  rw [if_neg (by omega), Lib.nDigits_unique 1 _ (by decide) (by decide)]
theorem pow_lenI (z : Int) (n k : Nat) (h : z.natAbs ^ n < 1000000000 ^ k) : lenI (z ^ n) ≤ k := by
  unfold lenI
  rw [Int.natAbs_pow]
  exact dig_length_le h
set_option maxRecDepth 100000 in
set_option maxHeartbeats 1000000 in
theorem ftens_num {w : World} (n : Int) (ht : PowTab w) (h0 : 0 ≤ n) (h1 : n ≤ 100) : Calls Tryz.prog 106 #[.int .i64 n] w (Gives (10 ^ n.toNat) w) := by
  have S := (St.start w).alloc 24 [.bool false, .slice none 0 0]
  have hd := dgs_ten2
  go_enter Tryz.func106, Tryz.ntmps106
  go_wp2_with fail
  generalize w.alloc (.cells #[.bool false, .slice none 0 0] 24) = W at *
  refine (of_num 10 (by omega) (by omega)).mono ?_
  rintro e W1 ⟨U1, rfl, hp, hk⟩
  replace S := (S.below hk).addI hp
  clear hk hp
  go_wp2_with fail
  refine (power_small (S.ii 0 rfl) (ht.keep S.k) h0 (by omega) (by rw [show (10 : Int).natAbs = 10 from rfl, hd]; omega) (Nat.le_trans (dig_length_le (n := (10 : Int).natAbs) (k := 1) (by decide)) (by omega))).mono ?_
  rintro e W2 ⟨U2, rfl, hp, hk⟩
  obtain ⟨b4, A4, n4, c4, rfl⟩ := hp.open3
  have lt2 : w.heap.size < W2.heap.size := ((S.below hk).o 0 rfl).lt
  replace S := ((S.below hk).addI hp).alloc 24 [.bool b4, .slice A4 n4 c4]
  clear hk hp hd
  go_upto_region 2 with fail
  generalize hB : W2.heap.size = B at *
  generalize hW : W2.alloc (.cells #[.bool b4, .slice A4 n4 c4] 24) = W3 at *
  clear hB hW
  have r0_0 := S.c 0 0 rfl rfl
  have r0_1 := S.c 0 1 rfl rfl
  have r1_0 := S.c 1 0 rfl rfl
  have r1_1 := S.c 1 1 rfl rfl
  have f1_0 := S.f 1 0 rfl
  have f1_1 := S.f 1 1 rfl
  go_wp2
  replace S := S.put2 1 rfl rfl rfl (x' := .bool b4) (y' := .slice A4 n4 c4)
  refine bodyPost_ret (v := .agg #[.bool b4, .slice A4 n4 c4]) (by simp [results, Tryz.results106, go_sem, S.c 1 0 rfl rfl, S.c 1 1 rfl rfl]) rfl ?_
  exact ⟨_, rfl, S.ii 0 rfl, S.k⟩
end Go.Proofs.YtmochehkkadjnaaGreatDoor

namespace Go.Proofs.YtmochehkkadjnaaGreatDoor

theorem sq_nonneg' (x : Int) : 0 ≤ x * x := by
  rcases Int.le_total 0 x with h | h
  · exact Int.mul_nonneg h h
  · exact Int.mul_nonneg_of_nonpos_of_nonpos h h
theorem newton_above (a r : Nat) (hr : 0 < r) : a < ((r + a / r) / 2 + 1) * ((r + a / r) / 2 + 1) := by
  have h1 : a < (a / r + 1) * r := by have := Nat.div_add_mod a r; have := Nat.mod_lt a hr; rw [Nat.add_mul, Nat.mul_comm (a / r) r]; omega
  generalize a / r = q at *
  have h2 : r + q + 1 ≤ 2 * ((r + q) / 2 + 1) := by omega
  generalize (r + q) / 2 + 1 = n at *
  have h3 := sq_nonneg' ((r : Int) - (q + 1))
  have h4 : (r + q + 1) * (r + q + 1) ≤ (2 * n) * (2 * n) := Nat.mul_le_mul h2 h2
  have h5 : 4 * ((q + 1) * r) ≤ (r + q + 1) * (r + q + 1) := by
    have : (4 * (((q : Int) + 1) * r)) ≤ ((r : Int) + q + 1) * (r + q + 1) := by grind
    exact_mod_cast this
  have h6 : (2 * n) * (2 * n) = 4 * (n * n) := by grind
  omega
theorem newton_stop (a r : Nat) (h : r ≤ (r + a / r) / 2) : r * r ≤ a := by
  have h1 : r ≤ a / r := by omega
  exact Nat.le_trans (Nat.mul_le_mul_right r h1) (Nat.div_mul_le_self a r)
theorem newton_pos (a r : Nat) (ha : 0 < a) (hr : 0 < r) : 0 < (r + a / r) / 2 := by
  have h := newton_above a r hr
  generalize (r + a / r) / 2 = n at *
  rcases Nat.eq_zero_or_pos n with h0 | h0
  · subst h0; omega
  · exact h0
def IsRoot (z : Int) (s : Nat) : Prop := if z < 0 then s = 0 else (s : Int) * s ≤ z ∧ z < ((s : Int) + 1) * (s + 1)
theorem root_unique {z : Int} {s t : Nat} (h1 : IsRoot z s) (h2 : IsRoot z t) : s = t := by
  unfold IsRoot at h1 h2
  split at h1
  · rw [if_pos (by assumption)] at h2; omega
  · rw [if_neg (by assumption)] at h2
    have key : ∀ a b : Nat, (a : Int) * a ≤ z → z < ((b : Int) + 1) * (b + 1) → a ≤ b := by
      intro a b ha hb
      rcases Nat.lt_or_ge b a with h | h
      · have h3 : ((b : Int) + 1) * (b + 1) ≤ (a : Int) * a := Int.mul_le_mul (by omega) (by omega) (by omega) (by omega)
        omega
      · exact h
    have g1 := key s t h1.1 h2.2
    have g2 := key t s h2.1 h1.2
    omega
theorem IsRoot.of_nat {a s : Nat} (h1 : s * s ≤ a) (h2 : a < (s + 1) * (s + 1)) : IsRoot a s := by
  unfold IsRoot
  rw [if_neg (by omega)]
  exact ⟨by exact_mod_cast h1, by exact_mod_cast h2⟩
theorem IsRoot.zero : IsRoot 0 0 := by unfold IsRoot; rw [if_neg (by omega)]; omega
theorem IsRoot.neg {z : Int} (h : z < 0) : IsRoot z 0 := by unfold IsRoot; rw [if_pos h]
theorem start_val (k : Nat) : val (List.replicate k 0 ++ [1]) = 1000000000 ^ k := by
  rw [val_snoc, val_replicate, List.length_replicate]; omega
theorem start_dig (k : Nat) : dig (1000000000 ^ k) = List.replicate k 0 ++ [1] := by
  have h := dig_of (xs := List.replicate k 0 ++ [1]) ((AllB.replicate k).append (AllB.single (by omega))) (fun _ => by simp [ix])
  rwa [start_val] at h
theorem start_above (a : Nat) : a < (1000000000 ^ (((dig a).length + 1) / 2) + 1) * (1000000000 ^ (((dig a).length + 1) / 2) + 1) := by
  have h := dig_lt a
  generalize (dig a).length = n at *
  have h2 : 1000000000 ^ n ≤ 1000000000 ^ ((n + 1) / 2) * 1000000000 ^ ((n + 1) / 2) := by
    rw [← Nat.pow_add]; exact Nat.pow_le_pow_right (by omega) (by omega)
  generalize 1000000000 ^ ((n + 1) / 2) = r at *
  have h3 : r * r ≤ (r + 1) * (r + 1) := Nat.mul_le_mul (by omega) (by omega)
  omega
end Go.Proofs.YtmochehkkadjnaaGreatDoor

namespace Go.Proofs.YtmochehkkadjnaaGreatDoor
open Go.RowKit Go.Shelf

def RootRes (z : Int) (w : World) (e : Ending) (w' : World) : Prop := ∃ Q s, e = .returned (.tuple #[Q, .int .i64 (if z < 0 then 2 else 0)]) ∧ IntRep w' Q ((s : Nat) : Int) ∧ IsRoot z s ∧ Keeps w w'
theorem owns_full {w : World} {base b : Nat} {t : TypeId} {out : List Nat} {N : Nat} (h : Own w b t (u32s out)) (hl : out.length = N) (hb : base ≤ b) (hm : N ≤ maxLen) :
    w.ownsRow base t 1 (.slice (some ⟨b, 0, none⟩) N N) N (u32s out) :=
  ⟨by simp [u32s, hl], .inr ⟨b, N, (u32s out).toArray, rfl, hb, h, Nat.le_refl _, hm, by simp [u32s, hl], by rw [Nat.mul_one]; exact List.take_of_length_le (by simp [u32s, hl])⟩⟩
set_option maxRecDepth 100000 in
set_option maxHeartbeats 1000000 in
theorem root_any (neg : Bool) (xs : List Nat) (V : Value) (w : World) (h : IntArg w V neg xs) (hm : xs.length ≤ 400000) :
    Calls Tryz.prog 96 #[V] w (RootRes (cnt neg xs) w) := by
  obtain ⟨i0, hi, hz0, hz1, hz2⟩ := info_parts info_u32
  obtain ⟨v, rfl, hv⟩ := h
  have hml := mag_length neg xs
  have hkk := keep2 w (.cells #[.bool neg, v] 24) (.cells #[.bool false, .slice none 0 0] 24)
  have hG := Lib.hid (fun W (hW : IntArg W (.agg #[.bool neg, v]) neg xs) => groups_any neg xs (.agg #[.bool neg, v]) W hW (by omega))
  have hR := own2 w (.cells #[.bool neg, v] 24) 24 [.bool false, .slice none 0 0]
  have hA := (Own.new w 24 [.bool neg, v]).alloc (.cells #[.bool false, .slice none 0 0] 24)
  have hnv := hv.noU
  have HC := Lib.hid (show cnt neg xs = sgn neg (mag neg xs) from rfl)
  generalize cnt neg xs = z at *
  generalize mag neg xs = a at *
  go_enter Tryz.func96, Tryz.ntmps96
  go_wp2_with fail
  have g1 := hv.below hkk
  generalize (w.alloc (.cells #[.bool neg, v] 24)).alloc (.cells #[.bool false, .slice none 0 0] 24) = W at *
  refine (hG.out _ ⟨v, rfl, g1⟩).mono ?_
  rintro e w1 ⟨u1, rfl, hu1, hk1⟩
  obtain ⟨A, n, c, rfl, e1, -⟩ := hu1.open_
  have hA1 := hA.below hk1
  have hRE := hR.below hk1
  have kE := hkk.trans' hk1
  have f0 := hRE.frozen 0
  have f1 := hRE.frozen 1
  have r0 := hRE.c0
  have r1 := hRE.c1
  have a0 := hA1.c0
  have a1 := hA1.c1
  clear hG g1 hk1 hkk hA hR hv
  by_cases ha : a = 0
  · subst ha
    have hz : z = 0 := by rw [HC.out, sgn_zero]
    have HCC := Lib.hid (show (if z < 0 then (2 : Int) else 0) = 0 by rw [hz]; rfl)
    have HZ := Lib.hid hz
    obtain rfl : n = 0 := by rw [dig_zero] at e1; simpa using e1.symm
    clear e1 hz
    go_wp2
    have hR4 := hRE.two (.bool false) (.slice none 0 0)
    refine bodyPost_ret (v := .tuple #[.agg #[.bool false, .slice none 0 0], .int .i64 0]) (by simp [results, Tryz.results96, go_sem, hR4.cell 0, hR4.cell 1]) rfl ?_
    exact ⟨_, 0, by rw [HCC.out], IntRep.zero _, by rw [HZ.out]; exact IsRoot.zero, (kE.set (p := ⟨w.heap.size + 1, 0, none⟩) (by simp only; omega) _).set (p := ⟨w.heap.size + 1, 1, none⟩) (by simp only; omega) _⟩
  · have hn := dig_length_pos.2 ha
    rw [e1] at hn
    have hn0 : ((n : Int) == 0) = false := by simp; omega
    cases neg with
    | true =>
      have hz : z < 0 := by rw [HC.out]; simp [sgn]; omega
      have HCC := Lib.hid (show (if z < 0 then (2 : Int) else 0) = 2 by rw [if_pos hz])
      have HZ := Lib.hid hz
      clear e1 hz
      go_wp2
      have hR4 := hRE.two (.bool false) (.slice none 0 0)
      refine bodyPost_ret (v := .tuple #[.agg #[.bool false, .slice none 0 0], .int .i64 2]) (by simp [results, Tryz.results96, go_sem, hR4.cell 0, hR4.cell 1]) rfl ?_
      exact ⟨_, 0, by rw [HCC.out], IntRep.zero _, IsRoot.neg HZ.out, (kE.set (p := ⟨w.heap.size + 1, 0, none⟩) (by simp only; omega) _).set (p := ⟨w.heap.size + 1, 1, none⟩) (by simp only; omega) _⟩
    | false =>
      have hz : z = (a : Int) := by rw [HC.out]; rfl
      have HCC := Lib.hid (show (if z < 0 then (2 : Int) else 0) = 0 by rw [if_neg (by omega)])
      have HZ := Lib.hid hz
      obtain ⟨k, hk⟩ : ∃ k, (n + 1) / 2 = k := ⟨_, rfl⟩
      have hkl : k ≤ 400000 := by omega
      have hmk := make_u32 (((n : Int) + 1) / 2) k (by omega) (by omega)
      have hst := start_above a
      have hsd := start_dig k
      rw [e1, hk] at hst
      have HST := Lib.hid hst
      have HSD := Lib.hid hsd
      have HE := Lib.hid e1
      have hnI : (n : Int) ≤ 400000 := by omega
      have hrow := owns_full (base := w1.heap.size) (N := k) (Own.new w1 93 (u32s (List.replicate k 0))) (by simp) (Nat.le_refl _) (by simp only [maxLen]; omega)
      clear hz hst hsd e1 hk
      have hnc := newcell (w1.alloc (.cells (u32s (List.replicate k 0)).toArray 93)) (.int .u32 1) 93
      rw [World.size_alloc] at hnc
      have hk2 : Keeps w1 ((w1.alloc (.cells (u32s (List.replicate k 0)).toArray 93)).alloc (.cells #[.int .u32 1] 93)) := keep2 _ _ _
      go_wp2_with (at_builtin; refine wpList_append_own _ rfl _ _ 22 rfl w1.heap.size 93 i0 (.int .u32 0) 1 4 Tryz.underlying22 hi hz0 hz1 hz2 rfl (by decide) _ _ _ rfl (hrow.alloc _) ⟨w1.heap.size + 1, 0, none⟩ 1 1 [.int .u32 1] rfl rfl hnc (by simp [Value.oneCell']) (by simp only [maxLen]; omega) (by omega) (by simp; omega) ?_; intro v' w2 hown' hgrow _)
      rw [u32s_snoc (List.replicate k 0) 1 (z := 1) rfl, ← HSD.out] at hown'
      have hk3 : Keeps w1 w2 := hk2.grown hgrow (by simp; omega) (fun b e => by cases e; exact Nat.le_refl _)
      have hv' := U32.of_own hown'
      have hu2 := hu1.below hk3
      have hR2 := hRE.below hk3
      have k2 := kE.trans' hk3
      clear hmk hown' hgrow hrow hnc hk2 hk3 hA1 hRE f0 f1 r0 r1 a0 a1 hu1 kE
      go_loopg [5] (1000000000 ^ k) (fun m o wr => ∃ r : Nat, r = m ∧ 0 < r ∧ r ≤ 1000000000 ^ k ∧ a < (r + 1) * (r + 1) ∧ U32 wr o (dig r) ∧ U32 wr (.slice A n c) (dig a) ∧ Own wr (w.heap.size + 1) 24 [.bool false, .slice none 0 0] ∧ Keeps w wr)
      case atStart => exact ⟨_, rfl, Nat.pow_pos (by omega), Nat.le_refl _, HST.out, hv', hu2, hR2, k2⟩
      case round =>
        clear hv' hu2 hR2 k2
        obtain ⟨r, rfl, hr0, hrk, har, hur, hua, hR2, k2⟩ := hrel
        have hlr : (dig r).length ≤ 400001 := by
          have h1 := dig_length_mono hrk
          rw [HSD.out] at h1
          simp at h1
          omega
        have hla : (dig a).length ≤ 400000 := by rw [HE.out]; omega
        have hab := newton_above a r hr0
        have hpo := newton_pos a r (by omega) hr0
        have hst := newton_stop a r
        have hlq : (dig (a / r)).length ≤ 400000 := Nat.le_trans (dig_length_mono (Nat.div_le_self a r)) hla
        have hls := dig_length_add r (a / r)
        have hnx : (r + a / r) / 2 ≤ r + a / r := Nat.div_le_self _ _
        have hln := dig_length_mono hnx
        obtain ⟨N, hN⟩ : ∃ N, (r + a / r) / 2 = N := ⟨_, rfl⟩
        rw [hN] at hab hpo hst hln
        have HN := Lib.hid hN
        have HR0 := Lib.hid hr0
        have HRK := Lib.hid hrk
        have HAR := Lib.hid har
        have HAB := Lib.hid hab
        have HPO := Lib.hid hpo
        have HS := Lib.hid hst
        obtain ⟨s, hs⟩ : ∃ s, ((N : Int) - r).sign = s := ⟨_, rfl⟩
        have hL := lt_sign N r
        rw [hs] at hL
        have hcm := Lib.hid (fun W (v1 v2 : Value) (h1 : U32 W v1 (dig N)) (h2 : U32 W v2 (dig r)) => mcmp_s h1 h2 (by omega) (by omega) hs)
        clear hN hr0 hrk har hab hpo hst hnx hs
        rcases hL with ⟨hL, hs2⟩ | ⟨hL, hs2⟩
        · have hd2 : decide (0 ≤ s) = false := decide_eq_false (by omega)
          have HL := Lib.hid hL
          clear hL
          go_wp2_with fail
          refine (over_any _ _ a r _ hua hur (by omega) (by omega) (by have := HR0.out; omega)).mono ?_
          rintro e w3 ⟨q3, r3, rfl, hq3, -, hk3⟩
          go_wp2_with fail
          refine (plus_d _ _ r (a / r) _ (hur.below hk3) hq3 (by omega) (by omega)).mono ?_
          rintro e w4 ⟨p4, rfl, hp4, hk4⟩
          go_wp2_with fail
          refine (mshort_any _ (r + a / r) 2 _ hp4 (by omega) (by omega) (by omega)).mono ?_
          rintro e w6 ⟨n6, rfl, hn6, hk5⟩
          rw [HN.out] at hn6
          have k6 := (hk3.trans' hk4).trans' hk5
          go_wp2_with fail
          refine (hcm.out _ _ _ hn6 (hur.below k6)).mono ?_
          rintro e w7 ⟨rfl, hk6⟩
          have kk := k6.trans' hk6
          go_wp2
          go_roundg N
          case measure => exact HL.out
          case rel => exact ⟨N, rfl, HPO.out, Nat.le_trans (Nat.le_of_lt HL.out) HRK.out, HAB.out, hn6.below hk6, hua.below kk, hR2.below kk, k2.trans' kk⟩
        · have hd2 : decide (0 ≤ s) = true := decide_eq_true hs2
          have HL := Lib.hid hL
          clear hL
          go_wp2_with fail
          refine (over_any _ _ a r _ hua hur (by omega) (by omega) (by have := HR0.out; omega)).mono ?_
          rintro e w3 ⟨q3, r3, rfl, hq3, -, hk3⟩
          go_wp2_with fail
          refine (plus_d _ _ r (a / r) _ (hur.below hk3) hq3 (by omega) (by omega)).mono ?_
          rintro e w4 ⟨p4, rfl, hp4, hk4⟩
          go_wp2_with fail
          refine (mshort_any _ (r + a / r) 2 _ hp4 (by omega) (by omega) (by omega)).mono ?_
          rintro e w6 ⟨n6, rfl, hn6, hk5⟩
          rw [HN.out] at hn6
          have k6 := (hk3.trans' hk4).trans' hk5
          go_wp2_with fail
          refine (hcm.out _ _ _ hn6 (hur.below k6)).mono ?_
          rintro e w7 ⟨rfl, hk6⟩
          have kk := k6.trans' hk6
          go_wp2_with fail
          refine (made_d false _ r _ (hur.below kk)).mono ?_
          rintro e w8 ⟨V8, rfl, hr8, hk8⟩
          obtain ⟨A8, n8, c8, rfl, -⟩ := hr8.open_
          rw [show sgn false r = (r : Int) from rfl] at hr8
          have hd9 : decide (sgn false r < 0) = false := decide_eq_false (by simp [sgn])
          rw [hd9]
          have hdg : decide ((r : Int) < 0) = false := decide_eq_false (by omega)
          rw [hdg] at hr8
          clear hd9 hdg
          have kk8 := kk.trans' hk8
          have hR8 := hR2.below kk8
          have r0 := hR8.c0
          have r1 := hR8.c1
          have f0 := hR8.frozen 0
          have f1 := hR8.frozen 1
          go_wp2
          have hR4 := hR8.two (.bool false) (.slice A8 n8 c8)
          refine bodyPost_ret (v := .tuple #[.agg #[.bool false, .slice A8 n8 c8], .int .i64 0]) (by simp [results, Tryz.results96, go_sem, hR4.cell 0, hR4.cell 1]) rfl ?_
          exact ⟨_, r, by rw [HCC.out], hr8.two hR8 rfl rfl rfl, by rw [HZ.out]; exact IsRoot.of_nat (HS.out HL.out) HAR.out, ((k2.trans' kk8).set (p := ⟨w.heap.size + 1, 0, none⟩) (by simp only; omega) _).set (p := ⟨w.heap.size + 1, 1, none⟩) (by simp only; omega) _⟩
end Go.Proofs.YtmochehkkadjnaaGreatDoor

namespace Go.Proofs.YtmochehkkadjnaaGreatDoor
open Go.RowKit Go.Shelf

end Go.Proofs.YtmochehkkadjnaaGreatDoor

namespace Go.Proofs.YtmochehkkadjnaaGreatDoor
open Go.RowKit Go.Shelf

theorem IntNum.two {w : World} {V : Value} {z : Int} {R : Nat} {t : TypeId} {x y x' y' : Value} (h : IntNum w V z) (hR : Own w R t [x, y]) (hx : noU32 x = true) (hy : noU32 y = true) (hx' : noU32 x' = true) :
    IntNum ((w.setCell ⟨R, 0, none⟩ x').setCell ⟨R, 1, none⟩ y') V z := by
  obtain ⟨neg, xs, ⟨v, rfl, hv⟩, e, l⟩ := h
  exact ⟨neg, xs, ⟨v, rfl, hv.two hR hx hy hx'⟩, e, l⟩
end Go.Proofs.YtmochehkkadjnaaGreatDoor

namespace Go.Proofs.YtmochehkkadjnaaGreatDoor
open Go.RowKit Go.Shelf

end Go.Proofs.YtmochehkkadjnaaGreatDoor
