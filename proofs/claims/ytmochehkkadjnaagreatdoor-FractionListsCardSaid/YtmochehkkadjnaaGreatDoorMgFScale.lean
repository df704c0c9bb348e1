/- The walk of fraction.scaled. The walk of fraction.Text. The walks of strings.Builder's copyCheck, WriteByte, WriteString: as the shelf's proofs go, at this dump (its panic branch is refused by the loader, so the shelf does not lay them). -/
import Derived.Test.YtmochehkkadjnaaGreatDoorMgFNear
import Derived.Test.YtmochehkkadjnaaGreatDoorRRoot
import Derived.Test.YtmochehkkadjnaaGreatDoorFOps2
import Derived.Test.YtmochehkkadjnaaGreatDoorMgSt2
import Derived.Test.YtmochehkkadjnaaGreatDoorMgNums
import Derived.Test.YtmochehkkadjnaaGreatDoorMgCmp
import Derived.Test.YtmochehkkadjnaaGreatDoorMgRefA
import Derived.Test.YtmochehkkadjnaaGreatDoorMgNum
import Derived.Shelf.Strings.Builder1
namespace Go.Proofs.YtmochehkkadjnaaGreatDoor
open Go.RowKit Go.Shelf

def zeroInt : Value := .agg #[.bool false, .slice none 0 0]
theorem lenI_two (n : Nat) : lenI (2 ^ n) ≤ n + 1 := by
  refine pow_lenI 2 n (n + 1) (Nat.lt_of_le_of_lt (Nat.pow_le_pow_left (show (2 : Int).natAbs ≤ 1000000000 by decide) n) ?_)
  exact Nat.pow_lt_pow_right (by omega) (by omega)
set_option maxRecDepth 100000 in
set_option maxHeartbeats 1000000 in
theorem fscaled_bad {w : World} {V1 : Value} {x : Rat} {k : Int} (h1 : RatNum w V1 x) (hb : k < 0 ∨ 512 < k) : Calls Tryz.prog 95 #[V1, .int .i64 k] w fun e w' => e = .returned (.tuple #[zeroRat, zeroInt, .int .i64 2]) ∧ Keeps w w' := by
  obtain ⟨b1, A1, n1, c1, d1, B1, m1, e1, rfl⟩ := h1.open_
  have S := (((St.start w).alloc 28 [.bool b1, .slice A1 n1 c1, .bool d1, .slice B1 m1 e1]).alloc 28 [.bool false, .slice none 0 0, .bool false, .slice none 0 0]).alloc 24 [.bool false, .slice none 0 0]
  simp only [World.size_alloc] at S
  by_cases h0 : k < 0
  · have t1 : decide (k < 0) = true := decide_eq_true h0
    clear hb h0
    go_enter Tryz.func95, Tryz.ntmps95
    go_upto_region 2 with fail
    generalize ((w.alloc (.cells #[.bool b1, .slice A1 n1 c1, .bool d1, .slice B1 m1 e1] 28)).alloc (.cells #[.bool false, .slice none 0 0, .bool false, .slice none 0 0] 28)).alloc (.cells #[.bool false, .slice none 0 0] 24) = W at *
    have r1_0 := S.c 1 0 rfl rfl
    have r1_1 := S.c 1 1 rfl rfl
    have r1_2 := S.c 1 2 rfl rfl
    have r1_3 := S.c 1 3 rfl rfl
    have f1_0 := S.f 1 0 rfl
    have f1_1 := S.f 1 1 rfl
    have f1_2 := S.f 1 2 rfl
    have f1_3 := S.f 1 3 rfl
    have r0_0 := S.c 0 0 rfl rfl
    have r0_1 := S.c 0 1 rfl rfl
    have f0_0 := S.f 0 0 rfl
    have f0_1 := S.f 0 1 rfl
    go_wp2
    replace S := (S.put4 1 rfl rfl rfl (x' := .bool false) (y' := .slice none 0 0) (z' := .bool false) (u' := .slice none 0 0)).put2 0 rfl rfl rfl (x' := .bool false) (y' := .slice none 0 0)
    refine bodyPost_ret (v := .tuple #[zeroRat, zeroInt, .int .i64 2]) (by simp [zeroRat, zeroInt, results, Tryz.results95, go_sem, S.c 1 0 rfl rfl, S.c 1 1 rfl rfl, S.c 1 2 rfl rfl, S.c 1 3 rfl rfl, S.c 0 0 rfl rfl, S.c 0 1 rfl rfl]) rfl ?_
    exact ⟨rfl, S.k⟩
  · have t1 : decide (k < 0) = false := decide_eq_false h0
    have t2 : decide (512 < k) = true := decide_eq_true (by omega)
    clear hb h0
    go_enter Tryz.func95, Tryz.ntmps95
    go_upto_region 2 with fail
    generalize ((w.alloc (.cells #[.bool b1, .slice A1 n1 c1, .bool d1, .slice B1 m1 e1] 28)).alloc (.cells #[.bool false, .slice none 0 0, .bool false, .slice none 0 0] 28)).alloc (.cells #[.bool false, .slice none 0 0] 24) = W at *
    have r1_0 := S.c 1 0 rfl rfl
    have r1_1 := S.c 1 1 rfl rfl
    have r1_2 := S.c 1 2 rfl rfl
    have r1_3 := S.c 1 3 rfl rfl
    have f1_0 := S.f 1 0 rfl
    have f1_1 := S.f 1 1 rfl
    have f1_2 := S.f 1 2 rfl
    have f1_3 := S.f 1 3 rfl
    have r0_0 := S.c 0 0 rfl rfl
    have r0_1 := S.c 0 1 rfl rfl
    have f0_0 := S.f 0 0 rfl
    have f0_1 := S.f 0 1 rfl
    go_wp2
    replace S := (S.put4 1 rfl rfl rfl (x' := .bool false) (y' := .slice none 0 0) (z' := .bool false) (u' := .slice none 0 0)).put2 0 rfl rfl rfl (x' := .bool false) (y' := .slice none 0 0)
    refine bodyPost_ret (v := .tuple #[zeroRat, zeroInt, .int .i64 2]) (by simp [zeroRat, zeroInt, results, Tryz.results95, go_sem, S.c 1 0 rfl rfl, S.c 1 1 rfl rfl, S.c 1 2 rfl rfl, S.c 1 3 rfl rfl, S.c 0 0 rfl rfl, S.c 0 1 rfl rfl]) rfl ?_
    exact ⟨rfl, S.k⟩
def ScGives (q : Rat) (p : Int) (w : World) (e : Ending) (w' : World) : Prop := ∃ Q P, e = .returned (.tuple #[Q, P, .int .i64 0]) ∧ RatRep w' Q q ∧ IntRep w' P p ∧ Keeps w w'
set_option maxRecDepth 100000 in
set_option maxHeartbeats 1000000 in
theorem fscaled_num {w : World} {V1 : Value} {x : Rat} {k : Int} (h1 : RatNum w V1 x) (ht : PowTab w) (h0 : 0 ≤ k) (h2 : k ≤ 512) {P : Int} (hP : (2 : Int) ^ k.toNat = P) : Calls Tryz.prog 95 #[V1, .int .i64 k] w (ScGives (x * (P : Rat)) P w) := by
  obtain ⟨b1, A1, n1, c1, d1, B1, m1, e1, rfl⟩ := h1.open_
  have S := (((St.start w).alloc 28 [.bool b1, .slice A1 n1 c1, .bool d1, .slice B1 m1 e1]).alloc 28 [.bool false, .slice none 0 0, .bool false, .slice none 0 0]).alloc 24 [.bool false, .slice none 0 0]
  simp only [World.size_alloc] at S
  have t1 : decide (k < 0) = false := decide_eq_false (by omega)
  have t2 : decide (512 < k) = false := decide_eq_false (by omega)
  have lp := lenI_two k.toNat
  rw [hP] at lp
  have sp := szR_int P
  have HP := Lib.hid hP
  have HD := Lib.hid dgs_two
  clear hP
  go_enter Tryz.func95, Tryz.ntmps95
  go_upto_region 3 with fail
  generalize ((w.alloc (.cells #[.bool b1, .slice A1 n1 c1, .bool d1, .slice B1 m1 e1] 28)).alloc (.cells #[.bool false, .slice none 0 0, .bool false, .slice none 0 0] 28)).alloc (.cells #[.bool false, .slice none 0 0] 24) = W at *
  go_wp2_with fail
  refine (of_num 2 (by omega) (by omega)).mono ?_
  rintro e W1 ⟨U1, rfl, hp, hk⟩
  replace S := (S.below hk).addI hp
  clear hk hp
  go_wp2_with fail
  have hpw := power_small (S.ii 0 rfl) (ht.keep S.k) h0 (by omega) (by rw [show (2 : Int).natAbs = 2 from rfl, HD.out]; omega) (Nat.le_trans (dig_length_le (n := (2 : Int).natAbs) (k := 1) (by decide)) (by omega))
  rw [HP.out] at hpw
  refine hpw.mono ?_
  clear hpw
  rintro e W2 ⟨U2, rfl, hp, hk⟩
  obtain ⟨b4, A4, n4, c4, rfl⟩ := hp.open3
  have lt2 : w.heap.size + 1 + 1 < W2.heap.size := ((S.below hk).o 0 rfl).lt
  replace S := ((S.below hk).addI hp).alloc 24 [.bool b4, .slice A4 n4 c4]
  clear hk hp
  go_upto_region 4 with fail
  generalize hB : W2.heap.size = B at *
  generalize hW : W2.alloc (.cells #[.bool b4, .slice A4 n4 c4] 24) = W3 at *
  clear hB hW
  replace S := S.drew
  go_region_held3 (fun w' => w'.cell? ⟨w.heap.size, 0, none⟩ = some (.bool b1) ∧ w'.cell? ⟨w.heap.size, 1, none⟩ = some (.slice A1 n1 c1) ∧ w'.cell? ⟨w.heap.size, 2, none⟩ = some (.bool d1) ∧ w'.cell? ⟨w.heap.size, 3, none⟩ = some (.slice B1 m1 e1) ∧ w'.cell? ⟨B, 0, none⟩ = some (.bool b4) ∧ w'.cell? ⟨B, 1, none⟩ = some (.slice A4 n4 c4))
    (first
      | with_reducible exact ⟨S.c 3 0 rfl rfl, S.c 3 1 rfl rfl, S.c 3 2 rfl rfl, S.c 3 3 rfl rfl, S.c 0 0 rfl rfl, S.c 0 1 rfl rfl⟩
      | with_reducible exact ⟨(S.put4 2 rfl rfl rfl).c 3 0 rfl rfl, (S.put4 2 rfl rfl rfl).c 3 1 rfl rfl, (S.put4 2 rfl rfl rfl).c 3 2 rfl rfl, (S.put4 2 rfl rfl rfl).c 3 3 rfl rfl, (S.put4 2 rfl rfl rfl).c 0 0 rfl rfl, (S.put4 2 rfl rfl rfl).c 0 1 rfl rfl⟩
      | with_reducible exact ⟨((S.put4 2 rfl rfl rfl).put2 1 rfl rfl rfl).c 3 0 rfl rfl, ((S.put4 2 rfl rfl rfl).put2 1 rfl rfl rfl).c 3 1 rfl rfl, ((S.put4 2 rfl rfl rfl).put2 1 rfl rfl rfl).c 3 2 rfl rfl, ((S.put4 2 rfl rfl rfl).put2 1 rfl rfl rfl).c 3 3 rfl rfl, ((S.put4 2 rfl rfl rfl).put2 1 rfl rfl rfl).c 0 0 rfl rfl, ((S.put4 2 rfl rfl rfl).put2 1 rfl rfl rfl).c 0 1 rfl rfl⟩)
    (first
      | (go_at_call 84; refine (of_num 1 (by omega) (by omega)).mono ?_; rintro e W5 ⟨U9, rfl, hp, hk⟩; obtain ⟨b9, A9, n9, c9, rfl⟩ := hp.open3; replace S := (S.below hk).addI hp)
      | (go_at_call 30; refine (fmul_num (h1.below S.k) ((RatRep.whole (S.ii 1 rfl) (S.ii 0 rfl)).num (by omega))).mono ?_; rintro e W6 ⟨U8, rfl, hp2, hk2⟩; obtain ⟨b5, A5, n5, c5, d5, B5, m5, e5, rfl⟩ := hp2.open_; replace S := (S.below hk2).addQ hp2; have r2_0 := S.c 2 0 rfl rfl; have r2_1 := S.c 2 1 rfl rfl; have r2_2 := S.c 2 2 rfl rfl; have r2_3 := S.c 2 3 rfl rfl; have f2_0 := S.f 2 0 rfl; have f2_1 := S.f 2 1 rfl; have f2_2 := S.f 2 2 rfl; have f2_3 := S.f 2 3 rfl; have r1_0 := S.c 1 0 rfl rfl; have r1_1 := S.c 1 1 rfl rfl; have f1_0 := S.f 1 0 rfl; have f1_1 := S.f 1 1 rfl))
  all_goals
    go_wp2
    replace S := (S.put4 2 rfl rfl rfl (x' := .bool b5) (y' := .slice A5 n5 c5) (z' := .bool d5) (u' := .slice B5 m5 e5)).put2 1 rfl rfl rfl (x' := .bool b4) (y' := .slice A4 n4 c4)
    refine bodyPost_ret (v := .tuple #[.agg #[.bool b5, .slice A5 n5 c5, .bool d5, .slice B5 m5 e5], .agg #[.bool b4, .slice A4 n4 c4], .int .i64 0]) (by simp [results, Tryz.results95, go_sem, S.c 2 0 rfl rfl, S.c 2 1 rfl rfl, S.c 2 2 rfl rfl, S.c 2 3 rfl rfl, S.c 1 0 rfl rfl, S.c 1 1 rfl rfl]) rfl ?_
    exact ⟨_, _, rfl, S.qi 0 rfl, S.ii 2 rfl, S.k⟩
end Go.Proofs.YtmochehkkadjnaaGreatDoor

namespace Go.Proofs.YtmochehkkadjnaaGreatDoor
open Go.RowKit Go.Shelf

def fracT (q : Rat) : List UInt8 := textL q.num ++ (if q.den = 1 then [] else 47 :: textL (q.den : Int))
theorem textL_le (z : Int) : (textL z).length ≤ 9 * lenI z + 2 := by
  unfold textL
  split
  · simp
  · rename_i h0
    rw [← txt_pos _ (show z.natAbs ≠ 0 by omega), List.length_append]
    have h1 := dig_lt z.natAbs
    have h2 : (txt z.natAbs).length ≤ 9 * (dig z.natAbs).length := txt_len _ _ (by rw [Nat.pow_mul]; exact h1)
    unfold lenI
    have : (if z < 0 then ([45] : List UInt8) else []).length ≤ 1 := by split <;> simp
    omega
theorem text_l {w : World} {V : Value} {z : Int} {T : List UInt8} (h : IntNum w V z) (ht : PowTab w) (e : textL z = T) : Calls Tryz.prog 108 #[V] w fun e w' => e = .returned (.string ⟨T.toArray⟩) ∧ Keeps w w' := by
  subst e; exact text_num h ht
set_option maxRecDepth 100000 in
set_option maxHeartbeats 1000000 in
theorem ftext_num {w : World} {V1 : Value} {x : Rat} (h1 : RatNum w V1 x) (ht : PowTab w) : Calls Tryz.prog 75 #[V1] w fun e w' => e = .returned (.string ⟨(fracT x).toArray⟩) ∧ Keeps w w' := by
  obtain ⟨b1, A1, n1, c1, d1, B1, m1, e1, rfl⟩ := h1.open_
  have hx := h1.sz
  have S := (St.start w).alloc 28 [.bool b1, .slice A1 n1 c1, .bool d1, .slice B1 m1 e1]
  obtain ⟨T1, hT1⟩ : ∃ T, textL x.num = T := ⟨_, rfl⟩
  obtain ⟨T2, hT2⟩ : ∃ T, textL (x.den : Int) = T := ⟨_, rfl⟩
  have l1 := textL_le x.num
  have l2 := textL_le (x.den : Int)
  have lx1 := szR_num hx
  have lx2 := szR_den hx
  rw [hT1] at l1
  rw [hT2] at l2
  have k1 : (T1.length : Int) ≤ 1000000 := by omega
  have k2 : (T2.length : Int) ≤ 1000000 := by omega
  have HT1 := Lib.hid hT1
  have HT2 := Lib.hid hT2
  clear hT1 hT2 l1 l2
  go_enter Tryz.func75, Tryz.ntmps75
  go_wp2_with fail
  generalize w.alloc (.cells #[.bool b1, .slice A1 n1 c1, .bool d1, .slice B1 m1 e1] 28) = W at *
  refine (fvalue_num (h1.below S.k)).mono ?_
  rintro e W1 ⟨U, rfl, hp, hk⟩
  obtain ⟨b3, A3, n3, c3, d3, B3, m3, e3, rfl⟩ := hp.open_
  replace S := (S.below hk).addQ hp
  clear hk hp h1
  have r0_0 := S.c 0 0 rfl rfl
  have r0_1 := S.c 0 1 rfl rfl
  have r0_2 := S.c 0 2 rfl rfl
  have r0_3 := S.c 0 3 rfl rfl
  have f0_0 := S.f 0 0 rfl
  have f0_1 := S.f 0 1 rfl
  have f0_2 := S.f 0 2 rfl
  have f0_3 := S.f 0 3 rfl
  go_upto_region 2 with fail
  replace S := S.put4 0 rfl rfl rfl (x' := .bool b3) (y' := .slice A3 n3 c3) (z' := .bool d3) (u' := .slice B3 m3 e3)
  generalize (((W1.setCell ⟨w.heap.size, 0, none⟩ (.bool b3)).setCell ⟨w.heap.size, 1, none⟩ (.slice A3 n3 c3)).setCell ⟨w.heap.size, 2, none⟩ (.bool d3)).setCell ⟨w.heap.size, 3, none⟩ (.slice B3 m3 e3) = W4 at S ⊢
  clear r0_0 r0_1 r0_2 r0_3 f0_0 f0_1 f0_2 f0_3
  have r0_0 := S.c 0 0 rfl rfl
  have r0_1 := S.c 0 1 rfl rfl
  have r0_2 := S.c 0 2 rfl rfl
  have r0_3 := S.c 0 3 rfl rfl
  go_wp2_with fail
  refine (text_l ((S.qi 0 rfl).nn hx) (ht.keep S.k) HT1.out).mono ?_
  rintro e W5 ⟨rfl, hk⟩
  replace S := (S.below hk)
  clear hk r0_0 r0_1 r0_2 r0_3
  go_upto_region 3 with fail
  obtain ⟨s, hs⟩ : ∃ s, ((x.den : Int) - 1).sign = s := ⟨_, rfl⟩
  have HS := Lib.hid hs
  replace S := S.drew
  go_region_held3 (fun w' => w'.cell? ⟨w.heap.size, 2, none⟩ = some (.bool d3) ∧ w'.cell? ⟨w.heap.size, 3, none⟩ = some (.slice B3 m3 e3))
    (with_reducible exact ⟨S.c 0 2 rfl rfl, S.c 0 3 rfl rfl⟩)
    (first
      | (go_at_call 84; refine (of_num 1 (by omega) (by omega)).mono ?_; rintro e W6 ⟨U9, rfl, hp, hk⟩; replace S := (S.below hk).addN (hp.num (by have := lenI_one; omega)))
      | (go_at_call 87; refine (icompare_s ((S.qi 1 rfl).dn hx) (S.ni 0 rfl) HS.out).mono ?_; rintro e W7 ⟨rfl, hk2⟩; replace S := (S.below hk2)))
  have hdp := den_posI x
  by_cases hd : x.den = 1
  · have hs0 : s = 0 := by rw [← hs, hd]; rfl
    have hf : fracT x = T1 := by unfold fracT; rw [if_pos hd, HT1.out, List.append_nil]
    have HF := Lib.hid hf
    have hsb : (s != 0) = false := by rw [hs0]; rfl
    clear hs0 hf hs hd HS
    go_wp2
    go_ret
    exact ⟨by rw [HF.out]; rfl, S.k⟩
  · have hs0 : s ≠ 0 := by
      intro e
      rw [← hs, Int.sign_eq_zero_iff_zero] at e
      omega
    have hf : fracT x = T1 ++ ([47] ++ T2) := by unfold fracT; rw [if_neg hd, HT1.out, HT2.out]; rfl
    have HF := Lib.hid hf
    have hsb : (s != 0) = true := by simpa using hs0
    clear hs0 hf hs hd HS
    have r0_2 := S.c 0 2 rfl rfl
    have r0_3 := S.c 0 3 rfl rfl
    go_wp2_with fail
    refine (text_l ((S.qi 1 rfl).dn hx) (ht.keep S.k) HT2.out).mono ?_
    rintro e W8 ⟨rfl, hk⟩
    replace S := (S.below hk)
    clear hk r0_2 r0_3
    go_wp2
    go_ret
    refine ⟨?_, S.k⟩
    rw [HF.out, ← cat_str, ← cat_str]
    rfl
end Go.Proofs.YtmochehkkadjnaaGreatDoor

namespace Go.Proofs.YtmochehkkadjnaaGreatDoor
open Go.RowKit Go.Shelf

theorem info_bld : (Tryz.prog.info? 82).map (·.size) = some 2 := by kernel_rfl
theorem lies_bld : liesAt Tryz.prog Tryz.prog.depth 82 (2 / Tryz.prog.cellsOf 82) 0 82 1 = true := by kernel_rfl
theorem info_u8 : (Tryz.prog.info? 5).map (fun i => (i.zero, i.size, i.bytes)) = some (some (.int .u8 0), 1, 1) := by kernel_rfl
set_option maxHeartbeats 1000000 in
set_option maxRecDepth 100000 in
theorem bcheck_used (b : Nat) (w : World) (h0 : w.cell? ⟨b, 0, none⟩ = some (.pointer (some ⟨b, 0, none⟩))) :
    Calls Tryz.prog 158 #[.pointer (some ⟨b, 0, none⟩)] w fun e w' => e = .returned (.tuple #[]) ∧ w' = w := by
  obtain ⟨j, hj, -⟩ := Option.map_eq_some_iff.1 info_bld
  go_enter Tryz.func158, Tryz.ntmps158
  go_wp2
  rw [Lib.run_neq_ptr_same w _ Tryz.underlying79 hj]
  go_wp2
  go_end0
  exact ⟨rfl, rfl⟩
set_option maxHeartbeats 1000000 in
set_option maxRecDepth 100000 in
theorem bcheck_fresh (b : Nat) (w : World) (h0 : w.cell? ⟨b, 0, none⟩ = some (.pointer none)) (hsh : w.shape? b = some (82, 2)) (hfz : w.frozen? ⟨b, 0, none⟩ = false) :
    Calls Tryz.prog 158 #[.pointer (some ⟨b, 0, none⟩)] w fun e w' => e = .returned (.tuple #[]) ∧ w' = w.setCell ⟨b, 0, none⟩ (.pointer (some ⟨b, 0, none⟩)) := by
  obtain ⟨j, hj, hjs⟩ := Option.map_eq_some_iff.1 info_bld
  go_enter Tryz.func158, Tryz.ntmps158
  go_wp2
  rw [Lib.run_to_unsafe w ⟨b, 0, none⟩ Tryz.underlying79 Tryz.underlying155 hj (by rw [hjs]; decide) hsh (Nat.zero_lt_succ 1)]
  simp only [Result.andThen]
  rw [Oper.upon_value]
  go_wp2
  rw [run_callFunc_extern Tryz.func190 (by kernel_rfl) (by kernel_rfl) (by kernel_rfl) (e := Extern.AbiNoEscape.same) (by kernel_rfl)]
  rw [Lib.run_noEscape]
  simp only [Result.andThen]
  rw [Oper.upon_value]
  go_wp2
  rw [Lib.run_from_unsafe w ⟨b, 0, none⟩ Tryz.underlying155 Tryz.underlying79 hj hsh lies_bld]
  simp only [Result.andThen]
  rw [Oper.upon_value]
  go_wp2
  go_end0
  exact ⟨rfl, rfl⟩
theorem bcheck (B b : Nat) (bs : List Value) (w : World) (h : Lib.IsBuilder 82 5 B b bs w) :
    Calls Tryz.prog 158 #[.pointer (some ⟨b, 0, none⟩)] w fun e w' => e = .returned (.tuple #[]) ∧ (Lib.BuilderAt 82 5 B b (.pointer (some ⟨b, 0, none⟩)) bs w' ∧ Below B w w') := by
  rcases h with h | h
  · refine (bcheck_fresh b w h.cell0 h.shape h.frozen0).mono ?_
    rintro e w' ⟨rfl, rfl⟩
    exact ⟨rfl, h.used _, (Below.refl B w).setCell (p := ⟨b, 0, none⟩) h.1 _⟩
  · refine (bcheck_used b w h.cell0).mono ?_
    rintro e w' ⟨rfl, rfl⟩
    exact ⟨rfl, h, Below.refl B _⟩
set_option maxHeartbeats 2000000 in
set_option maxRecDepth 100000 in
theorem bbyte (B b : Nat) (bs : List Value) (c : Int) (w : World) (h : Lib.IsBuilder 82 5 B b bs w) (hlen : bs.length + 1 ≤ 140737488355328) (hBw : B ≤ w.heap.size) :
    Calls Tryz.prog 107 #[.pointer (some ⟨b, 0, none⟩), .int .u8 c] w fun e w' => e = .returned .nilIface ∧ (Lib.BuilderAt 82 5 B b (.pointer (some ⟨b, 0, none⟩)) (bs ++ [.int .u8 c]) w' ∧ Below B w w') := by
  obtain ⟨i0, hi, hz0, hz1, hz2⟩ := info_parts info_u8
  go_enter Tryz.func107, Tryz.ntmps107
  go_wp2_with fail
  refine (bcheck B b bs _ h).mono ?_
  rintro e w1 ⟨rfl, h1, hb1⟩
  obtain ⟨hB, v, hbk, hown, hne⟩ := h1
  have c0 : w1.cell? ⟨b, 0, none⟩ = some (.pointer (some ⟨b, 0, none⟩)) := by rw [Lib.cell_of_heap hbk]; rfl
  have c1 : w1.cell? ⟨b, 1, none⟩ = some v := by rw [Lib.cell_of_heap hbk]; rfl
  go_wp2_with (at_builtin; refine wpList_append_own _ rfl _ _ 80 rfl B 5 i0 (.int .u8 0) 1 1 Tryz.underlying80 hi hz0 hz1 hz2 rfl (by decide) _ _ _ rfl (hown.alloc _) ⟨w1.heap.size, 0, none⟩ 1 1 [.int .u8 c] rfl rfl ?c1 ?c2 ?c3 ?c4 ?c5 ?_)
  case c1 =>
    intro j u hj
    match j, hj with
    | 0, hj => simp at hj; subst hj; simp [Addr.add]
  case c2 => intro u hu; simp at hu; subst hu; rfl
  case c3 => unfold maxLen; omega
  case c4 => omega
  case c5 => have := hb1.size; simp; omega
  intro v' w2 hown' hgrow _
  have hlt : b < w1.heap.size := by
    rcases Nat.lt_or_ge b w1.heap.size with h' | h'
    · exact h'
    · simp [Array.getElem?_eq_none h'] at hbk
  have hb2 : w2.heap[b]? = some (.cells #[.pointer (some ⟨b, 0, none⟩), v] 82 (0, 0)) := by
    rw [hgrow.block b (by simp; omega) (fun e => hne e.symm), Lib.alloc_old w1 _ b hlt]
    exact hbk
  have d0 : w2.cell? ⟨b, 0, none⟩ = some (.pointer (some ⟨b, 0, none⟩)) := by rw [Lib.cell_of_heap hb2]; rfl
  have d1 : w2.cell? ⟨b, 1, none⟩ = some v := by rw [Lib.cell_of_heap hb2]; rfl
  have f1 : w2.frozen? ⟨b, 1, none⟩ = false := Lib.frozen_of_heap hb2 1
  obtain ⟨g, cap, rfl⟩ : ∃ g cap, v' = .slice (some ⟨g, 0, none⟩) (bs.length + 1) cap := by
    rcases hown'.2 with ⟨_, h0⟩ | ⟨g, cap, cur, hv, _⟩
    · omega
    · exact ⟨g, cap, hv⟩
  go_wp2
  go_ret
  refine ⟨rfl, ?_, ?_⟩
  · exact Lib.BuilderAt.put (T := 82) (e := 5) hB hb2 (bs' := bs ++ [.int .u8 c]) (by simpa using hown') (by decide)
  · exact ((hb1.alloc (by have := hb1.size; omega) _).grown hgrow (by have := hb1.size; simp; omega) (fun k hk => (hown.lt k hk).1)).setCell (p := ⟨b, 1, none⟩) hB _
set_option maxHeartbeats 2000000 in
set_option maxRecDepth 100000 in
theorem bstring (B b : Nat) (bs : List Value) (s : ByteArray) (w : World) (h : Lib.IsBuilder 82 5 B b bs w) (hlen : bs.length + s.size ≤ 140737488355328) (hBw : B ≤ w.heap.size) :
    Calls Tryz.prog 111 #[.pointer (some ⟨b, 0, none⟩), .string s] w fun e w' => e = .returned (.tuple #[.int .i64 s.size, .nilIface]) ∧ (Lib.BuilderAt 82 5 B b (.pointer (some ⟨b, 0, none⟩)) (bs ++ Lib.strCells s) w' ∧ Below B w w') := by
  obtain ⟨i0, hi, hz0, hz1, hz2⟩ := info_parts info_u8
  go_enter Tryz.func111, Tryz.ntmps111
  go_wp2_with fail
  refine (bcheck B b bs _ h).mono ?_
  rintro e w1 ⟨rfl, h1, hb1⟩
  obtain ⟨hB, v, hbk, hown, hne⟩ := h1
  have c0 : w1.cell? ⟨b, 0, none⟩ = some (.pointer (some ⟨b, 0, none⟩)) := by rw [Lib.cell_of_heap hbk]; rfl
  have c1 : w1.cell? ⟨b, 1, none⟩ = some v := by rw [Lib.cell_of_heap hbk]; rfl
  go_wp2_with (at_builtin; refine Lib.wpList_append_own_string _ rfl _ _ 80 9 rfl B 5 i0 Tryz.underlying80 Tryz.underlying9 hi hz0 hz1 hz2 _ _ _ rfl hown s rfl ?c3 ?c4 ?c5 ?_)
  case c3 => unfold maxLen; omega
  case c4 => omega
  case c5 => have := hb1.size; omega
  intro v' w2 hown' hgrow _
  have hlt : b < w1.heap.size := by
    rcases Nat.lt_or_ge b w1.heap.size with h' | h'
    · exact h'
    · simp [Array.getElem?_eq_none h'] at hbk
  have hb2 : w2.heap[b]? = some (.cells #[.pointer (some ⟨b, 0, none⟩), v] 82 (0, 0)) := by
    rw [hgrow.block b hlt (fun e => hne e.symm)]
    exact hbk
  have d0 : w2.cell? ⟨b, 0, none⟩ = some (.pointer (some ⟨b, 0, none⟩)) := by rw [Lib.cell_of_heap hb2]; rfl
  have d1 : w2.cell? ⟨b, 1, none⟩ = some v := by rw [Lib.cell_of_heap hb2]; rfl
  have f1 : w2.frozen? ⟨b, 1, none⟩ = false := Lib.frozen_of_heap hb2 1
  obtain ⟨ao, n', cap, rfl⟩ : ∃ ao n' cap, v' = .slice ao n' cap := by
    rcases hown'.2 with ⟨hv, _⟩ | ⟨g, cap, cur, hv, _⟩
    · exact ⟨_, _, _, hv⟩
    · exact ⟨_, _, _, hv⟩
  go_wp2
  go_ret2
  refine ⟨rfl, ?_, ?_⟩
  · exact Lib.BuilderAt.put (T := 82) (e := 5) hB hb2 (bs' := bs ++ Lib.strCells s) (by simpa [Lib.strCells_length] using hown') (by decide)
  · exact (hb1.grown hgrow (by have := hb1.size; omega) (fun k hk => (hown.lt k hk).1)).setCell (p := ⟨b, 1, none⟩) hB _
structure Bd (w1 : World) (l : List UInt8) (w : World) : Prop where
  h : Lib.IsBuilder 82 5 w1.heap.size w1.heap.size (Lib.byteCells l) w
  k : Keeps w1 w
theorem Bd.new (w1 : World) : Bd w1 [] (w1.alloc (.cells #[.pointer none, .slice none 0 0] 82)) := by
  refine ⟨.inl ⟨Nat.le_refl _, _, Own.new w1 _ [.pointer none, .slice none 0 0], ⟨by simp [Lib.byteCells], .inl ⟨rfl, rfl⟩⟩, by simp [Value.ownBlock]⟩, ?_⟩
  exact (Below.refl _ _).alloc (Nat.le_refl _) _
theorem bd_owns_keep {w w' : World} {base : Nat} {t : TypeId} {x : Value} {L : Nat} {xs : List Value} (h : w.ownsRow base t 1 x L xs) (hb : Keeps w w') : w'.ownsRow base t 1 x L xs := by
  refine ⟨h.1, h.2.imp id ?_⟩
  rintro ⟨g, cap, cur, e, h1, h2, h3⟩
  exact ⟨g, cap, cur, e, h1, (hb.block g ((Array.getElem?_eq_some_iff.1 h2).1)).trans h2, h3⟩
theorem Bd.below {w1 w w' : World} {l : List UInt8} (h : Bd w1 l w) (hk : Keeps w w') : Bd w1 l w' := by
  have go : ∀ p, Lib.BuilderAt 82 5 w1.heap.size w1.heap.size p (Lib.byteCells l) w → Lib.BuilderAt 82 5 w1.heap.size w1.heap.size p (Lib.byteCells l) w' := by
    rintro p ⟨hB, v, hb, ho, hn⟩
    exact ⟨hB, v, (hk.block _ ((Array.getElem?_eq_some_iff.1 hb).1)).trans hb, bd_owns_keep ho hk, hn⟩
  exact ⟨h.h.imp (go _) (go _), h.k.trans' hk⟩
theorem bd_byte {w1 w : World} {l : List UInt8} (c : UInt8) (h : Bd w1 l w) (hl : l.length ≤ 1000000) :
    Calls Tryz.prog 107 #[.pointer (some ⟨w1.heap.size, 0, none⟩), .int .u8 (c.toNat : Int)] w fun e w' => e = .returned .nilIface ∧ Bd w1 (l ++ [c]) w' := by
  refine (bbyte w1.heap.size w1.heap.size _ _ w h.h (by rw [Lib.byteCells_length]; omega) h.k.size).mono ?_
  rintro e w' ⟨rfl, hb, hk⟩
  exact ⟨rfl, .inr (by rw [Lib.byteCells_append]; exact hb), h.k.trans hk⟩
theorem bd_string {w1 w : World} {l : List UInt8} (s : List UInt8) (h : Bd w1 l w) (hl : l.length ≤ 1000000) (hs : s.length ≤ 1000000) :
    Calls Tryz.prog 111 #[.pointer (some ⟨w1.heap.size, 0, none⟩), .string ⟨s.toArray⟩] w fun e w' => e = .returned (.tuple #[.int .i64 s.length, .nilIface]) ∧ Bd w1 (l ++ s) w' := by
  refine (bstring w1.heap.size w1.heap.size _ _ w h.h (by rw [Lib.byteCells_length]; show _ + s.toArray.size ≤ _; simp; omega) h.k.size).mono ?_
  rintro e w' ⟨rfl, hb, hk⟩
  exact ⟨by simp [ByteArray.size], .inr (by rw [Lib.byteCells_append]; exact hb), h.k.trans hk⟩
theorem bd_out {w1 w : World} {l : List UInt8} (h : Bd w1 l w) :
    Calls Tryz.prog 112 #[.pointer (some ⟨w1.heap.size, 0, none⟩)] w fun e w' => e = .returned (.string ⟨l.toArray⟩) ∧ Keeps w1 w' := by
  refine (Tryz.Builder_String_any w1.heap.size w1.heap.size l w h.h h.k.size).mono ?_
  rintro e w' ⟨rfl, hk⟩
  exact ⟨rfl, h.k.trans hk⟩
end Go.Proofs.YtmochehkkadjnaaGreatDoor
