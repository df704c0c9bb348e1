/- report.Checks: the walk. -/
import Derived.Test.YtgcigdahjabimaaGreatDoorPr37
import Derived.Test.YtgcigdahjabimaaGreatDoorPr28
import Derived.Test.YtgcigdahjabimaaGreatDoorPr26
namespace Go.Proofs.YtgcigdahjabimaaGreatDoor
open Go.RowKit Go.Shelf
theorem run_ix0 (a b d : Int) (W : World) : Sem.run Tryz.prog (Instr.index 71 (.agg #[.int .i64 a, .int .i64 b, .int .i64 d]) (.int .i64 0)) W = .ok (.int .i64 a) W := by kernel_rfl
theorem run_ix1 (a b d : Int) (W : World) : Sem.run Tryz.prog (Instr.index 71 (.agg #[.int .i64 a, .int .i64 b, .int .i64 d]) (.int .i64 1)) W = .ok (.int .i64 b) W := by kernel_rfl
theorem run_ix2 (a b d : Int) (W : World) : Sem.run Tryz.prog (Instr.index 71 (.agg #[.int .i64 a, .int .i64 b, .int .i64 d]) (.int .i64 2)) W = .ok (.int .i64 d) W := by kernel_rfl
theorem index3 (x0 x1 x2 x : Int) (u : World) {j : Nat} (hj : j < 3) (h : [Value.int .i64 x0, .int .i64 x1, .int .i64 x2][j]? = some (.int .i64 x)) : (Instr.index 71 (.agg #[.int .i64 x0, .int .i64 x1, .int .i64 x2]) (.int .i64 (j : Nat))).run Tryz.prog u = .ok (.int .i64 x) u := by
 have : j = 0 ∨ j = 1 ∨ j = 2 := by omega
 rcases this with rfl | rfl | rfl
 ·simp only [List.getElem?_cons_zero, Option.some.injEq, Value.int.injEq, true_and] at h
  exact h ▸ run_ix0 x0 x1 x2 u
 ·simp only [List.getElem?_cons_zero, List.getElem?_cons_succ, Option.some.injEq, Value.int.injEq, true_and] at h
  exact h ▸ run_ix1 x0 x1 x2 u
 ·simp only [List.getElem?_cons_zero, List.getElem?_cons_succ, Option.some.injEq, Value.int.injEq, true_and] at h
  exact h ▸ run_ix2 x0 x1 x2 u
theorem len3 : ∀ {l : List Rn}, l.length = 3 → ∃ a b c, l = [a, b, c]
 | [a, b, c], _ => ⟨a, b, c, rfl⟩
def ChkP (fl : List QV) (sp : List Int) (n m : Nat) (w : World) (e : Ending) (w' : World) : Prop := ∃ (V : Value) (b : Nat), e = .returned (.tuple #[V, .int .i64 (b : Nat), .int .i64 (chkC fl sp n m)]) ∧ Keeps w w' ∧ (chkC fl sp n m ≠ 0 → V = .agg zr12.toArray ∧ b = 0) ∧
 (chkC fl sp n m = 0 → b = (bestK fl sp m).1 ∧ ∃ l : List Rn, l.length = 3 ∧ V = .agg (cellsQ l).toArray ∧ SumF l (fun k => totK fl sp k m) w')
theorem ChkP.bad {fl : List QV} {sp : List Int} {n m : Nat} {w w' : World} {z : Int} (h : chkC fl sp n m = z) (hz : z ≠ 0) (hk : Keeps w w') : ChkP fl sp n m w (.returned (.tuple #[.agg zr12.toArray, .int .i64 0, .int .i64 z])) w' :=
 ⟨_, 0, by rw [h]; rfl, hk, fun _ => ⟨rfl, rfl⟩, fun h0 => absurd (h.symm.trans h0) hz⟩
set_option maxRecDepth 100000 in
set_option maxHeartbeats 2000000 in
theorem checks_any {w : World} {As Af : Option Addr} {n m cs cf : Nat} {fl : List QV} {sp : List Int} (hf : Row4 RatV2 w Af fl) (hfl : fl.length = 3 * n) (hs : IRow w As sp) (hsl : sp.length = 3 * m) (hz : ∀ x ∈ fl, szR x.1 ≤ 100) (hn : n ≤ 400) (hm : m ≤ 400) (hm8 : m ≤ 8 ∨ 256 < m) :
 Calls Tryz.prog 11 #[.slice As m cs, .slice Af n cf] w (ChkP fl sp n m w) := by
 have HF := Lib.hid hf
 have HFL := Lib.hid hfl
 have HS := Lib.hid hs
 have HSL := Lib.hid hsl
 have HZ := Lib.hid hz
 have HM8 := Lib.hid hm8
 have hHC : chkC fl sp n m = if fl.any (fun x => !x.2) then 1 else if m ≠ n then 4 else if m = 0 then 6 else if 256 < m then 3 else if sp.any farB then 2 else 0 := rfl
 have HHC := Lib.hid hHC
 have hnI : (n : Int) ≤ 400 := by omega
 have hmI : (m : Int) ≤ 400 := by omega
 have S := ((St.start w).alloc 32 zr12).alloc 32 zr12
 simp only [World.size_alloc] at S
 obtain ⟨W0, hW0, S⟩ := S.pack
 clear hf hfl hs hsl hz hm8 hHC
 go_enter Tryz.func11, Tryz.ntmps11
 go_upto_region 2 with fail
 clear hW0
 go_wp2
 go_loopw [5, 21] (fun v i wr => ∃ k : Nat, k ≤ n ∧ i = .int .i64 (k : Nat) ∧ v = .int .i64 0 ∧ Hid ((fl.take (3 * k)).any (fun x => !x.2) = false) ∧ St w wr [(w.heap.size + 1, 32, zr12), (w.heap.size, 32, zr12)] []) (fun _ i _ => n - (intOf i).toNat)
 case atStart => exact ⟨0, Nat.zero_le _, rfl, rfl, Lib.hid rfl, S⟩
 case round =>
  clear S
  obtain ⟨k, hk, rfl, rfl, HA, S⟩ := hrel
  by_cases hlt : k < n
  ·obtain ⟨Bf, of, x, y, z, c0, c1, c2, c3, c4, c5, c6, c7, c8, c9, c10, c11, rfl, hx, hy, hz', hc, hX⟩ := get3 HF.out (i := k) (by rw [HFL.out]; omega)
   obtain ⟨u0, U0, k0, l0, v0, V0, m0, e0, rfl, rfl, rfl, rfl⟩ := (hX w bl).1.open4
   obtain ⟨u1, U1, k1, l1, v1, V1, m1, e1, rfl, rfl, rfl, rfl⟩ := (hX w bl).2.1.open4
   obtain ⟨u2, U2, k2, l2, v2, V2, m2, e2, rfl, rfl, rfl, rfl⟩ := (hX w bl).2.2.open4
   have HX := Lib.hid hX
   have HT3 := Lib.hid (take3 (p := fun x => !x.2) hx hy hz')
   have HAN : Hid ([x, y, z].any (fun x => !x.2) = true → fl.any (fun x => !x.2) = true) := Lib.hid fun h => by
    obtain ⟨q, hq, h2⟩ := List.any_eq_true.1 h
    refine List.any_eq_true.2 ⟨q, ?_, h2⟩
    simp only [List.mem_cons, List.not_mem_nil, or_false] at hq
    rcases hq with rfl | rfl | rfl
    ·exact List.mem_of_getElem? hx
    ·exact List.mem_of_getElem? hy
    ·exact List.mem_of_getElem? hz'
   obtain ⟨g0, g1, g2, g3, g4, g5, g6, g7, g8, g9, g10, g11⟩ := hc wr S.k
   have hkI : (k : Int) < (n : Int) := by omega
   have t1 : decide ((k : Int) < (n : Int)) = true := decide_eq_true hkI
   clear hx hy hz' hc hX
   go_upto_region 5 with fail
   replace S := S.alloc 32 [.bool u0, .slice U0 k0 l0, .bool v0, .slice V0 m0 e0, .bool u1, .slice U1 k1 l1, .bool v1, .slice V1 m1 e1, .bool u2, .slice U2 k2 l2, .bool v2, .slice V2 m2 e2]
   obtain ⟨W7, eW, S⟩ := S.pack
   rw [eW]
   clear eW g0 g1 g2 g3 g4 g5 g6 g7 g8 g9 g10 g11
   generalize wr.heap.size = P8 at *
   have HCF := Lib.hid (rk1_c (c := 3) (three_row (S.o 0 rfl) (HX.out _ S.k).1 (HX.out _ S.k).2.1 (HX.out _ S.k).2.2) rfl (by simp [maxLen]) (fun x => !x.2) (chk1_any W7))
   obtain ⟨bb, hbb⟩ : ∃ b, [x, y, z].any (fun x => !x.2) = b := ⟨_, rfl⟩
   rw [hbb] at HCF HT3 HAN
   clear hbb
   go_wp2_with fail
   refine HCF.out.mono ?_
   rintro e W8 ⟨rfl, hk8⟩
   replace S := (S.below hk8).dropb
   clear hk8 HCF
   cases bb with
   | true =>
    have HE1 : Hid (chkC fl sp n m = 1) := Lib.hid (by rw [HHC.out, HAN.out rfl]; rfl)
    have x0 := S.c 0 0 rfl rfl
    have x1 := S.c 0 1 rfl rfl
    have x2 := S.c 0 2 rfl rfl
    have x3 := S.c 0 3 rfl rfl
    have x4 := S.c 0 4 rfl rfl
    have x5 := S.c 0 5 rfl rfl
    have x6 := S.c 0 6 rfl rfl
    have x7 := S.c 0 7 rfl rfl
    have x8 := S.c 0 8 rfl rfl
    have x9 := S.c 0 9 rfl rfl
    have x10 := S.c 0 10 rfl rfl
    have x11 := S.c 0 11 rfl rfl
    have y0 := S.c 1 0 rfl rfl
    have y1 := S.c 1 1 rfl rfl
    have y2 := S.c 1 2 rfl rfl
    have y3 := S.c 1 3 rfl rfl
    have y4 := S.c 1 4 rfl rfl
    have y5 := S.c 1 5 rfl rfl
    have y6 := S.c 1 6 rfl rfl
    have y7 := S.c 1 7 rfl rfl
    have y8 := S.c 1 8 rfl rfl
    have y9 := S.c 1 9 rfl rfl
    have y10 := S.c 1 10 rfl rfl
    have y11 := S.c 1 11 rfl rfl
    have f0 := S.f 1 0 rfl
    have f1 := S.f 1 1 rfl
    have f2 := S.f 1 2 rfl
    have f3 := S.f 1 3 rfl
    have f4 := S.f 1 4 rfl
    have f5 := S.f 1 5 rfl
    have f6 := S.f 1 6 rfl
    have f7 := S.f 1 7 rfl
    have f8 := S.f 1 8 rfl
    have f9 := S.f 1 9 rfl
    have f10 := S.f 1 10 rfl
    have f11 := S.f 1 11 rfl
    go_wp2
    replace S := S.put12 1 rfl rfl rfl (.bool false) (.slice none 0 0) (.bool false) (.slice none 0 0) (.bool false) (.slice none 0 0) (.bool false) (.slice none 0 0) (.bool false) (.slice none 0 0) (.bool false) (.slice none 0 0) rfl
    obtain ⟨W99, eW, S⟩ := S.pack
    rw [eW]
    clear eW x0 x1 x2 x3 x4 x5 x6 x7 x8 x9 x10 x11 y0 y1 y2 y3 y4 y5 y6 y7 y8 y9 y10 y11 f0 f1 f2 f3 f4 f5 f6 f7 f8 f9 f10 f11
    refine bodyPost_ret (v := .tuple #[.agg zr12.toArray, .int .i64 0, .int .i64 1]) (by simp [results, Tryz.results11, go_sem, S.c 1 0 rfl rfl, S.c 1 1 rfl rfl, S.c 1 2 rfl rfl, S.c 1 3 rfl rfl, S.c 1 4 rfl rfl, S.c 1 5 rfl rfl, S.c 1 6 rfl rfl, S.c 1 7 rfl rfl, S.c 1 8 rfl rfl, S.c 1 9 rfl rfl, S.c 1 10 rfl rfl, S.c 1 11 rfl rfl]) rfl ?_
    exact ChkP.bad HE1.out (by decide) S.k
   | false =>
    have HA2 : Hid ((fl.take (3 * (k + 1))).any (fun x => !x.2) = false) := Lib.hid (by rw [HT3.out, HA.out]; rfl)
    go_wp2
    go_roundw
    case rel => exact ⟨k + 1, by omega, by go_num, rfl, HA2, S⟩
    case measure => simp [intOf]; omega
  ·have hkI : ¬ (k : Int) < (n : Int) := by omega
   have t1 : decide ((k : Int) < (n : Int)) = false := decide_eq_false hkI
   obtain rfl : k = n := by omega
   have hHC2 : chkC fl sp k m = if m ≠ k then 4 else if m = 0 then 6 else if 256 < m then 3 else if sp.any farB then 2 else 0 := by
    rw [HHC.out, if_neg]
    have := HA.out
    rw [List.take_of_length_le (by rw [HFL.out]; omega)] at this
    rw [this]
    decide
   clear HA HHC
   by_cases hmn : m = k
   ·subst hmn
    have t2 : ((m : Int) != (m : Int)) = false := by simp
    rw [if_neg (by simp)] at hHC2
    by_cases h0 : m = 0
    ·subst h0
     rw [if_pos rfl] at hHC2
     have HHC2 := Lib.hid hHC2
     clear hHC2
     have HE1 : Hid (chkC fl sp 0 0 = 6) := Lib.hid (by rw [HHC2.out])
     have x0 := S.c 0 0 rfl rfl
     have x1 := S.c 0 1 rfl rfl
     have x2 := S.c 0 2 rfl rfl
     have x3 := S.c 0 3 rfl rfl
     have x4 := S.c 0 4 rfl rfl
     have x5 := S.c 0 5 rfl rfl
     have x6 := S.c 0 6 rfl rfl
     have x7 := S.c 0 7 rfl rfl
     have x8 := S.c 0 8 rfl rfl
     have x9 := S.c 0 9 rfl rfl
     have x10 := S.c 0 10 rfl rfl
     have x11 := S.c 0 11 rfl rfl
     have y0 := S.c 1 0 rfl rfl
     have y1 := S.c 1 1 rfl rfl
     have y2 := S.c 1 2 rfl rfl
     have y3 := S.c 1 3 rfl rfl
     have y4 := S.c 1 4 rfl rfl
     have y5 := S.c 1 5 rfl rfl
     have y6 := S.c 1 6 rfl rfl
     have y7 := S.c 1 7 rfl rfl
     have y8 := S.c 1 8 rfl rfl
     have y9 := S.c 1 9 rfl rfl
     have y10 := S.c 1 10 rfl rfl
     have y11 := S.c 1 11 rfl rfl
     have f0 := S.f 1 0 rfl
     have f1 := S.f 1 1 rfl
     have f2 := S.f 1 2 rfl
     have f3 := S.f 1 3 rfl
     have f4 := S.f 1 4 rfl
     have f5 := S.f 1 5 rfl
     have f6 := S.f 1 6 rfl
     have f7 := S.f 1 7 rfl
     have f8 := S.f 1 8 rfl
     have f9 := S.f 1 9 rfl
     have f10 := S.f 1 10 rfl
     have f11 := S.f 1 11 rfl
     go_wp2
     replace S := S.put12 1 rfl rfl rfl (.bool false) (.slice none 0 0) (.bool false) (.slice none 0 0) (.bool false) (.slice none 0 0) (.bool false) (.slice none 0 0) (.bool false) (.slice none 0 0) (.bool false) (.slice none 0 0) rfl
     obtain ⟨W99, eW, S⟩ := S.pack
     rw [eW]
     clear eW x0 x1 x2 x3 x4 x5 x6 x7 x8 x9 x10 x11 y0 y1 y2 y3 y4 y5 y6 y7 y8 y9 y10 y11 f0 f1 f2 f3 f4 f5 f6 f7 f8 f9 f10 f11
     refine bodyPost_ret (v := .tuple #[.agg zr12.toArray, .int .i64 0, .int .i64 6]) (by simp [results, Tryz.results11, go_sem, S.c 1 0 rfl rfl, S.c 1 1 rfl rfl, S.c 1 2 rfl rfl, S.c 1 3 rfl rfl, S.c 1 4 rfl rfl, S.c 1 5 rfl rfl, S.c 1 6 rfl rfl, S.c 1 7 rfl rfl, S.c 1 8 rfl rfl, S.c 1 9 rfl rfl, S.c 1 10 rfl rfl, S.c 1 11 rfl rfl]) rfl ?_
     exact ChkP.bad HE1.out (by decide) S.k
    ·have t3 : ((m : Int) == 0) = false := by simp; omega
     rw [if_neg h0] at hHC2
     by_cases h256 : 256 < m
     ·have t4 : decide ((256 : Int) < (m : Int)) = true := decide_eq_true (by omega)
      rw [if_pos h256] at hHC2
      have HHC2 := Lib.hid hHC2
      clear hHC2
      have HE1 : Hid (chkC fl sp m m = 3) := Lib.hid (by rw [HHC2.out])
      have x0 := S.c 0 0 rfl rfl
      have x1 := S.c 0 1 rfl rfl
      have x2 := S.c 0 2 rfl rfl
      have x3 := S.c 0 3 rfl rfl
      have x4 := S.c 0 4 rfl rfl
      have x5 := S.c 0 5 rfl rfl
      have x6 := S.c 0 6 rfl rfl
      have x7 := S.c 0 7 rfl rfl
      have x8 := S.c 0 8 rfl rfl
      have x9 := S.c 0 9 rfl rfl
      have x10 := S.c 0 10 rfl rfl
      have x11 := S.c 0 11 rfl rfl
      have y0 := S.c 1 0 rfl rfl
      have y1 := S.c 1 1 rfl rfl
      have y2 := S.c 1 2 rfl rfl
      have y3 := S.c 1 3 rfl rfl
      have y4 := S.c 1 4 rfl rfl
      have y5 := S.c 1 5 rfl rfl
      have y6 := S.c 1 6 rfl rfl
      have y7 := S.c 1 7 rfl rfl
      have y8 := S.c 1 8 rfl rfl
      have y9 := S.c 1 9 rfl rfl
      have y10 := S.c 1 10 rfl rfl
      have y11 := S.c 1 11 rfl rfl
      have f0 := S.f 1 0 rfl
      have f1 := S.f 1 1 rfl
      have f2 := S.f 1 2 rfl
      have f3 := S.f 1 3 rfl
      have f4 := S.f 1 4 rfl
      have f5 := S.f 1 5 rfl
      have f6 := S.f 1 6 rfl
      have f7 := S.f 1 7 rfl
      have f8 := S.f 1 8 rfl
      have f9 := S.f 1 9 rfl
      have f10 := S.f 1 10 rfl
      have f11 := S.f 1 11 rfl
      go_wp2
      replace S := S.put12 1 rfl rfl rfl (.bool false) (.slice none 0 0) (.bool false) (.slice none 0 0) (.bool false) (.slice none 0 0) (.bool false) (.slice none 0 0) (.bool false) (.slice none 0 0) (.bool false) (.slice none 0 0) rfl
      obtain ⟨W99, eW, S⟩ := S.pack
      rw [eW]
      clear eW x0 x1 x2 x3 x4 x5 x6 x7 x8 x9 x10 x11 y0 y1 y2 y3 y4 y5 y6 y7 y8 y9 y10 y11 f0 f1 f2 f3 f4 f5 f6 f7 f8 f9 f10 f11
      refine bodyPost_ret (v := .tuple #[.agg zr12.toArray, .int .i64 0, .int .i64 3]) (by simp [results, Tryz.results11, go_sem, S.c 1 0 rfl rfl, S.c 1 1 rfl rfl, S.c 1 2 rfl rfl, S.c 1 3 rfl rfl, S.c 1 4 rfl rfl, S.c 1 5 rfl rfl, S.c 1 6 rfl rfl, S.c 1 7 rfl rfl, S.c 1 8 rfl rfl, S.c 1 9 rfl rfl, S.c 1 10 rfl rfl, S.c 1 11 rfl rfl]) rfl ?_
      exact ChkP.bad HE1.out (by decide) S.k
     ·have t4 : decide ((256 : Int) < (m : Int)) = false := decide_eq_false (by omega)
      rw [if_neg h256] at hHC2
      have HHC2 := Lib.hid hHC2
      have hm8 : m ≤ 8 := by have := HM8.out; omega
      clear hHC2
      go_wp2_with fail
      refine (whole_num 0 (by omega) (by omega)).mono ?_
      rintro e W1 ⟨U1, rfl, hp, hk1⟩
      obtain ⟨bz, Az, nz, cz, dz, Bz, mz, ez, rfl⟩ := hp.open_
      replace S := (S.below hk1).addQ hp
      clear hk1 hp
      go_upto_region 15 with fail
      replace S := S.alloc 31 [.bool bz, .slice Az nz cz, .bool dz, .slice Bz mz ez]
      obtain ⟨W2, eW, S⟩ := S.pack
      rw [eW]
      clear eW
      generalize W1.heap.size = P10 at *
      obtain ⟨g0, g1, g2, g3⟩ := S.cc4 0 rfl
      have y0 := S.c 2 0 rfl rfl
      have y1 := S.c 2 1 rfl rfl
      have y2 := S.c 2 2 rfl rfl
      have y3 := S.c 2 3 rfl rfl
      have y4 := S.c 2 4 rfl rfl
      have y5 := S.c 2 5 rfl rfl
      have y6 := S.c 2 6 rfl rfl
      have y7 := S.c 2 7 rfl rfl
      have y8 := S.c 2 8 rfl rfl
      have y9 := S.c 2 9 rfl rfl
      have y10 := S.c 2 10 rfl rfl
      have y11 := S.c 2 11 rfl rfl
      have f0 := S.f 2 0 rfl
      have f1 := S.f 2 1 rfl
      have f2 := S.f 2 2 rfl
      have f3 := S.f 2 3 rfl
      have f4 := S.f 2 4 rfl
      have f5 := S.f 2 5 rfl
      have f6 := S.f 2 6 rfl
      have f7 := S.f 2 7 rfl
      have f8 := S.f 2 8 rfl
      have f9 := S.f 2 9 rfl
      have f10 := S.f 2 10 rfl
      have f11 := S.f 2 11 rfl
      go_upto_region 16 with fail
      replace S := S.put12 2 rfl rfl rfl (.bool bz) (.slice Az nz cz) (.bool dz) (.slice Bz mz ez) (.bool bz) (.slice Az nz cz) (.bool dz) (.slice Bz mz ez) (.bool bz) (.slice Az nz cz) (.bool dz) (.slice Bz mz ez) rfl
      obtain ⟨W3, eW, S⟩ := S.pack
      rw [eW]
      clear eW g0 g1 g2 g3 y0 y1 y2 y3 y4 y5 y6 y7 y8 y9 y10 y11 f0 f1 f2 f3 f4 f5 f6 f7 f8 f9 f10 f11
      go_wp2_with fail
      refine (whole_num (-1) (by omega) (by omega)).mono ?_
      rintro e W4 ⟨U4, rfl, hp, hk1⟩
      obtain ⟨bh, Ah, nh, ch, dh, Bh, mh, eh, rfl⟩ := hp.open_
      replace S := (S.below hk1).addQ hp
      clear hk1 hp
      go_upto_region 17 with fail
      replace S := S.alloc 31 [.bool bh, .slice Ah nh ch, .bool dh, .slice Bh mh eh]
      obtain ⟨W5, eW, S⟩ := S.pack
      rw [eW]
      clear eW
      generalize W4.heap.size = P11 at *
      go_wp2
      go_loopw [5, 54] (fun v i wr => ∃ (k : Nat) (L : List Rn) (r : Rn), k ≤ m ∧ i = .int .i64 (k : Nat) ∧ v = .int .i64 ((bestK fl sp k).1 : Nat) ∧ Hid (L.length = 3) ∧ Hid ((sp.take (3 * k)).any farB = false) ∧ Hid (∀ c, c < 3 → szR (totK fl sp c k) ≤ 1 + 205 * k) ∧ Hid (szR (bestK fl sp k).2 ≤ 700) ∧
       St w wr [(P11, 31, r.cs), (P10, 31, [.bool bz, .slice Az nz cz, .bool dz, .slice Bz mz ez]), (w.heap.size + 1, 32, zr12), (w.heap.size, 32, cellsQ L)] [fun w => RatRep w r.v (bestK fl sp k).2, SumF L (fun j => totK fl sp j k), fun w => RatRep w (.agg #[.bool bz, .slice Az nz cz, .bool dz, .slice Bz mz ez]) 0]) (fun _ i _ => m - (intOf i).toNat)
      case atStart =>
       have hz0 := S.qi 1 rfl
       have hg := S.qi 0 rfl
       refine ⟨0, [⟨bz, Az, nz, cz, dz, Bz, mz, ez⟩, ⟨bz, Az, nz, cz, dz, Bz, mz, ez⟩, ⟨bz, Az, nz, cz, dz, Bz, mz, ez⟩], ⟨bh, Ah, nh, ch, dh, Bh, mh, eh⟩, Nat.zero_le _, rfl, rfl, Lib.hid rfl, Lib.hid rfl, Lib.hid (fun c _ => szR_null), Lib.hid (show szR (-1 : Rat) ≤ 700 by decide +kernel), ((S.onlyL.addQ hz0).addF ?_).addQ hg⟩
       intro j hj
       have : j = 0 ∨ j = 1 ∨ j = 2 := by simp at hj; omega
       rcases this with rfl | rfl | rfl <;> exact hz0
      case round =>
       clear S
       obtain ⟨k, L, ⟨bg, Ag, ng, cg, dg, Bg, mg, eg⟩, hk, rfl, rfl, HL3, HFA, HZT, HZB, S⟩ := hrel
       by_cases hlt : k < m
       ·obtain ⟨Bs, os, rfl, e0⟩ := IRow.at (HS.out.below S.k) (j := 3 * k) (by rw [HSL.out]; omega)
        obtain ⟨B1, o1, q1, e1⟩ := IRow.at (HS.out.below S.k) (j := 3 * k + 1) (by rw [HSL.out]; omega)
        obtain ⟨B2, o2, q2, e2⟩ := IRow.at (HS.out.below S.k) (j := 3 * k + 2) (by rw [HSL.out]; omega)
        cases q1
        cases q2
        rw [show os + 3 * k = os + k * 3 by omega] at e0
        rw [show os + (3 * k + 1) = os + k * 3 + 1 by omega] at e1
        rw [show os + (3 * k + 2) = os + k * 3 + 2 by omega] at e2
        obtain ⟨x0, hx0⟩ : ∃ x, sp.getD (3 * k) 0 = x := ⟨_, rfl⟩
        obtain ⟨x1, hx1⟩ : ∃ x, sp.getD (3 * k + 1) 0 = x := ⟨_, rfl⟩
        obtain ⟨x2, hx2⟩ : ∃ x, sp.getD (3 * k + 2) 0 = x := ⟨_, rfl⟩
        rw [hx0] at e0
        rw [hx1] at e1
        rw [hx2] at e2
        have HXS : Hid (∀ j, j < 3 → [Value.int .i64 x0, .int .i64 x1, .int .i64 x2][j]? = some (.int .i64 (sp.getD (3 * k + j) 0))) := Lib.hid fun j hj => by
         have : j = 0 ∨ j = 1 ∨ j = 2 := by omega
         rcases this with rfl | rfl | rfl
         ·rw [Nat.add_zero, hx0]; rfl
         ·rw [hx1]; rfl
         ·rw [hx2]; rfl
        clear hx0 hx1 hx2
        have hkI : (k : Int) < (m : Int) := by omega
        have t5 : decide ((k : Int) < (m : Int)) = true := decide_eq_true hkI
        go_upto_region 20 with fail
        replace S := S.alloc 25 [.int .i64 x0, .int .i64 x1, .int .i64 x2]
        obtain ⟨W6, eW, S⟩ := S.pack
        rw [eW]
        clear eW e0 e1 e2
        generalize wr.heap.size = P13 at *
        obtain ⟨g0, g1, g2, g3⟩ := S.cc4 2 rfl
        go_upto_region 21 with fail
        replace S := S.alloc 31 [.bool bz, .slice Az nz cz, .bool dz, .slice Bz mz ez]
        obtain ⟨W7, eW, S⟩ := S.pack
        rw [eW]
        clear eW g0 g1 g2 g3
        generalize W6.heap.size = P14 at *
        have g0 := S.c 1 0 rfl rfl
        have g1 := S.c 1 1 rfl rfl
        have g2 := S.c 1 2 rfl rfl
        go_wp2
        clear g0 g1 g2
        have HB : Hid (bestK fl sp (k + 1) = if (bestK fl sp k).2 < allK fl sp k 3 then (k, allK fl sp k 3) else bestK fl sp k) := Lib.hid rfl
        go_loopw [5, 67] (fun b v wr => ∃ (j : Nat) (L : List Rn) (r : Rn), j ≤ 3 ∧ v = .int .i64 (j : Nat) ∧ b = .int .i64 ((bestK fl sp k).1 : Nat) ∧ Hid (L.length = 3) ∧ Hid ((sp.take (3 * k + j)).any farB = false) ∧ Hid (szR (allK fl sp k j) ≤ 1 + 205 * j) ∧ Hid (∀ c, c < j → szR (totK fl sp c (k + 1)) ≤ 1 + 205 * (k + 1)) ∧
         St w wr [(P14, 31, r.cs), (P13, 25, [.int .i64 x0, .int .i64 x1, .int .i64 x2]), (P11, 31, [.bool bg, .slice Ag ng cg, .bool dg, .slice Bg mg eg]), (P10, 31, [.bool bz, .slice Az nz cz, .bool dz, .slice Bz mz ez]), (w.heap.size + 1, 32, zr12), (w.heap.size, 32, cellsQ L)]
          [fun w => RatRep w r.v (allK fl sp k j), SumF L (fun i => if i < j then totK fl sp i (k + 1) else totK fl sp i k), fun w => RatRep w (.agg #[.bool bg, .slice Ag ng cg, .bool dg, .slice Bg mg eg]) (bestK fl sp k).2, fun w => RatRep w (.agg #[.bool bz, .slice Az nz cz, .bool dz, .slice Bz mz ez]) 0]) (fun _ v _ => 3 - (intOf v).toNat)
        case atStart =>
         have hg := S.qi 0 rfl
         have hs := S.fi 1 rfl
         have hz0 := S.qi 2 rfl
         exact ⟨0, L, ⟨bz, Az, nz, cz, dz, Bz, mz, ez⟩, Nat.zero_le _, rfl, rfl, HL3, HFA, Lib.hid szR_null, Lib.hid (fun c hc => absurd hc (by omega)), (((S.onlyL.addQ hz0).addQ hg).addF (hs.congr fun i _ => by simp)).addQ hz0⟩
        case round =>
         clear S HL3 HFA
         obtain ⟨j, L, ⟨ba, Aa, na, ca, da, Ba, ma, ea⟩, hj, rfl, rfl, HL3, HFA, HZA, HZN, S⟩ := hrel
         by_cases hj3 : j < 3
         ·have hjI : (j : Int) < 3 := by omega
          have t6 : decide ((j : Int) < 3) = true := decide_eq_true hjI
          have hxs := HXS.out j hj3
          obtain ⟨xk, hxk⟩ : ∃ x, sp.getD (3 * k + j) 0 = x := ⟨_, rfl⟩
          rw [hxk] at hxs
          have HXK := Lib.hid hxk
          clear hxk
          have hix := fun u => index3 x0 x1 x2 xk u hj3 hxs
          go_upto_region 24 with fail
          clear hix hxs
          have HSM : Hid (sp[3 * k + j]? = some xk) := Lib.hid (by
           have h1 := HXK.out
           have h2 : 3 * k + j < sp.length := by rw [HSL.out]; omega
           rw [List.getD, List.getElem?_eq_getElem h2] at h1
           rw [List.getElem?_eq_getElem h2]
           exact congrArg some h1)
          have hfb : farB xk = (decide (xk < -1048576) || decide (1048576 < xk)) := rfl
          obtain ⟨fb0, hf0⟩ : ∃ b, farB xk = b := ⟨_, rfl⟩
          have HF0 := Lib.hid hf0
          rw [hf0] at hfb
          have HFB := Lib.hid hfb
          clear hf0 hfb
          by_cases hlo : xk < -1048576
          ·have t7 : decide (xk < -1048576) = true := decide_eq_true hlo
           have HF1 : Hid (sp.any farB = true) := Lib.hid (List.any_eq_true.2 ⟨xk, List.mem_of_getElem? HSM.out, by rw [HF0.out, HFB.out, t7]; rfl⟩)
           clear hlo
           obtain ⟨r0, r1, r2, rfl⟩ := len3 HL3.out
           have HE1 : Hid (chkC fl sp m m = 2) := Lib.hid (by rw [HHC2.out, HF1.out]; rfl)
           have x0 := S.c 4 0 rfl rfl
           have x1 := S.c 4 1 rfl rfl
           have x2 := S.c 4 2 rfl rfl
           have x3 := S.c 4 3 rfl rfl
           have x4 := S.c 4 4 rfl rfl
           have x5 := S.c 4 5 rfl rfl
           have x6 := S.c 4 6 rfl rfl
           have x7 := S.c 4 7 rfl rfl
           have x8 := S.c 4 8 rfl rfl
           have x9 := S.c 4 9 rfl rfl
           have x10 := S.c 4 10 rfl rfl
           have x11 := S.c 4 11 rfl rfl
           have y0 := S.c 5 0 rfl rfl
           have y1 := S.c 5 1 rfl rfl
           have y2 := S.c 5 2 rfl rfl
           have y3 := S.c 5 3 rfl rfl
           have y4 := S.c 5 4 rfl rfl
           have y5 := S.c 5 5 rfl rfl
           have y6 := S.c 5 6 rfl rfl
           have y7 := S.c 5 7 rfl rfl
           have y8 := S.c 5 8 rfl rfl
           have y9 := S.c 5 9 rfl rfl
           have y10 := S.c 5 10 rfl rfl
           have y11 := S.c 5 11 rfl rfl
           have f0 := S.f 5 0 rfl
           have f1 := S.f 5 1 rfl
           have f2 := S.f 5 2 rfl
           have f3 := S.f 5 3 rfl
           have f4 := S.f 5 4 rfl
           have f5 := S.f 5 5 rfl
           have f6 := S.f 5 6 rfl
           have f7 := S.f 5 7 rfl
           have f8 := S.f 5 8 rfl
           have f9 := S.f 5 9 rfl
           have f10 := S.f 5 10 rfl
           have f11 := S.f 5 11 rfl
           go_wp2
           replace S := S.put12 5 rfl rfl rfl (.bool false) (.slice none 0 0) (.bool false) (.slice none 0 0) (.bool false) (.slice none 0 0) (.bool false) (.slice none 0 0) (.bool false) (.slice none 0 0) (.bool false) (.slice none 0 0) rfl
           obtain ⟨W99, eW, S⟩ := S.pack
           rw [eW]
           clear eW x0 x1 x2 x3 x4 x5 x6 x7 x8 x9 x10 x11 y0 y1 y2 y3 y4 y5 y6 y7 y8 y9 y10 y11 f0 f1 f2 f3 f4 f5 f6 f7 f8 f9 f10 f11
           refine bodyPost_ret (v := .tuple #[.agg zr12.toArray, .int .i64 0, .int .i64 2]) (by simp [results, Tryz.results11, go_sem, S.c 5 0 rfl rfl, S.c 5 1 rfl rfl, S.c 5 2 rfl rfl, S.c 5 3 rfl rfl, S.c 5 4 rfl rfl, S.c 5 5 rfl rfl, S.c 5 6 rfl rfl, S.c 5 7 rfl rfl, S.c 5 8 rfl rfl, S.c 5 9 rfl rfl, S.c 5 10 rfl rfl, S.c 5 11 rfl rfl]) rfl ?_
           exact ChkP.bad HE1.out (by decide) S.k
          ·have t7 : decide (xk < -1048576) = false := decide_eq_false hlo
           by_cases hhi : 1048576 < xk
           ·have t8 : decide (1048576 < xk) = true := decide_eq_true hhi
            have HF1 : Hid (sp.any farB = true) := Lib.hid (List.any_eq_true.2 ⟨xk, List.mem_of_getElem? HSM.out, by rw [HF0.out, HFB.out, t7, t8]; rfl⟩)
            clear hhi hlo
            obtain ⟨r0, r1, r2, rfl⟩ := len3 HL3.out
            have HE1 : Hid (chkC fl sp m m = 2) := Lib.hid (by rw [HHC2.out, HF1.out]; rfl)
            have x0 := S.c 4 0 rfl rfl
            have x1 := S.c 4 1 rfl rfl
            have x2 := S.c 4 2 rfl rfl
            have x3 := S.c 4 3 rfl rfl
            have x4 := S.c 4 4 rfl rfl
            have x5 := S.c 4 5 rfl rfl
            have x6 := S.c 4 6 rfl rfl
            have x7 := S.c 4 7 rfl rfl
            have x8 := S.c 4 8 rfl rfl
            have x9 := S.c 4 9 rfl rfl
            have x10 := S.c 4 10 rfl rfl
            have x11 := S.c 4 11 rfl rfl
            have y0 := S.c 5 0 rfl rfl
            have y1 := S.c 5 1 rfl rfl
            have y2 := S.c 5 2 rfl rfl
            have y3 := S.c 5 3 rfl rfl
            have y4 := S.c 5 4 rfl rfl
            have y5 := S.c 5 5 rfl rfl
            have y6 := S.c 5 6 rfl rfl
            have y7 := S.c 5 7 rfl rfl
            have y8 := S.c 5 8 rfl rfl
            have y9 := S.c 5 9 rfl rfl
            have y10 := S.c 5 10 rfl rfl
            have y11 := S.c 5 11 rfl rfl
            have f0 := S.f 5 0 rfl
            have f1 := S.f 5 1 rfl
            have f2 := S.f 5 2 rfl
            have f3 := S.f 5 3 rfl
            have f4 := S.f 5 4 rfl
            have f5 := S.f 5 5 rfl
            have f6 := S.f 5 6 rfl
            have f7 := S.f 5 7 rfl
            have f8 := S.f 5 8 rfl
            have f9 := S.f 5 9 rfl
            have f10 := S.f 5 10 rfl
            have f11 := S.f 5 11 rfl
            go_wp2
            replace S := S.put12 5 rfl rfl rfl (.bool false) (.slice none 0 0) (.bool false) (.slice none 0 0) (.bool false) (.slice none 0 0) (.bool false) (.slice none 0 0) (.bool false) (.slice none 0 0) (.bool false) (.slice none 0 0) rfl
            obtain ⟨W99, eW, S⟩ := S.pack
            rw [eW]
            clear eW x0 x1 x2 x3 x4 x5 x6 x7 x8 x9 x10 x11 y0 y1 y2 y3 y4 y5 y6 y7 y8 y9 y10 y11 f0 f1 f2 f3 f4 f5 f6 f7 f8 f9 f10 f11
            refine bodyPost_ret (v := .tuple #[.agg zr12.toArray, .int .i64 0, .int .i64 2]) (by simp [results, Tryz.results11, go_sem, S.c 5 0 rfl rfl, S.c 5 1 rfl rfl, S.c 5 2 rfl rfl, S.c 5 3 rfl rfl, S.c 5 4 rfl rfl, S.c 5 5 rfl rfl, S.c 5 6 rfl rfl, S.c 5 7 rfl rfl, S.c 5 8 rfl rfl, S.c 5 9 rfl rfl, S.c 5 10 rfl rfl, S.c 5 11 rfl rfl]) rfl ?_
            exact ChkP.bad HE1.out (by decide) S.k
           ·have t8 : decide (1048576 < xk) = false := decide_eq_false hhi
            have HFA2 : Hid ((sp.take (3 * k + (j + 1))).any farB = false) := Lib.hid (by rw [← Nat.add_assoc, List.take_add_one, List.any_append, HFA.out, HSM.out]; simp [HF0.out, HFB.out, t7, t8])
            obtain ⟨⟨qf, vf⟩, hqf⟩ : ∃ x, fl[3 * k + j]? = some x := ⟨_, List.getElem?_eq_getElem (by rw [HFL.out]; omega)⟩
            obtain ⟨Bf, of, d0, d1, d2, d3, rfl, hcf, hxf⟩ := HF.out.get lasts_v hqf
            obtain ⟨fb, fA, fn, fc, fd, fB, fm, fe, rfl, rfl, rfl, rfl⟩ := (hxf w bl).open4
            have HCF : Hid (∀ u, Keeps w u → u.cell? ⟨Bf, of + k * 12 + j * 4, none⟩ = some (.bool fb) ∧ u.cell? ⟨Bf, of + k * 12 + j * 4 + 1, none⟩ = some (.slice fA fn fc) ∧ u.cell? ⟨Bf, of + k * 12 + j * 4 + 2, none⟩ = some (.bool fd) ∧ u.cell? ⟨Bf, of + k * 12 + j * 4 + 3, none⟩ = some (.slice fB fm fe)) := Lib.hid fun u hk => by
             have h := hcf u hk
             rwa [show of + (3 * k + j) * 4 = of + k * 12 + j * 4 by omega] at h
            have hfq : fq fl (3 * k + j) = qf := by unfold fq; rw [List.getD, hqf]; rfl
            have zf := HZ.out _ (List.mem_of_getElem? hqf)
            simp only at zf
            have zx := szR_small' (x := xk) (by omega) (by omega)
            have hsq : sqK fl sp k j = (qf - (xk : Rat)) * (qf - (xk : Rat)) := by unfold sqK dK; rw [hfq, HXK.out]
            have HSQ := Lib.hid hsq
            obtain ⟨⟨rb, rA, rn, rc, rd', rB, rm, re⟩, hre⟩ : ∃ r, L.getD j rz0 = r := ⟨_, rfl⟩
            have hqt := S.fi 1 rfl j (by rw [HL3.out]; exact hj3)
            simp only [Nat.lt_irrefl, if_false] at hqt
            rw [hre] at hqt
            have HKL : Hid (j < L.length) := Lib.hid (by rw [HL3.out]; exact hj3)
            have HRE := Lib.hid hre
            have hqa := S.qi 0 rfl
            have zt := HZT.out j hj3
            have za := HZA.out
            obtain ⟨qt, hqt2⟩ : ∃ q, totK fl sp j k = q := ⟨_, rfl⟩
            obtain ⟨qa, hqa2⟩ : ∃ q, allK fl sp k j = q := ⟨_, rfl⟩
            have HQT := Lib.hid hqt2
            have HQA := Lib.hid hqa2
            rw [hqt2] at hqt zt
            rw [hqa2] at hqa za
            replace S := ((S.addR (RatV.num (hxf wr S.k))).addQ hqt).addQ hqa
            clear hqf hcf hxf hfq hsq hre hqt2 hqa2 hqt hqa
            have y0 := szR_sub qf (((xk : Int) : Rat))
            have y1 := szR_mul (qf - (((xk : Int) : Rat))) (qf - (((xk : Int) : Rat)))
            have y2 := szR_add qt ((qf - (((xk : Int) : Rat))) * (qf - (((xk : Int) : Rat))))
            go_upto_region 26 with fail
            refine wp_region_steps (m := 12) rfl (by kernel_rfl) (fun iF vF wF => (List.getD [ve (.slice (some ⟨Bf, of, none⟩) m cf), ve (.int .i64 (k : Int)), ve (.int .i64 (j : Int)), ve (.pointer (some ⟨Bf, of + k * 12, none⟩)), ve (.pointer (some ⟨Bf, of + k * 12 + j * 4, none⟩)), ve (.agg #[.bool fb, .slice fA fn fc, .bool fd, .slice fB fm fe]), ve (.int .i64 xk), fun vF wF => IntRep wF vF (xk), fun vF wF => IntRep wF vF (1), fun vF wF => RatRep wF vF (((xk : Int) : Rat)), fun vF wF => RatRep wF vF (qf - (((xk : Int) : Rat))), fun vF wF => ∃ b, vF = .pointer (some ⟨b, 0, none⟩) ∧ wr.heap.size ≤ b ∧ Own wF b 31 [.bool false, .slice none 0 0, .bool false, .slice none 0 0]] iF (fun _ _ => True)) vF wF) [11] ?_ ?_ ?_
            ·intro i v w w' _ h hk
             refine stabL_get ?_ i v w w' h hk
             exact stab_cons st_e (stab_cons st_e (stab_cons st_e (stab_cons st_e (stab_cons st_e (stab_cons st_e (stab_cons st_e (stab_cons st_i (stab_cons st_i (stab_cons st_q (stab_cons st_q (stab_cons st_a stab_nil)))))))))))
            ·intro i hi vs w3 hk3 hd
             have S3 := S.drew.below hk3
             obtain ⟨g0, g1, g2, g3⟩ := HCF.out _ S3.k
             match i, hi with
             | 0, _ =>
              refine sv0 [] (ve (.slice (some ⟨Bf, of, none⟩) m cf)) rfl fun K hK => ?_; clear hd; simp only [frD] at hK ⊢; go_simp
              exact hK _ _ bl rfl
             | 1, _ =>
              refine sv0 [] (ve (.int .i64 (k : Int))) rfl fun K hK => ?_; clear hd; simp only [frD] at hK ⊢; go_simp
              exact hK _ _ bl rfl
             | 2, _ =>
              refine sv0 [] (ve (.int .i64 (j : Int))) rfl fun K hK => ?_; clear hd; simp only [frD] at hK ⊢; go_simp
              exact hK _ _ bl rfl
             | 3, _ =>
              have qe0 : (vs 0) = .slice (some ⟨Bf, of, none⟩) m cf := hdk hd 0; have qe1 : (vs 1) = .int .i64 (k : Int) := hdk hd 1
              refine sv0 [(0, some 78), (1, some 79)] (ve (.pointer (some ⟨Bf, of + k * 12, none⟩))) rfl fun K hK => ?_; clear hd; simp only [frD, qe0, qe1] at hK ⊢; go_simp
              exact hK _ _ bl rfl
             | 4, _ =>
              have qe2 : (vs 2) = .int .i64 (j : Int) := hdk hd 2; have qe3 : (vs 3) = .pointer (some ⟨Bf, of + k * 12, none⟩) := hdk hd 3
              refine sv0 [(2, some 80), (3, some 81)] (ve (.pointer (some ⟨Bf, of + k * 12 + j * 4, none⟩))) rfl fun K hK => ?_; clear hd; simp only [frD, qe2, qe3] at hK ⊢; go_simp
              exact hK _ _ bl rfl
             | 5, _ =>
              have qe4 : (vs 4) = .pointer (some ⟨Bf, of + k * 12 + j * 4, none⟩) := hdk hd 4
              refine sv0 [(4, some 82)] (ve (.agg #[.bool fb, .slice fA fn fc, .bool fd, .slice fB fm fe])) rfl fun K hK => ?_; clear hd; simp only [frD, qe4] at hK ⊢; go_simp
              exact hK _ _ bl rfl
             | 6, _ =>
              refine sv0 [] (ve (.int .i64 xk)) rfl fun K hK => ?_; clear hd; simp only [frD] at hK ⊢; go_simp
              exact hK _ _ bl rfl
             | 7, _ =>
              have qe6 : (vs 6) = .int .i64 xk := hdk hd 6
              refine sc (A := #[(vs 6)]) (B := #[.int .i64 xk]) [(6, some 84)] (fun vF wF => IntRep wF vF (xk)) rfl (wanted_none rfl) (by rw [qe6]) Tryz.func44 ?_
              refine ((of_num xk (by omega) (by omega))).mono ?_; rintro e w4 ⟨U, rfl, hr, hk4⟩; exact ⟨_, rfl, hk4, hr⟩
             | 8, _ =>
              have h7 : IntRep w3 (vs 7) (xk) := hdk hd 7
              refine sc (A := #[.int .i64 1]) (B := #[.int .i64 1]) [(7, some 85)] (fun vF wF => IntRep wF vF (1)) rfl (wanted_none rfl) rfl Tryz.func44 ?_
              refine ((of_num 1 (by omega) (by omega))).mono ?_; rintro e w4 ⟨U, rfl, hr, hk4⟩; exact ⟨_, rfl, hk4, hr⟩
             | 9, _ =>
              have h7 : IntRep w3 (vs 7) (xk) := hdk hd 7; have h8 : IntRep w3 (vs 8) (1) := hdk hd 8; obtain ⟨b9a, A9a, n9a, c9a, q9a⟩ := h7.open3; obtain ⟨b9b, A9b, n9b, c9b, q9b⟩ := h8.open3
              refine sv0 [(7, some 85), (8, some 86)] (fun vF wF => RatRep wF vF (((xk : Int) : Rat))) rfl fun K hK => ?_; clear hd; simp only [frD, q9a, q9b] at hK ⊢; go_simp
              rw [q9a] at h7
              rw [q9b] at h8
              exact hK _ _ bl (RatRep.whole h7 h8)
             | 10, _ =>
              have qe5 : (vs 5) = .agg #[.bool fb, .slice fA fn fc, .bool fd, .slice fB fm fe] := hdk hd 5; have h8 : IntRep w3 (vs 8) (1) := hdk hd 8; have h9 : RatRep w3 (vs 9) (((xk : Int) : Rat)) := hdk hd 9
              refine sc (A := #[(vs 5), (vs 9)]) (B := #[.agg #[.bool fb, .slice fA fn fc, .bool fd, .slice fB fm fe], (vs 9)]) [(5, some 83), (8, some 86), (9, some 87)] (fun vF wF => RatRep wF vF (qf - (((xk : Int) : Rat)))) rfl (wanted_none rfl) (by rw [qe5]) Tryz.func43 ?_
              refine ((fsub_num (S3.ri 2 rfl) (h9.num (by omega)))).mono ?_; rintro e w4 ⟨U, rfl, hr, hk4⟩; exact ⟨_, rfl, hk4, hr⟩
             | 11, _ =>
              refine step_yes [] rfl (by kernel_rfl) fun K hK => ?_; simp only [frD] at hK ⊢; refine ⟨by rfl, ?_⟩; go_simp
              exact hK _ _ ⟨bl.alloc (Nat.le_refl _) _, ⟨_, rfl, hk3.size, Own.new w3 _ _⟩, fun _ => ⟨rfl, by simp⟩⟩
             | i + 12, hi => exact absurd hi (by omega)
            ·intro vs W41 hk3 hΦ _
             simp only [List.drop_succ_cons, List.drop_zero]
             rw [fr_frD, show (List.range 12).map _ = [(0, some 78), (1, some 79), (2, some 80), (3, some 81), (4, some 82), (5, some 83), (6, some 84), (7, some 85), (8, some 86), (9, some 87), (10, some 88), (11, some 17)] by kernel_rfl]
             have pe0 : (vs 0) = .slice (some ⟨Bf, of, none⟩) m cf := hΦ 0 (by decide)
             have pe1 : (vs 1) = .int .i64 (k : Int) := hΦ 1 (by decide)
             have pe2 : (vs 2) = .int .i64 (j : Int) := hΦ 2 (by decide)
             have pe3 : (vs 3) = .pointer (some ⟨Bf, of + k * 12, none⟩) := hΦ 3 (by decide)
             have pe4 : (vs 4) = .pointer (some ⟨Bf, of + k * 12 + j * 4, none⟩) := hΦ 4 (by decide)
             have pe5 : (vs 5) = .agg #[.bool fb, .slice fA fn fc, .bool fd, .slice fB fm fe] := hΦ 5 (by decide)
             have pe6 : (vs 6) = .int .i64 xk := hΦ 6 (by decide)
             have pe7 : IntRep W41 (vs 7) (xk) := hΦ 7 (by decide)
             have pe8 : IntRep W41 (vs 8) (1) := hΦ 8 (by decide)
             have pe9 : RatRep W41 (vs 9) (((xk : Int) : Rat)) := hΦ 9 (by decide)
             have pe10 : RatRep W41 (vs 10) (qf - (((xk : Int) : Rat))) := hΦ 10 (by decide)
             have pe11 : ∃ b, (vs 11) = .pointer (some ⟨b, 0, none⟩) ∧ wr.heap.size ≤ b ∧ Own W41 b 31 [.bool false, .slice none 0 0, .bool false, .slice none 0 0] := hΦ 11 (by decide)
             clear hΦ
             obtain ⟨bpe11, qA11, hlA11, hOA11⟩ := pe11
             simp only [frD, pe0, pe1, pe2, pe3, pe4, pe5, pe6, qA11]
             simp only [Act.put, List.setIfInBounds_toArray, List.set_cons_zero, List.set_cons_succ]
             clear pe0 pe1 pe2 pe3 pe4 pe5 pe6
             generalize vs 7 = Upe7 at pe7 ⊢
             generalize vs 8 = Upe8 at pe8 ⊢
             generalize vs 9 = Upe9 at pe9 ⊢
             generalize vs 10 = Upe10 at pe10 ⊢
             replace S := S.drew.box (S.drew.below hk3) hOA11 hlA11
             clear qA11 hlA11 hOA11
             clear pe7
             clear pe8
             clear pe9
             obtain ⟨b43, A43, n43, c43, d43, B43, m43, e43, rfl⟩ := pe10.open_
             replace S := S.addQ pe10
             clear pe10
             clear hk3
             have r6_0 := S.c 0 0 rfl rfl
             have f6_0 := S.f 0 0 rfl
             have r6_1 := S.c 0 1 rfl rfl
             have f6_1 := S.f 0 1 rfl
             have r6_2 := S.c 0 2 rfl rfl
             have f6_2 := S.f 0 2 rfl
             have r6_3 := S.c 0 3 rfl rfl
             have f6_3 := S.f 0 3 rfl
             go_upto_region 27 with fail
             replace S := (S.put4 0 rfl rfl rfl (x' := .bool b43) (y' := .slice A43 n43 c43) (z' := .bool d43) (u' := .slice B43 m43 e43))
             obtain ⟨W42, eW, S⟩ := S.pack
             rw [eW]
             clear eW
             clear r6_0 f6_0 r6_1 f6_1 r6_2 f6_2 r6_3 f6_3
             obtain ⟨r6_0, r6_1, r6_2, r6_3⟩ := S.cc4 0 rfl
             go_wp2_with fail
             refine ((fmul_num ((S.qi 0 rfl).num (by omega)) ((S.qi 0 rfl).num (by omega)))).mono ?_
             rintro e W43 ⟨U43, rfl, hp, hk⟩
             obtain ⟨b44, A44, n44, c44, d44, B44, m44, e44, rfl⟩ := hp.open_
             replace S := (S.below hk).addQ hp
             clear hk hp
             clear r6_0 r6_1 r6_2 r6_3
             go_upto_region 28 with fail
             replace S := (S.alloc 31 [.bool b44, .slice A44 n44 c44, .bool d44, .slice B44 m44 e44])
             obtain ⟨W44, eW, S⟩ := S.pack
             rw [eW]
             clear eW
             generalize W43.heap.size = P41 at *
             refine wp_region_steps (m := 6) rfl (by kernel_rfl) (fun iF vF wF => (List.getD [ve (.int .i64 (j : Int)), ve (.int .i64 (j : Int)), ve (.pointer (some ⟨w.heap.size, j * 4, none⟩)), ve (.agg #[.bool rb, .slice rA rn rc, .bool rd', .slice rB rm re]), ve (.agg #[.bool b44, .slice A44 n44 c44, .bool d44, .slice B44 m44 e44]), fun vF wF => RatRep wF vF (qt + ((qf - (((xk : Int) : Rat))) * (qf - (((xk : Int) : Rat)))))] iF (fun _ _ => True)) vF wF) [] ?_ ?_ ?_
             ·intro i v w w' _ h hk
              refine stabL_get ?_ i v w w' h hk
              exact stab_cons st_e (stab_cons st_e (stab_cons st_e (stab_cons st_e (stab_cons st_e (stab_cons st_q stab_nil)))))
             ·intro i hi vs w3 hk3 hd
              have S3 := S.drew.below hk3
              obtain ⟨g0, g1, g2, g3⟩ := S3.cR 7 j rfl HKL.out
              rw [HRE.out] at g0 g1 g2 g3
              obtain ⟨a0, a1, a2, a3⟩ := S3.cc4 0 rfl
              match i, hi with
              | 0, _ =>
               refine sv0 [] (ve (.int .i64 (j : Int))) rfl fun K hK => ?_; clear hd; simp only [frD] at hK ⊢; go_simp
               exact hK _ _ bl rfl
              | 1, _ =>
               refine sv0 [] (ve (.int .i64 (j : Int))) rfl fun K hK => ?_; clear hd; simp only [frD] at hK ⊢; go_simp
               exact hK _ _ bl rfl
              | 2, _ =>
               have qe1 : (vs 1) = .int .i64 (j : Int) := hdk hd 1
               refine sv0 [(1, some 93)] (ve (.pointer (some ⟨w.heap.size, j * 4, none⟩))) rfl fun K hK => ?_; clear hd; simp only [frD, qe1] at hK ⊢; go_simp
               exact hK _ _ bl rfl
              | 3, _ =>
               have qe2 : (vs 2) = .pointer (some ⟨w.heap.size, j * 4, none⟩) := hdk hd 2
               refine sv0 [(2, some 94)] (ve (.agg #[.bool rb, .slice rA rn rc, .bool rd', .slice rB rm re])) rfl fun K hK => ?_; clear hd; simp only [frD, qe2] at hK ⊢; go_simp
               exact hK _ _ bl rfl
              | 4, _ =>
               refine sv0 [] (ve (.agg #[.bool b44, .slice A44 n44 c44, .bool d44, .slice B44 m44 e44])) rfl fun K hK => ?_; clear hd; simp only [frD] at hK ⊢; go_simp
               exact hK _ _ bl rfl
              | 5, _ =>
               have qe3 : (vs 3) = .agg #[.bool rb, .slice rA rn rc, .bool rd', .slice rB rm re] := hdk hd 3; have qe4 : (vs 4) = .agg #[.bool b44, .slice A44 n44 c44, .bool d44, .slice B44 m44 e44] := hdk hd 4
               refine sc (A := #[(vs 3), (vs 4)]) (B := #[.agg #[.bool rb, .slice rA rn rc, .bool rd', .slice rB rm re], .agg #[.bool b44, .slice A44 n44 c44, .bool d44, .slice B44 m44 e44]]) [(3, some 95), (4, some 96)] (fun vF wF => RatRep wF vF (qt + ((qf - (((xk : Int) : Rat))) * (qf - (((xk : Int) : Rat)))))) rfl (wanted_none rfl) (by rw [qe3, qe4]) Tryz.func46 ?_
               refine ((fadd_num ((S3.qi 3 rfl).num (by omega)) ((S3.qi 0 rfl).num (by omega)))).mono ?_; rintro e w4 ⟨U, rfl, hr, hk4⟩; exact ⟨_, rfl, hk4, hr⟩
              | i + 6, hi => exact absurd hi (by omega)
             ·intro vs W45 hk3 hΦ _
              simp only [List.drop_succ_cons, List.drop_zero]
              rw [fr_frD, show (List.range 6).map _ = [(0, some 92), (1, some 93), (2, some 94), (3, some 95), (4, some 96), (5, some 97)] by kernel_rfl]
              have pf0 : (vs 0) = .int .i64 (j : Int) := hΦ 0 (by decide)
              have pf1 : (vs 1) = .int .i64 (j : Int) := hΦ 1 (by decide)
              have pf2 : (vs 2) = .pointer (some ⟨w.heap.size, j * 4, none⟩) := hΦ 2 (by decide)
              have pf3 : (vs 3) = .agg #[.bool rb, .slice rA rn rc, .bool rd', .slice rB rm re] := hΦ 3 (by decide)
              have pf4 : (vs 4) = .agg #[.bool b44, .slice A44 n44 c44, .bool d44, .slice B44 m44 e44] := hΦ 4 (by decide)
              have pf5 : RatRep W45 (vs 5) (qt + ((qf - (((xk : Int) : Rat))) * (qf - (((xk : Int) : Rat))))) := hΦ 5 (by decide)
              clear hΦ
              simp only [frD, pf0, pf1, pf2, pf3, pf4]
              simp only [Act.put, List.setIfInBounds_toArray, List.set_cons_zero, List.set_cons_succ]
              clear pf0 pf1 pf2 pf3 pf4
              generalize vs 5 = Upf5 at pf5 ⊢
              replace S := S.drew.below hk3
              obtain ⟨b45, A45, n45, c45, d45, B45, m45, e45, rfl⟩ := pf5.open_
              replace S := S.addQ pf5
              clear pf5
              clear hk3
              clear t7 t8
              have f0 := S.f 7 (j * 4) rfl
              have f1 := S.f 7 (j * 4 + 1) rfl
              have f2 := S.f 7 (j * 4 + 2) rfl
              have f3 := S.f 7 (j * 4 + 3) rfl
              obtain ⟨v0, v1, v2, v3⟩ := S.cR 7 j rfl HKL.out
              go_upto_region 29 with fail
              replace S := S.putR 7 j rfl HKL.out ⟨b45, A45, n45, c45, d45, B45, m45, e45⟩
              obtain ⟨W50, eW, S⟩ := S.pack
              rw [eW]
              clear eW f0 f1 f2 f3 v0 v1 v2 v3
              obtain ⟨r0, r1, r2, r3⟩ := S.cc4 2 rfl
              obtain ⟨u0, u1, u2, u3⟩ := S.cc4 0 rfl
              go_wp2_with fail
              refine (fadd_num ((S.qi 3 rfl).num (by omega)) ((S.qi 1 rfl).num (by omega))).mono ?_
              rintro e W51 ⟨U51, rfl, hp, hk1⟩
              obtain ⟨b46, A46, n46, c46, d46, B46, m46, e46, rfl⟩ := hp.open_
              replace S := (S.below hk1).addQ hp
              clear hk1 hp r0 r1 r2 r3 u0 u1 u2 u3
              obtain ⟨r0, r1, r2, r3⟩ := S.cc4 2 rfl
              obtain ⟨f0, f1, f2, f3⟩ := S.ff4 2 rfl
              go_wp2
              replace S := S.put4 2 rfl rfl rfl (x' := .bool b46) (y' := .slice A46 n46 c46) (z' := .bool d46) (u' := .slice B46 m46 e46)
              have hq := S.qi 0 rfl
              have hn := S.qi 1 rfl
              have hs := S.fi 8 rfl
              have hg := S.qi 9 rfl
              have hz0 := S.qi 10 rfl
              have hal : allK fl sp k (j + 1) = qa + (qf - (xk : Rat)) * (qf - (xk : Rat)) := by rw [← HSQ.out, ← HQA.out]; rfl
              have hto : totK fl sp j (k + 1) = qt + (qf - (xk : Rat)) * (qf - (xk : Rat)) := by rw [← HSQ.out, ← HQT.out]; rfl
              have y3 := szR_add qa ((qf - (xk : Rat)) * (qf - (xk : Rat)))
              have hza : Hid (szR (allK fl sp k (j + 1)) ≤ 1 + 205 * (j + 1)) := Lib.hid (by rw [hal]; omega)
              have hzn : Hid (∀ c, c < j + 1 → szR (totK fl sp c (k + 1)) ≤ 1 + 205 * (k + 1)) := Lib.hid fun c hc => by
               by_cases e : c = j
               ·subst e; rw [hto]; omega
               ·exact HZN.out c (by omega)
              have S2 := ((((S.onlyL.addQ hz0).addQ hg).addF ((hs.set (a := ⟨b45, A45, n45, c45, d45, B45, m45, e45⟩) hn).congr (g := fun i => if i < j + 1 then totK fl sp i (k + 1) else totK fl sp i k) fun i _ => by
               by_cases e : i = j
               ·subst e; rw [if_pos rfl, if_pos (by omega), hto]
               ·rw [if_neg e]
                by_cases e2 : i < j
                ·rw [if_pos e2, if_pos (by omega)]
                ·rw [if_neg e2, if_neg (by omega)])).addQ hq).dropb.dropb
              rw [← hal] at S2
              go_roundw
              case rel => exact ⟨j + 1, _, ⟨b46, A46, n46, c46, d46, B46, m46, e46⟩, by omega, by go_num, rfl, Lib.hid (by rw [List.length_set]; exact HL3.out), HFA2, hza, hzn, S2⟩
              case measure => simp [intOf]; omega
         ·have hjI : ¬ (j : Int) < 3 := by omega
          have t6 : decide ((j : Int) < 3) = false := decide_eq_false hjI
          obtain rfl : j = 3 := by omega
          obtain ⟨s1, hs1⟩ : ∃ s, cmpR (allK fl sp k 3) (bestK fl sp k).2 = s := ⟨_, rfl⟩
          have HS1 := Lib.hid hs1
          have za := HZA.out
          have zb := HZB.out
          obtain ⟨r0, r1, r2, r3⟩ := S.cc4 0 rfl
          obtain ⟨u0, u1, u2, u3⟩ := S.cc4 2 rfl
          clear hs1
          go_wp2_with fail
          refine (fcompare_s ((S.qi 0 rfl).num (by omega)) ((S.qi 2 rfl).num (by omega)) HS1.out).mono ?_
          rintro e W9 ⟨rfl, hk9⟩
          replace S := S.below hk9
          clear hk9 r0 r1 r2 r3 u0 u1 u2 u3
          have hq := S.qi 0 rfl
          have hs := (S.fi 1 rfl).congr (g := fun i => totK fl sp i (k + 1)) fun i hi => if_pos (by rw [HL3.out] at hi; exact hi)
          have hg := S.qi 2 rfl
          have hz0 := S.qi 3 rfl
          have HFA3 : Hid ((sp.take (3 * (k + 1))).any farB = false) := HFA
          by_cases hpos : 0 < s1
          ·have t7 : decide (0 < s1) = true := decide_eq_true hpos
           have hbe : bestK fl sp (k + 1) = (k, allK fl sp k 3) := by rw [HB.out, if_pos ((cmpR_pos _ _).1 (by rw [HS1.out]; exact hpos))]
           have S2 := (((S.onlyL.addQ hz0).addF hs).addQ hq).put4 2 rfl rfl rfl (x' := .bool ba) (y' := .slice Aa na ca) (z' := .bool da) (u' := .slice Ba ma ea)
           have HS2 := Lib.hid S2.dropb.dropb
           have HBE := Lib.hid hbe
           obtain ⟨r0, r1, r2, r3⟩ := S.cc4 0 rfl
           obtain ⟨u0, u1, u2, u3⟩ := S.cc4 2 rfl
           obtain ⟨f0, f1, f2, f3⟩ := S.ff4 2 rfl
           clear hq hs hg hz0 S2 hbe hpos
           go_wp2
           go_roundw
           case rel => exact ⟨k + 1, L, ⟨ba, Aa, na, ca, da, Ba, ma, ea⟩, by omega, by go_num, by rw [HBE.out], HL3, HFA3, HZN, Lib.hid (by rw [HBE.out]; show szR (allK fl sp k 3) ≤ 700; omega), by rw [HBE.out]; exact HS2.out⟩
           case measure => simp [intOf]; omega
          ·have t7 : decide (0 < s1) = false := decide_eq_false hpos
           have hbe : bestK fl sp (k + 1) = bestK fl sp k := by rw [HB.out, if_neg fun h => hpos (by have := (cmpR_pos _ _).2 h; rw [HS1.out] at this; exact this)]
           have HS2 := Lib.hid (((S.onlyL.addQ hz0).addF hs).addQ hg).dropb.dropb
           have HBE := Lib.hid hbe
           clear hq hs hg hz0 hbe hpos
           go_wp2
           go_roundw
           case rel => exact ⟨k + 1, L, ⟨bg, Ag, ng, cg, dg, Bg, mg, eg⟩, by omega, by go_num, by rw [HBE.out], HL3, HFA3, HZN, by rw [HBE.out]; exact HZB, by rw [HBE.out]; exact HS2.out⟩
           case measure => simp [intOf]; omega
       ·have hkI : ¬ (k : Int) < (m : Int) := by omega
        have t5 : decide ((k : Int) < (m : Int)) = false := decide_eq_false hkI
        obtain rfl : k = m := by omega
        have HC0 : Hid (chkC fl sp k k = 0) := Lib.hid (by
         have := HFA.out
         rw [List.take_of_length_le (by rw [HSL.out]; exact Nat.le_refl _)] at this
         rw [HHC2.out, this]
         rfl)
        obtain ⟨r0, r1, r2, rfl⟩ := len3 HL3.out
        have HSF := Lib.hid (S.fi 1 rfl)
        have x0 := S.c 3 0 rfl rfl
        have x1 := S.c 3 1 rfl rfl
        have x2 := S.c 3 2 rfl rfl
        have x3 := S.c 3 3 rfl rfl
        have x4 := S.c 3 4 rfl rfl
        have x5 := S.c 3 5 rfl rfl
        have x6 := S.c 3 6 rfl rfl
        have x7 := S.c 3 7 rfl rfl
        have x8 := S.c 3 8 rfl rfl
        have x9 := S.c 3 9 rfl rfl
        have x10 := S.c 3 10 rfl rfl
        have x11 := S.c 3 11 rfl rfl
        have f0 := S.f 3 0 rfl
        have f1 := S.f 3 1 rfl
        have f2 := S.f 3 2 rfl
        have f3 := S.f 3 3 rfl
        have f4 := S.f 3 4 rfl
        have f5 := S.f 3 5 rfl
        have f6 := S.f 3 6 rfl
        have f7 := S.f 3 7 rfl
        have f8 := S.f 3 8 rfl
        have f9 := S.f 3 9 rfl
        have f10 := S.f 3 10 rfl
        have f11 := S.f 3 11 rfl
        go_wp2
        replace S := S.put12 3 rfl rfl rfl r0.a r0.b r0.c r0.d r1.a r1.b r1.c r1.d r2.a r2.b r2.c r2.d rfl
        obtain ⟨W99, eW, S⟩ := S.pack
        rw [eW]
        clear eW x0 x1 x2 x3 x4 x5 x6 x7 x8 x9 x10 x11 f0 f1 f2 f3 f4 f5 f6 f7 f8 f9 f10 f11
        refine bodyPost_ret (v := .tuple #[.agg (cellsQ [r0, r1, r2]).toArray, .int .i64 ((bestK fl sp k).1 : Nat), .int .i64 0]) (by simp [results, Tryz.results11, go_sem, S.c 3 0 rfl rfl, S.c 3 1 rfl rfl, S.c 3 2 rfl rfl, S.c 3 3 rfl rfl, S.c 3 4 rfl rfl, S.c 3 5 rfl rfl, S.c 3 6 rfl rfl, S.c 3 7 rfl rfl, S.c 3 8 rfl rfl, S.c 3 9 rfl rfl, S.c 3 10 rfl rfl, S.c 3 11 rfl rfl, cellsQ]) rfl ?_
        exact ⟨_, _, by rw [HC0.out], S.k, fun h => absurd HC0.out h, fun _ => ⟨rfl, [r0, r1, r2], rfl, rfl, S.fi 1 rfl⟩⟩
   ·have t2 : ((m : Int) != (k : Int)) = true := by simp; omega
    rw [if_pos hmn] at hHC2
    have HHC2 := Lib.hid hHC2
    clear hHC2
    have HE1 : Hid (chkC fl sp k m = 4) := Lib.hid (by rw [HHC2.out])
    have x0 := S.c 0 0 rfl rfl
    have x1 := S.c 0 1 rfl rfl
    have x2 := S.c 0 2 rfl rfl
    have x3 := S.c 0 3 rfl rfl
    have x4 := S.c 0 4 rfl rfl
    have x5 := S.c 0 5 rfl rfl
    have x6 := S.c 0 6 rfl rfl
    have x7 := S.c 0 7 rfl rfl
    have x8 := S.c 0 8 rfl rfl
    have x9 := S.c 0 9 rfl rfl
    have x10 := S.c 0 10 rfl rfl
    have x11 := S.c 0 11 rfl rfl
    have y0 := S.c 1 0 rfl rfl
    have y1 := S.c 1 1 rfl rfl
    have y2 := S.c 1 2 rfl rfl
    have y3 := S.c 1 3 rfl rfl
    have y4 := S.c 1 4 rfl rfl
    have y5 := S.c 1 5 rfl rfl
    have y6 := S.c 1 6 rfl rfl
    have y7 := S.c 1 7 rfl rfl
    have y8 := S.c 1 8 rfl rfl
    have y9 := S.c 1 9 rfl rfl
    have y10 := S.c 1 10 rfl rfl
    have y11 := S.c 1 11 rfl rfl
    have f0 := S.f 1 0 rfl
    have f1 := S.f 1 1 rfl
    have f2 := S.f 1 2 rfl
    have f3 := S.f 1 3 rfl
    have f4 := S.f 1 4 rfl
    have f5 := S.f 1 5 rfl
    have f6 := S.f 1 6 rfl
    have f7 := S.f 1 7 rfl
    have f8 := S.f 1 8 rfl
    have f9 := S.f 1 9 rfl
    have f10 := S.f 1 10 rfl
    have f11 := S.f 1 11 rfl
    go_wp2
    replace S := S.put12 1 rfl rfl rfl (.bool false) (.slice none 0 0) (.bool false) (.slice none 0 0) (.bool false) (.slice none 0 0) (.bool false) (.slice none 0 0) (.bool false) (.slice none 0 0) (.bool false) (.slice none 0 0) rfl
    obtain ⟨W99, eW, S⟩ := S.pack
    rw [eW]
    clear eW x0 x1 x2 x3 x4 x5 x6 x7 x8 x9 x10 x11 y0 y1 y2 y3 y4 y5 y6 y7 y8 y9 y10 y11 f0 f1 f2 f3 f4 f5 f6 f7 f8 f9 f10 f11
    refine bodyPost_ret (v := .tuple #[.agg zr12.toArray, .int .i64 0, .int .i64 4]) (by simp [results, Tryz.results11, go_sem, S.c 1 0 rfl rfl, S.c 1 1 rfl rfl, S.c 1 2 rfl rfl, S.c 1 3 rfl rfl, S.c 1 4 rfl rfl, S.c 1 5 rfl rfl, S.c 1 6 rfl rfl, S.c 1 7 rfl rfl, S.c 1 8 rfl rfl, S.c 1 9 rfl rfl, S.c 1 10 rfl rfl, S.c 1 11 rfl rfl]) rfl ?_
    exact ChkP.bad HE1.out (by decide) S.k
end Go.Proofs.YtgcigdahjabimaaGreatDoor
