/- The walk of the reference's value. The walk of the reference's decimal. -/
import Derived.Test.YtmochehkkadjnaaGreatDoorMgFParse
import Derived.Test.YtmochehkkadjnaaGreatDoorGTens
namespace Go.Proofs.YtmochehkkadjnaaGreatDoor
open Go.RowKit Go.Shelf

theorem St.only {w0 w : World} {bs : List Bx} {ps : List (World → Prop)} (S : St w0 w bs ps) : St w0 w bs [] := ⟨S.k, S.b, S.lo, S.d, trivial⟩
theorem rparse_c {l : List UInt8} {z c : Int} {w : World} (hs : l.length ≤ 1000000) (hz : parseZ l = z) (hc : parseC l = c) : Calls Tryz.prog 132 #[.string ⟨l.toArray⟩] w (ParseGives z c w) :=
  rparse_s (s := ⟨l.toArray⟩) w (by show l.toArray.size ≤ _; rw [List.size_toArray]; omega) hz hc
theorem gindex_s {w : World} {s : ByteArray} {z : Int} (hs : s.size ≤ 1000000) (h : Lib.indexByte s.data.toList 46 = z) : Calls Tryz.prog 130 #[.string s, .int .u8 46] w fun e w' => e = .returned (.int .i64 z) ∧ Keeps w w' := by
  subst h; exact gindex_any s 46 46 rfl w hs
theorem gindex_s2 {w : World} {s : ByteArray} {z : Int} (hs : s.size ≤ 1000000) (h : Lib.indexByte s.data.toList 47 = z) : Calls Tryz.prog 130 #[.string s, .int .u8 47] w fun e w' => e = .returned (.int .i64 z) ∧ Keeps w w' := by
  subst h; exact gindex_any s 47 47 rfl w hs
theorem u8_wrap {n x : Nat} (h : n = 48 + x) (hx : x ≤ 9) : IntKind.u8.wrap ((n : Int) - 48) = (x : Int) := by
  subst h
  rw [show (((48 + x : Nat) : Int) - 48) = (x : Int) by omega]
  match x, hx with
  | 0, _ | 1, _ | 2, _ | 3, _ | 4, _ | 5, _ | 6, _ | 7, _ | 8, _ | 9, _ => rfl
set_option maxRecDepth 100000 in
set_option maxHeartbeats 4000000 in
theorem gvalue_any_ {w : World} {d : ByteArray} (hs : d.size ≤ 1000) (hall : d.data.toList.all isDg = true) : Calls Tryz.prog 177 #[.string d] w (Gives (valD d.data.toList : Nat) w) := by
  have HALL := Lib.hid hall
  clear hall
  have S := (St.start w)
  go_enter Tryz.func177, Tryz.ntmps177
  go_wp2_with fail
  replace S := (S.alloc 24 [.bool false, .slice none 0 0])
  obtain ⟨W1, eW, S⟩ := S.pack
  rw [eW]
  clear eW
  refine ((whole_int 0 (by omega) (by omega))).mono ?_
  rintro e W2 ⟨U2, rfl, hp, hk⟩
  obtain ⟨b3, A3, n3, c3, rfl⟩ := hp.open3
  replace S := (S.below hk).addI hp
  clear hk hp
  go_wp2
  replace S := (S.alloc 24 [.bool b3, .slice A3 n3 c3])
  obtain ⟨W3, eW, S⟩ := S.pack
  rw [eW]
  clear eW
  generalize W2.heap.size = P1 at *
  obtain ⟨B, hB⟩ : ∃ B, P1 = B := ⟨_, rfl⟩
  subst hB
  go_loopw [4] (fun i wr => ∃ (k : Nat) (b : Bool) (A : Option Addr) (n c : Nat), k ≤ d.size ∧ i = .int .i64 (k : Nat) ∧ St w wr [(P1, 24, [.bool b, .slice A n c]), (w.heap.size, 24, [.bool false, .slice none 0 0])] [fun w => IntRep w (.agg #[.bool b, .slice A n c]) (valD (d.data.toList.take k) : Nat)]) (fun i _ => d.size - (intOf i).toNat)
  case atStart => exact ⟨0, b3, A3, n3, c3, Nat.zero_le _, rfl, by rw [List.take_zero]; exact S⟩
  case round =>
    clear S
    obtain ⟨k, b, A, n, c, hkd, rfl, S⟩ := hrel
    have hvl := part_lt d.data.toList HALL.out 0 k k (Nat.le_refl _)
    rw [List.drop_zero] at hvl
    have hV3 : lenI ((valD (d.data.toList.take k) : Nat) : Int) ≤ 230 := by
      refine dig_length_le (n := ((valD (d.data.toList.take k) : Nat) : Int).natAbs) (k := 230) ?_
      rw [Int.natAbs_natCast]
      exact Nat.lt_of_lt_of_le hvl (pow_230 _ (by omega))
    have hl10 : lenI 10 ≤ 1 := dig_length_le (n := (10 : Int).natAbs) (k := 1) (by decide)
    by_cases hlt : k < d.size
    · have hdg : isDg d[k] = true := (List.all_eq_true.1 HALL.out) _ (List.mem_of_getElem? (i := k) (by simp [hlt]; rfl))
      have h12 := isDg_le hdg
      obtain ⟨x, hx⟩ : ∃ x, d[k].toNat = 48 + x := ⟨d[k].toNat - 48, by omega⟩
      have hst := take_next d.data.toList 0 k (Nat.zero_le _) (by simpa using hlt)
      simp only [List.drop_zero, Nat.sub_zero] at hst
      have hvs := valD_snoc (d.data.toList.take k) (d.data.toList[k]'(by simpa using hlt))
      rw [← hst, show d.data.toList[k]'(by simpa using hlt) = d[k] from rfl, hx, show 48 + x - 48 = x by omega] at hvs
      obtain ⟨V2, hV2⟩ : ∃ V2, valD (d.data.toList.take (k + 1)) = V2 := ⟨_, rfl⟩
      rw [hV2] at hvs
      have HV2 := Lib.hid hV2
      clear hV2 hst
      generalize valD (d.data.toList.take k) = V at *
      have HVS := Lib.hid (show (V : Int) * 10 + (x : Int) = (V2 : Int) by omega)
      have qx := u8_wrap hx (by omega)
      have c1 : (x : Int) ≤ 9 := by omega
      have qy : IntKind.i64.wrap (x : Int) = (x : Int) := IntWalk.i64_in _ (by omega)
      have hx1 : lenI (x : Int) ≤ 1 := dig_length_le (n := (x : Int).natAbs) (k := 1) (by omega)
      have c2 : (48 : Int) ≤ d[k].toNat := by omega
      have c3 : (d[k].toNat : Int) ≤ 57 := by omega
      clear hvs hvl hdg h12 hx
      have y0 := lenI_mul ((V : Int)) 10
      have y1 := lenI_add (((V : Int)) * 10) (((x : Int)))
      have t1 : decide ((k : Int) < (d.size : Int)) = true := by exact decide_eq_true (by omega)
      go_upto_region 5 with fail
      refine wp_region_steps (m := 10) rfl (by kernel_rfl) (fun iΦ vΦ wΦ => (List.getD [fun vΦ _ => vΦ = .agg #[.bool b, .slice A n c], fun vΦ wΦ => IntRep wΦ vΦ (10), fun vΦ wΦ => IntRep wΦ vΦ (((V : Int)) * 10), fun vΦ _ => vΦ = .string d, fun vΦ _ => vΦ = .int .i64 (k : Int), fun vΦ _ => vΦ = .int .u8 (d[k].toNat : Int), fun vΦ _ => vΦ = .int .u8 (x : Int), fun vΦ _ => vΦ = .int .i64 (x : Int), fun vΦ wΦ => IntRep wΦ vΦ (((x : Int))), fun vΦ wΦ => IntRep wΦ vΦ (((V2 : Nat) : Int))] iΦ (fun _ _ => True)) vΦ wΦ) [] ?_ ?_ ?_
      · intro i v w w' _ h hk
        refine stabL_get ?_ i v w w' h hk
        exact stab_cons st_e (stab_cons st_i (stab_cons st_i (stab_cons st_e (stab_cons st_e (stab_cons st_e (stab_cons st_e (stab_cons st_e (stab_cons st_i (stab_cons st_i stab_nil)))))))))
      · intro i hi vs w3 hk3 hd
        have S3 := S.drew.below hk3
        have a0 := S3.c 0 0 rfl rfl
        have a1 := S3.c 0 1 rfl rfl
        match i, hi with
        | 0, _ =>
          refine step_val0 [] (fun vΦ _ => vΦ = .agg #[.bool b, .slice A n c]) rfl (by kernel_rfl) rfl (fun _ _ h => h) rfl fun K hK => ?_; clear hd; simp only [frD] at hK ⊢; go_simp
          exact hK _ _ (Below.refl _ _) rfl
        | 1, _ =>
          refine step_call (F := 85) (X := .func (.func 85) #[] #[]) (A := #[.int .i64 10]) (B := #[.int .i64 10]) [] (fun vΦ wΦ => IntRep wΦ vΦ (10)) rfl (by kernel_rfl) (fun _ _ h => h) rfl (wanted_none rfl) rfl rfl (by kernel_rfl) rfl (by kernel_rfl) rfl Tryz.func85 (by kernel_rfl) (by kernel_rfl) ?_
          refine ((whole_int 10 (by omega) (by omega))).mono ?_; rintro e w4 ⟨U, rfl, hr, hk4⟩; exact ⟨_, rfl, hk4, hr⟩
        | 2, _ =>
          have qe0 : (vs 0) = .agg #[.bool b, .slice A n c] := hd 0 (cm (by kernel_rfl)); have h1 : IntRep w3 (vs 1) (10) := hd 1 (cm (by kernel_rfl))
          refine step_call (F := 120) (X := .func (.func 120) #[] #[]) (A := #[(vs 0), (vs 1)]) (B := #[.agg #[.bool b, .slice A n c], (vs 1)]) [(0, some 12), (1, some 13)] (fun vΦ wΦ => IntRep wΦ vΦ (((V : Int)) * 10)) rfl (by kernel_rfl) (fun _ _ h => h) rfl (wanted_none rfl) rfl rfl (by kernel_rfl) rfl (by kernel_rfl) (by rw [qe0]) Tryz.func120 (by kernel_rfl) (by kernel_rfl) ?_
          refine ((rmul_num ((S3.ii 0 rfl).num (by omega)) (h1.num (by omega)))).mono ?_; rintro e w4 ⟨U, rfl, hr, hk4⟩; exact ⟨_, rfl, hk4, hr⟩
        | 3, _ =>
          refine step_val0 [] (fun vΦ _ => vΦ = .string d) rfl (by kernel_rfl) rfl (fun _ _ h => h) rfl fun K hK => ?_; clear hd; simp only [frD] at hK ⊢; go_simp
          exact hK _ _ (Below.refl _ _) rfl
        | 4, _ =>
          refine step_val0 [] (fun vΦ _ => vΦ = .int .i64 (k : Int)) rfl (by kernel_rfl) rfl (fun _ _ h => h) rfl fun K hK => ?_; clear hd; simp only [frD] at hK ⊢; go_simp
          exact hK _ _ (Below.refl _ _) rfl
        | 5, _ =>
          have qe3 : (vs 3) = .string d := hd 3 (cm (by kernel_rfl)); have qe4 : (vs 4) = .int .i64 (k : Int) := hd 4 (cm (by kernel_rfl))
          refine step_val0 [(3, some 15), (4, some 16)] (fun vΦ _ => vΦ = .int .u8 (d[k].toNat : Int)) rfl (by kernel_rfl) rfl (fun _ _ h => h) rfl fun K hK => ?_; clear hd; simp only [frD, qe3, qe4] at hK ⊢; go_simp
          exact hK _ _ (Below.refl _ _) rfl
        | 6, _ =>
          have qe5 : (vs 5) = .int .u8 (d[k].toNat : Int) := hd 5 (cm (by kernel_rfl))
          refine step_val0 [(5, some 17)] (fun vΦ _ => vΦ = .int .u8 (x : Int)) rfl (by kernel_rfl) rfl (fun _ _ h => h) rfl fun K hK => ?_; clear hd; simp only [frD, qe5] at hK ⊢; go_simp
          exact hK _ _ (Below.refl _ _) rfl
        | 7, _ =>
          have qe6 : (vs 6) = .int .u8 (x : Int) := hd 6 (cm (by kernel_rfl))
          refine step_val0 [(6, some 18)] (fun vΦ _ => vΦ = .int .i64 (x : Int)) rfl (by kernel_rfl) rfl (fun _ _ h => h) rfl fun K hK => ?_; clear hd; simp only [frD, qe6] at hK ⊢; go_simp
          exact hK _ _ (Below.refl _ _) rfl
        | 8, _ =>
          have h2 : IntRep w3 (vs 2) (((V : Int)) * 10) := hd 2 (cm (by kernel_rfl)); have qe7 : (vs 7) = .int .i64 (x : Int) := hd 7 (cm (by kernel_rfl))
          refine step_call (F := 85) (X := .func (.func 85) #[] #[]) (A := #[(vs 7)]) (B := #[.int .i64 (x : Int)]) [(2, some 14), (7, some 19)] (fun vΦ wΦ => IntRep wΦ vΦ (((x : Int)))) rfl (by kernel_rfl) (fun _ _ h => h) rfl (wanted_none rfl) rfl rfl (by kernel_rfl) rfl (by kernel_rfl) (by rw [qe7]) Tryz.func85 (by kernel_rfl) (by kernel_rfl) ?_
          refine ((whole_int ((x : Int)) (by omega) (by omega))).mono ?_; rintro e w4 ⟨U, rfl, hr, hk4⟩; exact ⟨_, rfl, hk4, hr⟩
        | 9, _ =>
          have h2 : IntRep w3 (vs 2) (((V : Int)) * 10) := hd 2 (cm (by kernel_rfl)); have h8 : IntRep w3 (vs 8) (((x : Int))) := hd 8 (cm (by kernel_rfl))
          refine step_call (F := 101) (X := .func (.func 101) #[] #[]) (A := #[(vs 2), (vs 8)]) (B := #[(vs 2), (vs 8)]) [(2, some 14), (8, some 20)] (fun vΦ wΦ => IntRep wΦ vΦ (((V2 : Nat) : Int))) rfl (by kernel_rfl) (fun _ _ h => h) rfl (wanted_none rfl) rfl rfl (by kernel_rfl) rfl (by kernel_rfl) rfl Tryz.func101 (by kernel_rfl) (by kernel_rfl) ?_
          refine ((gives_eq (radd_num (h2.num (by omega)) (h8.num (by omega))) HVS.out)).mono ?_; rintro e w4 ⟨U, rfl, hr, hk4⟩; exact ⟨_, rfl, hk4, hr⟩
        | i + 10, hi => exact absurd hi (by omega)
      · intro vs W31 hk3 hΦ _
        simp only [List.drop_succ_cons, List.drop_zero]
        rw [fr_frD, show (List.range 10).map _ = [(0, some 12), (1, some 13), (2, some 14), (3, some 15), (4, some 16), (5, some 17), (6, some 18), (7, some 19), (8, some 20), (9, some 21)] by kernel_rfl]
        have pd0 : (vs 0) = .agg #[.bool b, .slice A n c] := hΦ 0 (by decide)
        have pd1 : IntRep W31 (vs 1) (10) := hΦ 1 (by decide)
        have pd2 : IntRep W31 (vs 2) (((V : Int)) * 10) := hΦ 2 (by decide)
        have pd3 : (vs 3) = .string d := hΦ 3 (by decide)
        have pd4 : (vs 4) = .int .i64 (k : Int) := hΦ 4 (by decide)
        have pd5 : (vs 5) = .int .u8 (d[k].toNat : Int) := hΦ 5 (by decide)
        have pd6 : (vs 6) = .int .u8 (x : Int) := hΦ 6 (by decide)
        have pd7 : (vs 7) = .int .i64 (x : Int) := hΦ 7 (by decide)
        have pd8 : IntRep W31 (vs 8) (((x : Int))) := hΦ 8 (by decide)
        have pd9 : IntRep W31 (vs 9) (((V2 : Nat) : Int)) := hΦ 9 (by decide)
        clear hΦ
        simp only [frD, pd0, pd3, pd4, pd5, pd6, pd7]
        simp only [Act.put, List.setIfInBounds_toArray, List.set_cons_zero, List.set_cons_succ]
        clear pd0 pd3 pd4 pd5 pd6 pd7
        generalize vs 1 = Upd1 at pd1 ⊢
        generalize vs 2 = Upd2 at pd2 ⊢
        generalize vs 8 = Upd8 at pd8 ⊢
        generalize vs 9 = Upd9 at pd9 ⊢
        replace S := S.drew.below hk3
        clear pd1
        clear pd2
        clear pd8
        obtain ⟨b33, A33, n33, c33, rfl⟩ := pd9.open3
        replace S := S.addI pd9
        clear pd9
        clear hk3
        have r1_0 := S.c 0 0 rfl rfl
        have f1_0 := S.f 0 0 rfl
        have r1_1 := S.c 0 1 rfl rfl
        have f1_1 := S.f 0 1 rfl
        go_wp2
        replace S := (S.put2 0 rfl rfl rfl (x' := .bool b33) (y' := .slice A33 n33 c33))
        clear r1_0 f1_0 r1_1 f1_1
        go_roundw
        case rel => exact ⟨k + 1, b33, A33, n33, c33, by omega, by go_num, by rw [HV2.out]; exact S.only.addI (S.ii 0 rfl)⟩
        case measure => simp [intOf]; omega
    · have HEQ := Lib.hid (show valD d.data.toList = valD (d.data.toList.take k) by rw [List.take_of_length_le (by simp; omega)])
      have hk2 : d.size ≤ k := by omega
      clear hvl
      generalize valD (d.data.toList.take k) = V at *
      have t1 : decide ((k : Int) < (d.size : Int)) = false := by exact decide_eq_false (by omega)
      have r0_0 := S.c 1 0 rfl rfl
      have f0_0 := S.f 1 0 rfl
      have r0_1 := S.c 1 1 rfl rfl
      have f0_1 := S.f 1 1 rfl
      have r1_0 := S.c 0 0 rfl rfl
      have r1_1 := S.c 0 1 rfl rfl
      go_wp2
      replace S := (S.put2 1 rfl rfl rfl (x' := .bool b) (y' := .slice A n c))
      refine bodyPost_ret (v := .agg #[.bool b, .slice A n c]) (by simp [results, Tryz.results177, go_sem, S.c 1 0 rfl rfl, S.c 1 1 rfl rfl]) rfl ?_
      exact ⟨_, rfl, by rw [HEQ.out]; exact S.ii 0 rfl, S.k⟩
theorem gvalue_any {w : World} {d : ByteArray} (hs : d.size ≤ 1000) (hall : d.data.toList.all isDg = true) : Calls Tryz.prog 177 #[.string d] w (Gives (valD d.data.toList : Nat) w) := gvalue_any_ hs hall
end Go.Proofs.YtmochehkkadjnaaGreatDoor

namespace Go.Proofs.YtmochehkkadjnaaGreatDoor
open Go.RowKit Go.Shelf

set_option maxRecDepth 100000 in
set_option maxHeartbeats 4000000 in
theorem gd_neg {w : World} {s D E X : ByteArray} {n m1 : Nat} {bd1 bd2 : Bool} {c v : Int} {q : Rat} (_ : s.size ≤ 600) (hn : n < s.size) (qa : IntKind.i64.wrap ((n : Int) + 1) = (m1 : Int)) (hm1 : n + 1 ≤ m1 ∧ m1 ≤ n + 1) (E1 : s.extract 1 n = D) (E2 : s.extract m1 s.size = E) (EX : D ++ E = X) (h1 : gdigB D.data.toList 600 = bd1) (h2 : gdigB E.data.toList 100 = bd2) (hD : D.size ≤ 600) (hE : E.size ≤ 600) (hn0 : 0 < n) (hs0 : 0 < s.size) (h45 : ((s[0].toNat : Int) == 45) = true) (hdp : 0 < D.size) (hb1 : bd1 = false → c = 8) (hb2 : 1 < D.size → (∃ h : 0 < D.size, D[0].toNat = 48) → c = 8) (hb3 : bd2 = false → c = 8) (hgood : bd1 = true → ¬ (1 < D.size ∧ ∃ h : 0 < D.size, D[0].toNat = 48) → bd2 = true → c = 0 ∧ X.data.toList.all isDg = true ∧ X.size ≤ 1000 ∧ E.size ≤ 100 ∧ q = -Rat.divInt v (10 ^ ((E.size : Int)).toNat) ∧ (valD X.data.toList : Int) = v ∧ lenI v ≤ 230) : Calls Tryz.prog 131 #[.string s, .int .i64 (n : Int)] w (RCode c q w) := by
  have u6 : (10 : Int) ^ ((E.size : Int)).toNat ≠ 0 := Int.pow_ne_zero (by decide)
  have u8 := szR_divInt v (10 ^ ((E.size : Int)).toNat) u6
  have H1 := Lib.hid h1
  have H2 := Lib.hid h2
  have HB1 := Lib.hid hb1
  have HB2 := Lib.hid hb2
  have HB3 := Lib.hid hb3
  have HGOOD := Lib.hid hgood
  clear h1 h2 hb1 hb2 hb3 hgood
  have y0 := Nat.le_of_eq (szR_neg (Rat.divInt v (10 ^ (((E.size : Int))).toNat)))
  have t1 : decide (0 < (n : Int)) = true := by exact decide_eq_true (by omega)
  have t2 : ((s[0].toNat : Int) == 45) = true := by exact h45
  have S := (St.start w)
  go_enter Tryz.func131, Tryz.ntmps131
  go_wp2_with fail
  replace S := (S.alloc 28 [.bool false, .slice none 0 0, .bool false, .slice none 0 0])
  obtain ⟨W1, eW, S⟩ := S.pack
  rw [eW]
  clear eW
  refine ((gdigits_b (by omega) H1.out)).mono ?_
  rintro e W2 ⟨rfl, hk⟩
  replace S := S.below hk
  clear hk
  rcases Bool.eq_false_or_eq_true (bd1) with rfl | rfl
  · skip
    go_wp2_with fail
    refine ((gdigits_b (by omega) H2.out)).mono ?_
    rintro e W3 ⟨rfl, hk⟩
    replace S := S.below hk
    clear hk
    rcases Bool.eq_false_or_eq_true (bd2) with rfl | rfl
    · skip
      rcases Bool.eq_false_or_eq_true (decide (1 < (D.size : Int))) with t5 | t5
      · skip
        rcases Bool.eq_false_or_eq_true (((D[0].toNat : Int) == 48)) with t6 | t6
        · skip
          have r0_0 := S.c 0 0 rfl rfl
          have f0_0 := S.f 0 0 rfl
          have r0_1 := S.c 0 1 rfl rfl
          have f0_1 := S.f 0 1 rfl
          have r0_2 := S.c 0 2 rfl rfl
          have f0_2 := S.f 0 2 rfl
          have r0_3 := S.c 0 3 rfl rfl
          have f0_3 := S.f 0 3 rfl
          go_wp2
          replace S := (S.put4 0 rfl rfl rfl (x' := .bool false) (y' := .slice none 0 0) (z' := .bool false) (u' := .slice none 0 0))
          refine bodyPost_ret (v := .tuple #[.agg #[.bool false, .slice none 0 0, .bool false, .slice none 0 0], .int .i64 8]) (by simp [results, Tryz.results131, go_sem, S.c 0 0 rfl rfl, S.c 0 1 rfl rfl, S.c 0 2 rfl rfl, S.c 0 3 rfl rfl]) rfl ?_
          have hc8 : c = 8 := HB2.out (by have := of_decide_eq_true t5; omega) ⟨hdp, fd_48 t6⟩
          subst hc8
          exact ⟨_, rfl, by rw [if_neg (by decide)]; rfl, S.k⟩
        · skip
          have HG := HGOOD.out (by simp) (fd_no t6) (by simp)
          have u3 : lenI (10 ^ ((E.size : Int)).toNat) ≤ 12 := lenI_ten _ (by have := HG.2.2.2.1; omega)
          have u7 := HG.2.2.2.1
          have u9 := HG.2.2.1
          have HAL := Lib.hid HG.2.1
          have HC0 := Lib.hid HG.1
          have HQ0 := Lib.hid HG.2.2.2.2.1
          have HV := Lib.hid HG.2.2.2.2.2.1
          have uv := HG.2.2.2.2.2.2
          clear HG
          go_wp2_with fail
          refine ((gives_eq (gvalue_any u9 HAL.out) HV.out)).mono ?_
          rintro e W4 ⟨U4, rfl, hp, hk⟩
          obtain ⟨b3, A3, n3, c3, rfl⟩ := hp.open3
          replace S := (S.below hk).addI hp
          clear hk hp
          go_wp2_with fail
          refine ((gtens_num ((E.size : Int)) (by omega) (by omega))).mono ?_
          rintro e W5 ⟨U5, rfl, hp, hk⟩
          obtain ⟨b4, A4, n4, c4, rfl⟩ := hp.open3
          replace S := (S.below hk).addI hp
          clear hk hp
          go_wp2_with fail
          refine ((greduced_num ((S.ii 1 rfl).num4 (by omega)) ((S.ii 0 rfl).num4 (by omega)) (by omega))).mono ?_
          rintro e W6 ⟨U6, rfl, hp, hk⟩
          obtain ⟨b5, A5, n5, c5, d5, B5, m5, e5, rfl⟩ := hp.open_
          replace S := (S.below hk).addQ hp
          clear hk hp
          go_upto_region 11 with fail
          replace S := (S.alloc 28 [.bool b5, .slice A5 n5 c5, .bool d5, .slice B5 m5 e5])
          obtain ⟨W7, eW, S⟩ := S.pack
          rw [eW]
          clear eW
          generalize W6.heap.size = P1 at *
          have r1_0 := S.c 0 0 rfl rfl
          have r1_1 := S.c 0 1 rfl rfl
          have r1_2 := S.c 0 2 rfl rfl
          have r1_3 := S.c 0 3 rfl rfl
          go_wp2_with fail
          refine ((gneg_num ((S.qi 0 rfl).num (by omega)))).mono ?_
          rintro e W8 ⟨U8, rfl, hp, hk⟩
          obtain ⟨b6, A6, n6, c6, d6, B6, m6, e6, rfl⟩ := hp.open_
          replace S := (S.below hk).addQ hp
          clear hk hp
          clear r1_0 r1_1 r1_2 r1_3
          have r1_0 := S.c 0 0 rfl rfl
          have f1_0 := S.f 0 0 rfl
          have r1_1 := S.c 0 1 rfl rfl
          have f1_1 := S.f 0 1 rfl
          have r1_2 := S.c 0 2 rfl rfl
          have f1_2 := S.f 0 2 rfl
          have r1_3 := S.c 0 3 rfl rfl
          have f1_3 := S.f 0 3 rfl
          go_upto_region 12 with fail
          replace S := (S.put4 0 rfl rfl rfl (x' := .bool b6) (y' := .slice A6 n6 c6) (z' := .bool d6) (u' := .slice B6 m6 e6))
          obtain ⟨W9, eW, S⟩ := S.pack
          rw [eW]
          clear eW
          clear r1_0 f1_0 r1_1 f1_1 r1_2 f1_2 r1_3 f1_3
          have r0_0 := S.c 1 0 rfl rfl
          have f0_0 := S.f 1 0 rfl
          have r0_1 := S.c 1 1 rfl rfl
          have f0_1 := S.f 1 1 rfl
          have r0_2 := S.c 1 2 rfl rfl
          have f0_2 := S.f 1 2 rfl
          have r0_3 := S.c 1 3 rfl rfl
          have f0_3 := S.f 1 3 rfl
          have r1_0 := S.c 0 0 rfl rfl
          have r1_1 := S.c 0 1 rfl rfl
          have r1_2 := S.c 0 2 rfl rfl
          have r1_3 := S.c 0 3 rfl rfl
          go_wp2
          replace S := (S.put4 1 rfl rfl rfl (x' := .bool b6) (y' := .slice A6 n6 c6) (z' := .bool d6) (u' := .slice B6 m6 e6))
          refine bodyPost_ret (v := .tuple #[.agg #[.bool b6, .slice A6 n6 c6, .bool d6, .slice B6 m6 e6], .int .i64 0]) (by simp [results, Tryz.results131, go_sem, S.c 1 0 rfl rfl, S.c 1 1 rfl rfl, S.c 1 2 rfl rfl, S.c 1 3 rfl rfl]) rfl ?_
          have hc := HC0.out
          subst hc
          have hq := HQ0.out
          subst hq
          exact ⟨_, rfl, by rw [if_pos rfl]; exact S.qi 0 rfl, S.k⟩
      · skip
        have HG := HGOOD.out (by simp) (fd_sm t5) (by simp)
        have u3 : lenI (10 ^ ((E.size : Int)).toNat) ≤ 12 := lenI_ten _ (by have := HG.2.2.2.1; omega)
        have u7 := HG.2.2.2.1
        have u9 := HG.2.2.1
        have HAL := Lib.hid HG.2.1
        have HC0 := Lib.hid HG.1
        have HQ0 := Lib.hid HG.2.2.2.2.1
        have HV := Lib.hid HG.2.2.2.2.2.1
        have uv := HG.2.2.2.2.2.2
        clear HG
        go_wp2_with fail
        refine ((gives_eq (gvalue_any u9 HAL.out) HV.out)).mono ?_
        rintro e W4 ⟨U4, rfl, hp, hk⟩
        obtain ⟨b3, A3, n3, c3, rfl⟩ := hp.open3
        replace S := (S.below hk).addI hp
        clear hk hp
        go_wp2_with fail
        refine ((gtens_num ((E.size : Int)) (by omega) (by omega))).mono ?_
        rintro e W5 ⟨U5, rfl, hp, hk⟩
        obtain ⟨b4, A4, n4, c4, rfl⟩ := hp.open3
        replace S := (S.below hk).addI hp
        clear hk hp
        go_wp2_with fail
        refine ((greduced_num ((S.ii 1 rfl).num4 (by omega)) ((S.ii 0 rfl).num4 (by omega)) (by omega))).mono ?_
        rintro e W6 ⟨U6, rfl, hp, hk⟩
        obtain ⟨b5, A5, n5, c5, d5, B5, m5, e5, rfl⟩ := hp.open_
        replace S := (S.below hk).addQ hp
        clear hk hp
        go_upto_region 11 with fail
        replace S := (S.alloc 28 [.bool b5, .slice A5 n5 c5, .bool d5, .slice B5 m5 e5])
        obtain ⟨W7, eW, S⟩ := S.pack
        rw [eW]
        clear eW
        generalize W6.heap.size = P1 at *
        have r1_0 := S.c 0 0 rfl rfl
        have r1_1 := S.c 0 1 rfl rfl
        have r1_2 := S.c 0 2 rfl rfl
        have r1_3 := S.c 0 3 rfl rfl
        go_wp2_with fail
        refine ((gneg_num ((S.qi 0 rfl).num (by omega)))).mono ?_
        rintro e W8 ⟨U8, rfl, hp, hk⟩
        obtain ⟨b6, A6, n6, c6, d6, B6, m6, e6, rfl⟩ := hp.open_
        replace S := (S.below hk).addQ hp
        clear hk hp
        clear r1_0 r1_1 r1_2 r1_3
        have r1_0 := S.c 0 0 rfl rfl
        have f1_0 := S.f 0 0 rfl
        have r1_1 := S.c 0 1 rfl rfl
        have f1_1 := S.f 0 1 rfl
        have r1_2 := S.c 0 2 rfl rfl
        have f1_2 := S.f 0 2 rfl
        have r1_3 := S.c 0 3 rfl rfl
        have f1_3 := S.f 0 3 rfl
        go_upto_region 12 with fail
        replace S := (S.put4 0 rfl rfl rfl (x' := .bool b6) (y' := .slice A6 n6 c6) (z' := .bool d6) (u' := .slice B6 m6 e6))
        obtain ⟨W9, eW, S⟩ := S.pack
        rw [eW]
        clear eW
        clear r1_0 f1_0 r1_1 f1_1 r1_2 f1_2 r1_3 f1_3
        have r0_0 := S.c 1 0 rfl rfl
        have f0_0 := S.f 1 0 rfl
        have r0_1 := S.c 1 1 rfl rfl
        have f0_1 := S.f 1 1 rfl
        have r0_2 := S.c 1 2 rfl rfl
        have f0_2 := S.f 1 2 rfl
        have r0_3 := S.c 1 3 rfl rfl
        have f0_3 := S.f 1 3 rfl
        have r1_0 := S.c 0 0 rfl rfl
        have r1_1 := S.c 0 1 rfl rfl
        have r1_2 := S.c 0 2 rfl rfl
        have r1_3 := S.c 0 3 rfl rfl
        go_wp2
        replace S := (S.put4 1 rfl rfl rfl (x' := .bool b6) (y' := .slice A6 n6 c6) (z' := .bool d6) (u' := .slice B6 m6 e6))
        refine bodyPost_ret (v := .tuple #[.agg #[.bool b6, .slice A6 n6 c6, .bool d6, .slice B6 m6 e6], .int .i64 0]) (by simp [results, Tryz.results131, go_sem, S.c 1 0 rfl rfl, S.c 1 1 rfl rfl, S.c 1 2 rfl rfl, S.c 1 3 rfl rfl]) rfl ?_
        have hc := HC0.out
        subst hc
        have hq := HQ0.out
        subst hq
        exact ⟨_, rfl, by rw [if_pos rfl]; exact S.qi 0 rfl, S.k⟩
    · skip
      have r0_0 := S.c 0 0 rfl rfl
      have f0_0 := S.f 0 0 rfl
      have r0_1 := S.c 0 1 rfl rfl
      have f0_1 := S.f 0 1 rfl
      have r0_2 := S.c 0 2 rfl rfl
      have f0_2 := S.f 0 2 rfl
      have r0_3 := S.c 0 3 rfl rfl
      have f0_3 := S.f 0 3 rfl
      go_wp2
      replace S := (S.put4 0 rfl rfl rfl (x' := .bool false) (y' := .slice none 0 0) (z' := .bool false) (u' := .slice none 0 0))
      refine bodyPost_ret (v := .tuple #[.agg #[.bool false, .slice none 0 0, .bool false, .slice none 0 0], .int .i64 8]) (by simp [results, Tryz.results131, go_sem, S.c 0 0 rfl rfl, S.c 0 1 rfl rfl, S.c 0 2 rfl rfl, S.c 0 3 rfl rfl]) rfl ?_
      have hc8 : c = 8 := HB3.out (by simp)
      subst hc8
      exact ⟨_, rfl, by rw [if_neg (by decide)]; rfl, S.k⟩
  · skip
    have r0_0 := S.c 0 0 rfl rfl
    have f0_0 := S.f 0 0 rfl
    have r0_1 := S.c 0 1 rfl rfl
    have f0_1 := S.f 0 1 rfl
    have r0_2 := S.c 0 2 rfl rfl
    have f0_2 := S.f 0 2 rfl
    have r0_3 := S.c 0 3 rfl rfl
    have f0_3 := S.f 0 3 rfl
    go_wp2
    replace S := (S.put4 0 rfl rfl rfl (x' := .bool false) (y' := .slice none 0 0) (z' := .bool false) (u' := .slice none 0 0))
    refine bodyPost_ret (v := .tuple #[.agg #[.bool false, .slice none 0 0, .bool false, .slice none 0 0], .int .i64 8]) (by simp [results, Tryz.results131, go_sem, S.c 0 0 rfl rfl, S.c 0 1 rfl rfl, S.c 0 2 rfl rfl, S.c 0 3 rfl rfl]) rfl ?_
    have hc8 : c = 8 := HB1.out (by simp)
    subst hc8
    exact ⟨_, rfl, by rw [if_neg (by decide)]; rfl, S.k⟩
set_option maxRecDepth 100000 in
set_option maxHeartbeats 4000000 in
theorem gd_pos {w : World} {s D E X : ByteArray} {n m1 : Nat} {bd1 bd2 : Bool} {c v : Int} {q : Rat} (_ : s.size ≤ 600) (hn : n < s.size) (qa : IntKind.i64.wrap ((n : Int) + 1) = (m1 : Int)) (hm1 : n + 1 ≤ m1 ∧ m1 ≤ n + 1) (E1 : s.extract 0 n = D) (E2 : s.extract m1 s.size = E) (EX : D ++ E = X) (h1 : gdigB D.data.toList 600 = bd1) (h2 : gdigB E.data.toList 100 = bd2) (hD : D.size ≤ 600) (hE : E.size ≤ 600) (hn0 : 0 < n) (hs0 : 0 < s.size) (h45 : ((s[0].toNat : Int) == 45) = false) (hdp : 0 < D.size) (hb1 : bd1 = false → c = 8) (hb2 : 1 < D.size → (∃ h : 0 < D.size, D[0].toNat = 48) → c = 8) (hb3 : bd2 = false → c = 8) (hgood : bd1 = true → ¬ (1 < D.size ∧ ∃ h : 0 < D.size, D[0].toNat = 48) → bd2 = true → c = 0 ∧ X.data.toList.all isDg = true ∧ X.size ≤ 1000 ∧ E.size ≤ 100 ∧ q = Rat.divInt v (10 ^ ((E.size : Int)).toNat) ∧ (valD X.data.toList : Int) = v ∧ lenI v ≤ 230) : Calls Tryz.prog 131 #[.string s, .int .i64 (n : Int)] w (RCode c q w) := by
  have u6 : (10 : Int) ^ ((E.size : Int)).toNat ≠ 0 := Int.pow_ne_zero (by decide)
  have u8 := szR_divInt v (10 ^ ((E.size : Int)).toNat) u6
  have H1 := Lib.hid h1
  have H2 := Lib.hid h2
  have HB1 := Lib.hid hb1
  have HB2 := Lib.hid hb2
  have HB3 := Lib.hid hb3
  have HGOOD := Lib.hid hgood
  clear h1 h2 hb1 hb2 hb3 hgood
  have t1 : decide (0 < (n : Int)) = true := by exact decide_eq_true (by omega)
  have t2 : ((s[0].toNat : Int) == 45) = false := by exact h45
  have S := (St.start w)
  go_enter Tryz.func131, Tryz.ntmps131
  go_wp2_with fail
  replace S := (S.alloc 28 [.bool false, .slice none 0 0, .bool false, .slice none 0 0])
  obtain ⟨W1, eW, S⟩ := S.pack
  rw [eW]
  clear eW
  refine ((gdigits_b (by omega) H1.out)).mono ?_
  rintro e W2 ⟨rfl, hk⟩
  replace S := S.below hk
  clear hk
  rcases Bool.eq_false_or_eq_true (bd1) with rfl | rfl
  · skip
    go_wp2_with fail
    refine ((gdigits_b (by omega) H2.out)).mono ?_
    rintro e W3 ⟨rfl, hk⟩
    replace S := S.below hk
    clear hk
    rcases Bool.eq_false_or_eq_true (bd2) with rfl | rfl
    · skip
      rcases Bool.eq_false_or_eq_true (decide (1 < (D.size : Int))) with t5 | t5
      · skip
        rcases Bool.eq_false_or_eq_true (((D[0].toNat : Int) == 48)) with t6 | t6
        · skip
          have r0_0 := S.c 0 0 rfl rfl
          have f0_0 := S.f 0 0 rfl
          have r0_1 := S.c 0 1 rfl rfl
          have f0_1 := S.f 0 1 rfl
          have r0_2 := S.c 0 2 rfl rfl
          have f0_2 := S.f 0 2 rfl
          have r0_3 := S.c 0 3 rfl rfl
          have f0_3 := S.f 0 3 rfl
          go_wp2
          replace S := (S.put4 0 rfl rfl rfl (x' := .bool false) (y' := .slice none 0 0) (z' := .bool false) (u' := .slice none 0 0))
          refine bodyPost_ret (v := .tuple #[.agg #[.bool false, .slice none 0 0, .bool false, .slice none 0 0], .int .i64 8]) (by simp [results, Tryz.results131, go_sem, S.c 0 0 rfl rfl, S.c 0 1 rfl rfl, S.c 0 2 rfl rfl, S.c 0 3 rfl rfl]) rfl ?_
          have hc8 : c = 8 := HB2.out (by have := of_decide_eq_true t5; omega) ⟨hdp, fd_48 t6⟩
          subst hc8
          exact ⟨_, rfl, by rw [if_neg (by decide)]; rfl, S.k⟩
        · skip
          have HG := HGOOD.out (by simp) (fd_no t6) (by simp)
          have u3 : lenI (10 ^ ((E.size : Int)).toNat) ≤ 12 := lenI_ten _ (by have := HG.2.2.2.1; omega)
          have u7 := HG.2.2.2.1
          have u9 := HG.2.2.1
          have HAL := Lib.hid HG.2.1
          have HC0 := Lib.hid HG.1
          have HQ0 := Lib.hid HG.2.2.2.2.1
          have HV := Lib.hid HG.2.2.2.2.2.1
          have uv := HG.2.2.2.2.2.2
          clear HG
          go_wp2_with fail
          refine ((gives_eq (gvalue_any u9 HAL.out) HV.out)).mono ?_
          rintro e W4 ⟨U4, rfl, hp, hk⟩
          obtain ⟨b3, A3, n3, c3, rfl⟩ := hp.open3
          replace S := (S.below hk).addI hp
          clear hk hp
          go_wp2_with fail
          refine ((gtens_num ((E.size : Int)) (by omega) (by omega))).mono ?_
          rintro e W5 ⟨U5, rfl, hp, hk⟩
          obtain ⟨b4, A4, n4, c4, rfl⟩ := hp.open3
          replace S := (S.below hk).addI hp
          clear hk hp
          go_wp2_with fail
          refine ((greduced_num ((S.ii 1 rfl).num4 (by omega)) ((S.ii 0 rfl).num4 (by omega)) (by omega))).mono ?_
          rintro e W6 ⟨U6, rfl, hp, hk⟩
          obtain ⟨b5, A5, n5, c5, d5, B5, m5, e5, rfl⟩ := hp.open_
          replace S := (S.below hk).addQ hp
          clear hk hp
          go_upto_region 12 with fail
          replace S := (S.alloc 28 [.bool b5, .slice A5 n5 c5, .bool d5, .slice B5 m5 e5])
          obtain ⟨W7, eW, S⟩ := S.pack
          rw [eW]
          clear eW
          generalize W6.heap.size = P1 at *
          have r0_0 := S.c 1 0 rfl rfl
          have f0_0 := S.f 1 0 rfl
          have r0_1 := S.c 1 1 rfl rfl
          have f0_1 := S.f 1 1 rfl
          have r0_2 := S.c 1 2 rfl rfl
          have f0_2 := S.f 1 2 rfl
          have r0_3 := S.c 1 3 rfl rfl
          have f0_3 := S.f 1 3 rfl
          have r1_0 := S.c 0 0 rfl rfl
          have r1_1 := S.c 0 1 rfl rfl
          have r1_2 := S.c 0 2 rfl rfl
          have r1_3 := S.c 0 3 rfl rfl
          go_wp2
          replace S := (S.put4 1 rfl rfl rfl (x' := .bool b5) (y' := .slice A5 n5 c5) (z' := .bool d5) (u' := .slice B5 m5 e5))
          refine bodyPost_ret (v := .tuple #[.agg #[.bool b5, .slice A5 n5 c5, .bool d5, .slice B5 m5 e5], .int .i64 0]) (by simp [results, Tryz.results131, go_sem, S.c 1 0 rfl rfl, S.c 1 1 rfl rfl, S.c 1 2 rfl rfl, S.c 1 3 rfl rfl]) rfl ?_
          have hc := HC0.out
          subst hc
          have hq := HQ0.out
          subst hq
          exact ⟨_, rfl, by rw [if_pos rfl]; exact S.qi 0 rfl, S.k⟩
      · skip
        have HG := HGOOD.out (by simp) (fd_sm t5) (by simp)
        have u3 : lenI (10 ^ ((E.size : Int)).toNat) ≤ 12 := lenI_ten _ (by have := HG.2.2.2.1; omega)
        have u7 := HG.2.2.2.1
        have u9 := HG.2.2.1
        have HAL := Lib.hid HG.2.1
        have HC0 := Lib.hid HG.1
        have HQ0 := Lib.hid HG.2.2.2.2.1
        have HV := Lib.hid HG.2.2.2.2.2.1
        have uv := HG.2.2.2.2.2.2
        clear HG
        go_wp2_with fail
        refine ((gives_eq (gvalue_any u9 HAL.out) HV.out)).mono ?_
        rintro e W4 ⟨U4, rfl, hp, hk⟩
        obtain ⟨b3, A3, n3, c3, rfl⟩ := hp.open3
        replace S := (S.below hk).addI hp
        clear hk hp
        go_wp2_with fail
        refine ((gtens_num ((E.size : Int)) (by omega) (by omega))).mono ?_
        rintro e W5 ⟨U5, rfl, hp, hk⟩
        obtain ⟨b4, A4, n4, c4, rfl⟩ := hp.open3
        replace S := (S.below hk).addI hp
        clear hk hp
        go_wp2_with fail
        refine ((greduced_num ((S.ii 1 rfl).num4 (by omega)) ((S.ii 0 rfl).num4 (by omega)) (by omega))).mono ?_
        rintro e W6 ⟨U6, rfl, hp, hk⟩
        obtain ⟨b5, A5, n5, c5, d5, B5, m5, e5, rfl⟩ := hp.open_
        replace S := (S.below hk).addQ hp
        clear hk hp
        go_upto_region 12 with fail
        replace S := (S.alloc 28 [.bool b5, .slice A5 n5 c5, .bool d5, .slice B5 m5 e5])
        obtain ⟨W7, eW, S⟩ := S.pack
        rw [eW]
        clear eW
        generalize W6.heap.size = P1 at *
        have r0_0 := S.c 1 0 rfl rfl
        have f0_0 := S.f 1 0 rfl
        have r0_1 := S.c 1 1 rfl rfl
        have f0_1 := S.f 1 1 rfl
        have r0_2 := S.c 1 2 rfl rfl
        have f0_2 := S.f 1 2 rfl
        have r0_3 := S.c 1 3 rfl rfl
        have f0_3 := S.f 1 3 rfl
        have r1_0 := S.c 0 0 rfl rfl
        have r1_1 := S.c 0 1 rfl rfl
        have r1_2 := S.c 0 2 rfl rfl
        have r1_3 := S.c 0 3 rfl rfl
        go_wp2
        replace S := (S.put4 1 rfl rfl rfl (x' := .bool b5) (y' := .slice A5 n5 c5) (z' := .bool d5) (u' := .slice B5 m5 e5))
        refine bodyPost_ret (v := .tuple #[.agg #[.bool b5, .slice A5 n5 c5, .bool d5, .slice B5 m5 e5], .int .i64 0]) (by simp [results, Tryz.results131, go_sem, S.c 1 0 rfl rfl, S.c 1 1 rfl rfl, S.c 1 2 rfl rfl, S.c 1 3 rfl rfl]) rfl ?_
        have hc := HC0.out
        subst hc
        have hq := HQ0.out
        subst hq
        exact ⟨_, rfl, by rw [if_pos rfl]; exact S.qi 0 rfl, S.k⟩
    · skip
      have r0_0 := S.c 0 0 rfl rfl
      have f0_0 := S.f 0 0 rfl
      have r0_1 := S.c 0 1 rfl rfl
      have f0_1 := S.f 0 1 rfl
      have r0_2 := S.c 0 2 rfl rfl
      have f0_2 := S.f 0 2 rfl
      have r0_3 := S.c 0 3 rfl rfl
      have f0_3 := S.f 0 3 rfl
      go_wp2
      replace S := (S.put4 0 rfl rfl rfl (x' := .bool false) (y' := .slice none 0 0) (z' := .bool false) (u' := .slice none 0 0))
      refine bodyPost_ret (v := .tuple #[.agg #[.bool false, .slice none 0 0, .bool false, .slice none 0 0], .int .i64 8]) (by simp [results, Tryz.results131, go_sem, S.c 0 0 rfl rfl, S.c 0 1 rfl rfl, S.c 0 2 rfl rfl, S.c 0 3 rfl rfl]) rfl ?_
      have hc8 : c = 8 := HB3.out (by simp)
      subst hc8
      exact ⟨_, rfl, by rw [if_neg (by decide)]; rfl, S.k⟩
  · skip
    have r0_0 := S.c 0 0 rfl rfl
    have f0_0 := S.f 0 0 rfl
    have r0_1 := S.c 0 1 rfl rfl
    have f0_1 := S.f 0 1 rfl
    have r0_2 := S.c 0 2 rfl rfl
    have f0_2 := S.f 0 2 rfl
    have r0_3 := S.c 0 3 rfl rfl
    have f0_3 := S.f 0 3 rfl
    go_wp2
    replace S := (S.put4 0 rfl rfl rfl (x' := .bool false) (y' := .slice none 0 0) (z' := .bool false) (u' := .slice none 0 0))
    refine bodyPost_ret (v := .tuple #[.agg #[.bool false, .slice none 0 0, .bool false, .slice none 0 0], .int .i64 8]) (by simp [results, Tryz.results131, go_sem, S.c 0 0 rfl rfl, S.c 0 1 rfl rfl, S.c 0 2 rfl rfl, S.c 0 3 rfl rfl]) rfl ?_
    have hc8 : c = 8 := HB1.out (by simp)
    subst hc8
    exact ⟨_, rfl, by rw [if_neg (by decide)]; rfl, S.k⟩
set_option maxRecDepth 100000 in
set_option maxHeartbeats 1000000 in
theorem gd_negx {w : World} {s D E : ByteArray} {n m1 : Nat} (_ : s.size ≤ 600) (hn : n < s.size) (qa : IntKind.i64.wrap ((n : Int) + 1) = (m1 : Int)) (hm1 : n + 1 ≤ m1 ∧ m1 ≤ n + 1) (E1 : s.extract 1 n = D) (E2 : s.extract m1 s.size = E) (h1 : gdigB D.data.toList 600 = false) (hD : D.size ≤ 600) (hn0 : 0 < n) (hs0 : 0 < s.size) (h45 : ((s[0].toNat : Int) == 45) = true) : Calls Tryz.prog 131 #[.string s, .int .i64 (n : Int)] w (RCode 8 0 w) := by
  have H1 := Lib.hid h1
  clear h1
  have t1 : decide (0 < (n : Int)) = true := by exact decide_eq_true (by omega)
  have t2 : ((s[0].toNat : Int) == 45) = true := by exact h45
  have S := (St.start w)
  go_enter Tryz.func131, Tryz.ntmps131
  go_wp2_with fail
  replace S := (S.alloc 28 [.bool false, .slice none 0 0, .bool false, .slice none 0 0])
  obtain ⟨W1, eW, S⟩ := S.pack
  rw [eW]
  clear eW
  refine ((gdigits_b (by omega) H1.out)).mono ?_
  rintro e W2 ⟨rfl, hk⟩
  replace S := S.below hk
  clear hk
  have r0_0 := S.c 0 0 rfl rfl
  have f0_0 := S.f 0 0 rfl
  have r0_1 := S.c 0 1 rfl rfl
  have f0_1 := S.f 0 1 rfl
  have r0_2 := S.c 0 2 rfl rfl
  have f0_2 := S.f 0 2 rfl
  have r0_3 := S.c 0 3 rfl rfl
  have f0_3 := S.f 0 3 rfl
  go_wp2
  replace S := (S.put4 0 rfl rfl rfl (x' := .bool false) (y' := .slice none 0 0) (z' := .bool false) (u' := .slice none 0 0))
  refine bodyPost_ret (v := .tuple #[.agg #[.bool false, .slice none 0 0, .bool false, .slice none 0 0], .int .i64 8]) (by simp [results, Tryz.results131, go_sem, S.c 0 0 rfl rfl, S.c 0 1 rfl rfl, S.c 0 2 rfl rfl, S.c 0 3 rfl rfl]) rfl ?_
  exact ⟨_, rfl, by rw [if_neg (by decide)]; rfl, S.k⟩
set_option maxRecDepth 100000 in
set_option maxHeartbeats 1000000 in
theorem gd_zero {w : World} {s D E : ByteArray} {n m1 : Nat} (_ : s.size ≤ 600) (hn : n < s.size) (qa : IntKind.i64.wrap ((n : Int) + 1) = (m1 : Int)) (hm1 : n + 1 ≤ m1 ∧ m1 ≤ n + 1) (E1 : s.extract 0 n = D) (E2 : s.extract m1 s.size = E) (h1 : gdigB D.data.toList 600 = false) (hD : D.size ≤ 600) (hn0 : n ≤ 0) : Calls Tryz.prog 131 #[.string s, .int .i64 (n : Int)] w (RCode 8 0 w) := by
  have H1 := Lib.hid h1
  clear h1
  have t1 : decide (0 < (n : Int)) = false := by exact decide_eq_false (by omega)
  have S := (St.start w)
  go_enter Tryz.func131, Tryz.ntmps131
  go_wp2_with fail
  replace S := (S.alloc 28 [.bool false, .slice none 0 0, .bool false, .slice none 0 0])
  obtain ⟨W1, eW, S⟩ := S.pack
  rw [eW]
  clear eW
  refine ((gdigits_b (by omega) H1.out)).mono ?_
  rintro e W2 ⟨rfl, hk⟩
  replace S := S.below hk
  clear hk
  have r0_0 := S.c 0 0 rfl rfl
  have f0_0 := S.f 0 0 rfl
  have r0_1 := S.c 0 1 rfl rfl
  have f0_1 := S.f 0 1 rfl
  have r0_2 := S.c 0 2 rfl rfl
  have f0_2 := S.f 0 2 rfl
  have r0_3 := S.c 0 3 rfl rfl
  have f0_3 := S.f 0 3 rfl
  go_wp2
  replace S := (S.put4 0 rfl rfl rfl (x' := .bool false) (y' := .slice none 0 0) (z' := .bool false) (u' := .slice none 0 0))
  refine bodyPost_ret (v := .tuple #[.agg #[.bool false, .slice none 0 0, .bool false, .slice none 0 0], .int .i64 8]) (by simp [results, Tryz.results131, go_sem, S.c 0 0 rfl rfl, S.c 0 1 rfl rfl, S.c 0 2 rfl rfl, S.c 0 3 rfl rfl]) rfl ?_
  exact ⟨_, rfl, by rw [if_neg (by decide)]; rfl, S.k⟩
end Go.Proofs.YtmochehkkadjnaaGreatDoor
