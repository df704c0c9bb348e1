/- The walks of the reference's Short and Least. The walk of fraction.extreme, in both directions. -/
import Derived.Test.YtmochehkkadjnaaGreatDoorMgRats
import Derived.Test.YtmochehkkadjnaaGreatDoorMgStab
namespace Go.Proofs.YtmochehkkadjnaaGreatDoor
open Go.RowKit Go.Shelf

def RatS2 (w : World) (V : Value) (x : Rat × Bool) : Prop := RatS w V x.1 x.2
theorem lasts_s : Lasts RatS2 := fun _ _ _ _ hk h => RatS.map h hk.same32
theorem lasts_rep : Lasts RatRep := fun _ _ _ _ hk h => h.below hk
def minL : List Rat → Rat
  | [] => 0
  | q :: r => r.foldl (fun b x => if x < b then x else b) q
theorem minL_snoc {l : List Rat} (h : l ≠ []) (q : Rat) : minL (l ++ [q]) = if q < minL l then q else minL l := by
  cases l with
  | nil => exact absurd rfl h
  | cons a r =>
    show List.foldl _ a (r ++ [q]) = _
    rw [List.foldl_append]; rfl
theorem minL_take {l : List Rat} {k : Nat} (h0 : 0 < k) (h : k < l.length) : minL (l.take (k + 1)) = if l[k] < minL (l.take k) then l[k] else minL (l.take k) := by
  rw [List.take_succ_eq_append_getElem h]
  refine minL_snoc (fun e => ?_) _
  have := congrArg List.length e
  rw [List.length_take, List.length_nil] at this
  omega
theorem szR_min {l : List Rat} {m : Nat} (h : ∀ q ∈ l, szR q ≤ m) : ∀ k, 0 < k → k ≤ l.length → szR (minL (l.take k)) ≤ m
  | 0, h0, _ => absurd h0 (by omega)
  | 1, _, hk => by
    cases l with
    | nil => simp at hk
    | cons a r => exact h a List.mem_cons_self
  | k + 2, _, hk => by
    rw [minL_take (by omega) (by omega)]
    split
    · exact h _ (List.getElem_mem _)
    · exact szR_min h (k + 1) (by omega) (by omega)
set_option maxRecDepth 100000 in
set_option maxHeartbeats 1000000 in
theorem gshort_long {w : World} {A : Option Addr} {n c : Nat} (hn : 8 < n) : Calls Tryz.prog 66 #[.slice A n c, .int .i64 8, .int .i64 8] w (fun e w' => e = .returned (.bool false) ∧ Keeps w w') := by
  have t1 : decide (8 < (n : Int)) = true := by exact decide_eq_true (by omega)
  have S := (St.start w)
  go_enter Tryz.func66, Tryz.ntmps66
  go_wp2
  go_ret
  exact ⟨rfl, S.k⟩
set_option maxRecDepth 100000 in
set_option maxHeartbeats 1000000 in
theorem gshort_any {w : World} {A : Option Addr} {c : Nat} {l : List (Rat × Bool)} (hr : Row4 RatS2 w A l) (hn : l.length ≤ 8) : Calls Tryz.prog 66 #[.slice A l.length c, .int .i64 8, .int .i64 8] w (fun e w' => e = .returned (.bool (l.all (·.2))) ∧ Keeps w w') := by
  have HR := Lib.hid hr
  have HN := Lib.hid hn
  clear hr
  have t1 : decide (8 < (l.length : Int)) = false := by exact decide_eq_false (by omega)
  have S := (St.start w)
  go_enter Tryz.func66, Tryz.ntmps66
  go_wp2
  go_loopw [7] (fun i wr => ∃ k : Nat, k ≤ l.length ∧ i = .int .i64 (k : Nat) ∧ (l.take k).all (·.2) = true ∧ St w wr [] []) (fun i _ => l.length - (intOf i).toNat)
  case atStart => exact ⟨0, Nat.zero_le _, rfl, rfl, S⟩
  case round =>
    clear S
    obtain ⟨k, hkd, rfl, hall, S⟩ := hrel
    by_cases hlt : k < l.length
    · obtain ⟨x, hq⟩ : ∃ x, l[k]? = some x := ⟨_, List.getElem?_eq_getElem hlt⟩
      obtain ⟨B, o, x0, x1, x2, x3, rfl, hc, hx⟩ := HR.out.get lasts_s hq
      obtain ⟨bx, xs, dx, ys, hA, -, hb, hn1, hm1⟩ := hx wr S.k
      obtain ⟨Ax, cx, Bx, ex, he⟩ := hA.open2
      cases he
      obtain ⟨g0, g1, g2, g3⟩ := hc wr S.k
      have hqs : l[k] = x := by rw [List.getElem?_eq_getElem hlt] at hq; exact Option.some.inj hq
      have hta : (l.take (k + 1)).all (·.2) = x.2 := by
        rw [List.take_succ_eq_append_getElem hlt, List.all_append, hall, hqs]; simp
      have hfa : x.2 = false → l.all (·.2) = false := fun h => by
        rw [List.all_eq_false]; exact ⟨x, List.mem_of_getElem? hq, by rw [h]; decide⟩
      generalize xs.length = nx at *
      generalize ys.length = mx at *
      have HNX := Lib.hid hn1
      have HMX := Lib.hid hm1
      have nI : (nx : Int) ≤ 35184372088832 := by omega
      have mI : (mx : Int) ≤ 35184372088832 := by omega
      have HTA := Lib.hid (show ¬ 8 < nx + mx → (l.take (k + 1)).all (·.2) = true from fun h => by rw [hta, ← hb]; exact decide_eq_true (by omega))
      have HFA := Lib.hid (show 8 < nx + mx → l.all (·.2) = false from fun h => hfa (by rw [← hb]; exact decide_eq_false (by omega)))
      have hkI : (k : Int) ≤ 8 := by omega
      clear hta hfa hb hn1 hm1 hqs hq hc hx hA hall
      have t1 : decide ((k : Int) < (l.length : Int)) = true := by exact decide_eq_true (by omega)
      go_wp2_with fail
      refine ((rdigs_any HNX.out HMX.out)).mono ?_
      rintro e W31 ⟨rfl, hk⟩
      replace S := S.below hk
      clear hk
      rcases Bool.eq_false_or_eq_true (decide (8 < ((nx : Int) + (mx : Int)))) with t2 | t2
      · skip
        go_wp2
        go_ret
        exact ⟨by rw [HFA.out (by have := of_decide_eq_true t2; omega)]; rfl, S.k⟩
      · skip
        go_wp2
        go_roundw
        case rel => exact ⟨k + 1, by omega, by go_num, HTA.out (by have := of_decide_eq_false t2; omega), S⟩
        case measure => simp [intOf]; omega
    · have HEQ := Lib.hid (show l.all (·.2) = true by rw [List.take_of_length_le (by omega)] at hall; exact hall)
      clear hall
      have t1 : decide ((k : Int) < (l.length : Int)) = false := by exact decide_eq_false (by omega)
      go_wp2
      go_ret
      exact ⟨by rw [HEQ.out]; rfl, S.k⟩
set_option maxRecDepth 100000 in
set_option maxHeartbeats 1000000 in
theorem gleast_0 {w : World} {A : Option Addr} {n c : Nat} (hn : n = 0) : Calls Tryz.prog 70 #[.slice A n c] w (RCode 6 0 w) := by
  have t1 : ((n : Int) == 0) = true := by subst hn; rfl
  have S := (St.start w)
  go_enter Tryz.func70, Tryz.ntmps70
  go_wp2
  replace S := (S.alloc 28 [.bool false, .slice none 0 0, .bool false, .slice none 0 0])
  obtain ⟨W99, eW, S⟩ := S.pack
  rw [eW]
  clear eW
  refine bodyPost_ret (v := .tuple #[.agg #[.bool false, .slice none 0 0, .bool false, .slice none 0 0], .int .i64 6]) (by simp [results, Tryz.results70, go_sem, S.c 0 0 rfl rfl, S.c 0 1 rfl rfl, S.c 0 2 rfl rfl, S.c 0 3 rfl rfl]) rfl ?_
  exact ⟨_, rfl, by rw [if_neg (by decide)]; rfl, S.k⟩
set_option maxRecDepth 100000 in
set_option maxHeartbeats 1000000 in
theorem gleast_any {w : World} {B o : Nat} {c : Nat} {qs : List Rat} {q0 : Rat} {bx dx : Bool} {Ax Bx : Option Addr} {nx cx mx ex : Nat} (hr : Row4 RatNum w (some ⟨B, o, none⟩) qs) (hz : ∀ q ∈ qs, szR q ≤ 100) (hn : qs.length ≤ 8) (h0 : 0 < qs.length) (hq0 : minL (qs.take 1) = q0) (hc : ∀ W, Keeps w W → W.cell? ⟨B, o, none⟩ = some (.bool bx) ∧ W.cell? ⟨B, o + 1, none⟩ = some (.slice Ax nx cx) ∧ W.cell? ⟨B, o + 2, none⟩ = some (.bool dx) ∧ W.cell? ⟨B, o + 3, none⟩ = some (.slice Bx mx ex)) (hx : ∀ W, Keeps w W → RatNum W (.agg #[.bool bx, .slice Ax nx cx, .bool dx, .slice Bx mx ex]) q0) : Calls Tryz.prog 70 #[.slice (some ⟨B, o, none⟩) qs.length c] w (RCode 0 (minL qs) w) := by
  have HR := Lib.hid hr
  have HZ := Lib.hid hz
  have HN := Lib.hid hn
  have HQ0 := Lib.hid hq0
  have HC0 := Lib.hid hc
  have HX0 := Lib.hid hx
  clear hr hz hq0 hc hx
  have t1 : ((qs.length : Int) == 0) = false := by exact beq_eq_false_iff_ne.2 (by omega)
  have S := (St.start w)
  go_enter Tryz.func70, Tryz.ntmps70
  go_upto_region 3 with fail
  replace S := (S.alloc 28 [.bool false, .slice none 0 0, .bool false, .slice none 0 0])
  obtain ⟨W1, eW, S⟩ := S.pack
  rw [eW]
  clear eW
  obtain ⟨g0, g1, g2, g3⟩ := HC0.out _ S.k
  go_wp2_with fail
  refine ((gvalue_num (HX0.out _ S.k))).mono ?_
  rintro e W2 ⟨U2, rfl, hp, hk⟩
  obtain ⟨b3, A3, n3, c3, d3, B3, m3, e3, rfl⟩ := hp.open_
  replace S := (S.below hk).addQ hp
  clear hk hp
  go_wp2
  replace S := (S.alloc 28 [.bool b3, .slice A3 n3 c3, .bool d3, .slice B3 m3 e3])
  obtain ⟨W3, eW, S⟩ := S.pack
  rw [eW]
  clear eW
  generalize W2.heap.size = P1 at *
  go_loopw [5] (fun i wr => ∃ (k : Nat) (b : Bool) (A1 : Option Addr) (n1 c1 : Nat) (d : Bool) (B1 : Option Addr) (m1 e1 : Nat), 0 < k ∧ k ≤ qs.length ∧ i = .int .i64 (k : Nat) ∧ St w wr [(P1, 28, [.bool b, .slice A1 n1 c1, .bool d, .slice B1 m1 e1]), (w.heap.size, 28, [.bool false, .slice none 0 0, .bool false, .slice none 0 0])] [fun w => RatRep w (.agg #[.bool b, .slice A1 n1 c1, .bool d, .slice B1 m1 e1]) (minL (qs.take k))]) (fun i _ => qs.length - (intOf i).toNat)
  case atStart => exact ⟨1, b3, A3, n3, c3, d3, B3, m3, e3, by omega, by omega, rfl, by rw [HQ0.out]; exact S⟩
  case round =>
    clear S
    obtain ⟨k, b, A1, n1, c1, d, B1, m1, e1, hk0, hkd, rfl, S⟩ := hrel
    have hsz := szR_min HZ.out k hk0 hkd
    clear HC0 HX0 HQ0
    by_cases hlt : k < qs.length
    · obtain ⟨q, hq⟩ : ∃ q, qs[k]? = some q := ⟨_, List.getElem?_eq_getElem hlt⟩
      obtain ⟨B', o', x0, x1, x2, x3, hBo, hc, hx⟩ := HR.out.get lasts_num hq
      cases hBo
      have hX := hx wr S.k
      obtain ⟨bx, Ax, nx, cx, dx, Bx, mx, ex, he⟩ := hX.open_
      cases he
      have HC := Lib.hid hc
      replace S := S.addR hX
      have hqs : qs[k] = q := by rw [List.getElem?_eq_getElem hlt] at hq; exact Option.some.inj hq
      have hq8 : szR q ≤ 100 := by rw [← hqs]; exact HZ.out _ (List.getElem_mem _)
      have hs2 := minL_take hk0 hlt
      rw [hqs] at hs2
      generalize minL (qs.take k) = u0 at *
      have HT2 := Lib.hid (show cmpR q u0 < 0 → minL (qs.take (k + 1)) = q from fun h => by rw [hs2, if_pos ((cmpR_lt q u0).1 h)])
      have HF2 := Lib.hid (show ¬ cmpR q u0 < 0 → minL (qs.take (k + 1)) = u0 from fun h => by rw [hs2, if_neg (fun h2 => h ((cmpR_lt q u0).2 h2))])
      have hkI : (k : Int) ≤ 8 := by omega
      clear hs2 hqs hq hc hx hX
      obtain ⟨s1, hs1⟩ : ∃ s, cmpR q u0 = s := ⟨_, rfl⟩
      have t1 : decide ((k : Int) < (qs.length : Int)) = true := by exact decide_eq_true (by omega)
      have HS1 := Lib.hid hs1
      clear hs1
      go_upto_region 7 with fail
      refine wp_region_steps (m := 6) rfl (by kernel_rfl) (fun iΦ vΦ wΦ => (List.getD [fun vΦ _ => vΦ = .slice (some ⟨B, o, none⟩) qs.length c, fun vΦ _ => vΦ = .int .i64 (k : Int), fun vΦ _ => vΦ = .pointer (some ⟨B, o + k * 4, none⟩), fun vΦ _ => vΦ = .agg #[.bool bx, .slice Ax nx cx, .bool dx, .slice Bx mx ex], fun vΦ _ => vΦ = .agg #[.bool b, .slice A1 n1 c1, .bool d, .slice B1 m1 e1], fun vΦ _ => vΦ = .int .i64 s1] iΦ (fun _ _ => True)) vΦ wΦ) [] ?_ ?_ ?_
      · intro i v w w' _ h hk
        refine stabL_get ?_ i v w w' h hk
        exact stab_cons st_e (stab_cons st_e (stab_cons st_e (stab_cons st_e (stab_cons st_e (stab_cons st_e stab_nil)))))
      · intro i hi vs w3 hk3 hd
        have S3 := S.drew.below hk3
        obtain ⟨g0, g1, g2, g3⟩ := HC.out w3 S3.k
        have a0 := S3.c 0 0 rfl rfl
        have a1 := S3.c 0 1 rfl rfl
        have a2 := S3.c 0 2 rfl rfl
        have a3 := S3.c 0 3 rfl rfl
        match i, hi with
        | 0, _ =>
          refine step_val0 [] (fun vΦ _ => vΦ = .slice (some ⟨B, o, none⟩) qs.length c) rfl (by kernel_rfl) rfl (fun _ _ h => h) rfl fun K hK => ?_; clear hd; simp only [frD] at hK ⊢; go_simp
          exact hK _ _ (Below.refl _ _) rfl
        | 1, _ =>
          refine step_val0 [] (fun vΦ _ => vΦ = .int .i64 (k : Int)) rfl (by kernel_rfl) rfl (fun _ _ h => h) rfl fun K hK => ?_; clear hd; simp only [frD] at hK ⊢; go_simp
          exact hK _ _ (Below.refl _ _) rfl
        | 2, _ =>
          have qe0 : (vs 0) = .slice (some ⟨B, o, none⟩) qs.length c := hd 0 (cm (by kernel_rfl)); have qe1 : (vs 1) = .int .i64 (k : Int) := hd 1 (cm (by kernel_rfl))
          refine step_val0 [(0, some 20), (1, some 21)] (fun vΦ _ => vΦ = .pointer (some ⟨B, o + k * 4, none⟩)) rfl (by kernel_rfl) rfl (fun _ _ h => h) rfl fun K hK => ?_; clear hd; simp only [frD, qe0, qe1] at hK ⊢; go_simp
          exact hK _ _ (Below.refl _ _) rfl
        | 3, _ =>
          have qe2 : (vs 2) = .pointer (some ⟨B, o + k * 4, none⟩) := hd 2 (cm (by kernel_rfl))
          refine step_val0 [(2, some 22)] (fun vΦ _ => vΦ = .agg #[.bool bx, .slice Ax nx cx, .bool dx, .slice Bx mx ex]) rfl (by kernel_rfl) rfl (fun _ _ h => h) rfl fun K hK => ?_; clear hd; simp only [frD, qe2] at hK ⊢; go_simp
          exact hK _ _ (Below.refl _ _) rfl
        | 4, _ =>
          refine step_val0 [] (fun vΦ _ => vΦ = .agg #[.bool b, .slice A1 n1 c1, .bool d, .slice B1 m1 e1]) rfl (by kernel_rfl) rfl (fun _ _ h => h) rfl fun K hK => ?_; clear hd; simp only [frD] at hK ⊢; go_simp
          exact hK _ _ (Below.refl _ _) rfl
        | 5, _ =>
          have qe3 : (vs 3) = .agg #[.bool bx, .slice Ax nx cx, .bool dx, .slice Bx mx ex] := hd 3 (cm (by kernel_rfl)); have qe4 : (vs 4) = .agg #[.bool b, .slice A1 n1 c1, .bool d, .slice B1 m1 e1] := hd 4 (cm (by kernel_rfl))
          refine step_call (F := 43) (X := .func (.func 43) #[] #[]) (A := #[(vs 3), (vs 4)]) (B := #[.agg #[.bool bx, .slice Ax nx cx, .bool dx, .slice Bx mx ex], .agg #[.bool b, .slice A1 n1 c1, .bool d, .slice B1 m1 e1]]) [(3, some 23), (4, some 24)] (fun vΦ _ => vΦ = .int .i64 s1) rfl (by kernel_rfl) (fun _ _ h => h) rfl (wanted_none rfl) rfl rfl (by kernel_rfl) rfl (by kernel_rfl) (by rw [qe3, qe4]) Tryz.func43 (by kernel_rfl) (by kernel_rfl) ?_
          refine ((gcompare_s (S3.ri 0 rfl) ((S3.qi 1 rfl).num (by omega)) (by omega) HS1.out)).mono ?_; rintro e w4 ⟨rfl, hk4⟩; exact ⟨_, rfl, hk4, rfl⟩
        | i + 6, hi => exact absurd hi (by omega)
      · intro vs W31 hk3 hΦ _
        simp only [List.drop_succ_cons, List.drop_zero]
        rw [fr_frD, show (List.range 6).map _ = [(0, some 20), (1, some 21), (2, some 22), (3, some 23), (4, some 24), (5, some 25)] by kernel_rfl]
        have pd0 : (vs 0) = .slice (some ⟨B, o, none⟩) qs.length c := hΦ 0 (by decide)
        have pd1 : (vs 1) = .int .i64 (k : Int) := hΦ 1 (by decide)
        have pd2 : (vs 2) = .pointer (some ⟨B, o + k * 4, none⟩) := hΦ 2 (by decide)
        have pd3 : (vs 3) = .agg #[.bool bx, .slice Ax nx cx, .bool dx, .slice Bx mx ex] := hΦ 3 (by decide)
        have pd4 : (vs 4) = .agg #[.bool b, .slice A1 n1 c1, .bool d, .slice B1 m1 e1] := hΦ 4 (by decide)
        have pd5 : (vs 5) = .int .i64 s1 := hΦ 5 (by decide)
        clear hΦ
        simp only [frD, pd0, pd1, pd2, pd3, pd4, pd5]
        simp only [Act.put, List.setIfInBounds_toArray, List.set_cons_zero, List.set_cons_succ]
        clear pd0 pd1 pd2 pd3 pd4 pd5
        replace S := S.drew.below hk3
        clear hk3
        rcases Bool.eq_false_or_eq_true (decide (s1 < 0)) with t2 | t2
        · skip
          obtain ⟨g0, g1, g2, g3⟩ := HC.out _ S.k
          go_wp2_with fail
          refine ((gvalue_num (S.ri 0 rfl))).mono ?_
          rintro e W32 ⟨U32, rfl, hp, hk⟩
          obtain ⟨b33, A33, n33, c33, d33, B33, m33, e33, rfl⟩ := hp.open_
          replace S := (S.below hk).addQ hp
          clear hk hp
          have r1_0 := S.c 0 0 rfl rfl
          have f1_0 := S.f 0 0 rfl
          have r1_1 := S.c 0 1 rfl rfl
          have f1_1 := S.f 0 1 rfl
          have r1_2 := S.c 0 2 rfl rfl
          have f1_2 := S.f 0 2 rfl
          have r1_3 := S.c 0 3 rfl rfl
          have f1_3 := S.f 0 3 rfl
          go_wp2
          replace S := (S.put4 0 rfl rfl rfl (x' := .bool b33) (y' := .slice A33 n33 c33) (z' := .bool d33) (u' := .slice B33 m33 e33))
          clear r1_0 f1_0 r1_1 f1_1 r1_2 f1_2 r1_3 f1_3
          go_roundw
          case rel => exact ⟨k + 1, b33, A33, n33, c33, d33, B33, m33, e33, by omega, by omega, by go_num, by rw [HT2.out (by rw [HS1.out]; exact of_decide_eq_true t2)]; exact S.onlyL.addQ (S.qi 0 rfl)⟩
          case measure => simp [intOf]; omega
        · skip
          go_wp2
          go_roundw
          case rel => exact ⟨k + 1, b, A1, n1, c1, d, B1, m1, e1, by omega, by omega, by go_num, by rw [HF2.out (by rw [HS1.out]; exact of_decide_eq_false t2)]; exact S.onlyL.addQ (S.qi 1 rfl)⟩
          case measure => simp [intOf]; omega
    · have HEQ := Lib.hid (show minL qs = minL (qs.take k) by rw [List.take_of_length_le (by omega)])
      generalize minL (qs.take k) = u0 at *
      have t1 : decide ((k : Int) < (qs.length : Int)) = false := by exact decide_eq_false (by omega)
      have r0_0 := S.c 1 0 rfl rfl
      have f0_0 := S.f 1 0 rfl
      have r0_1 := S.c 1 1 rfl rfl
      have f0_1 := S.f 1 1 rfl
      have r0_2 := S.c 1 2 rfl rfl
      have f0_2 := S.f 1 2 rfl
      have r0_3 := S.c 1 3 rfl rfl
      have f0_3 := S.f 1 3 rfl
      have r1_0 := S.c 0 0 rfl rfl
      have r1_1 := S.c 0 1 rfl rfl
      have r1_2 := S.c 0 2 rfl rfl
      have r1_3 := S.c 0 3 rfl rfl
      go_wp2
      replace S := (S.put4 1 rfl rfl rfl (x' := .bool b) (y' := .slice A1 n1 c1) (z' := .bool d) (u' := .slice B1 m1 e1))
      refine bodyPost_ret (v := .tuple #[.agg #[.bool b, .slice A1 n1 c1, .bool d, .slice B1 m1 e1], .int .i64 0]) (by simp [results, Tryz.results70, go_sem, S.c 1 0 rfl rfl, S.c 1 1 rfl rfl, S.c 1 2 rfl rfl, S.c 1 3 rfl rfl]) rfl ?_
      exact ⟨_, rfl, by rw [HEQ.out, if_pos rfl]; exact S.qi 0 rfl, S.k⟩
end Go.Proofs.YtmochehkkadjnaaGreatDoor

namespace Go.Proofs.YtmochehkkadjnaaGreatDoor
open Go.RowKit Go.Shelf

theorem cmpR_b (x y : Rat) : -1 ≤ cmpR x y ∧ cmpR x y ≤ 1 := by
  unfold cmpR
  generalize x.num * (y.den : Int) - y.num * (x.den : Int) = z
  rcases Int.lt_trichotomy z 0 with h | h | h
  · rw [Int.sign_eq_neg_one_of_neg h]; omega
  · rw [h]; decide
  · rw [Int.sign_eq_one_of_pos h]; omega
def maxL : List Rat → Rat
  | [] => 0
  | q :: r => r.foldl (fun b x => if b < x then x else b) q
theorem maxL_snoc {l : List Rat} (h : l ≠ []) (q : Rat) : maxL (l ++ [q]) = if maxL l < q then q else maxL l := by
  cases l with
  | nil => exact absurd rfl h
  | cons a r =>
    show List.foldl _ a (r ++ [q]) = _
    rw [List.foldl_append]; rfl
theorem maxL_take {l : List Rat} {k : Nat} (h0 : 0 < k) (h : k < l.length) : maxL (l.take (k + 1)) = if maxL (l.take k) < l[k] then l[k] else maxL (l.take k) := by
  rw [List.take_succ_eq_append_getElem h]
  refine maxL_snoc (fun e => ?_) _
  have := congrArg List.length e
  rw [List.length_take, List.length_nil] at this
  omega
theorem szR_max {l : List Rat} {m : Nat} (h : ∀ q ∈ l, szR q ≤ m) : ∀ k, 0 < k → k ≤ l.length → szR (maxL (l.take k)) ≤ m
  | 0, h0, _ => absurd h0 (by omega)
  | 1, _, hk => by
    cases l with
    | nil => simp at hk
    | cons a r => exact h a List.mem_cons_self
  | k + 2, _, hk => by
    rw [maxL_take (by omega) (by omega)]
    split
    · exact h _ (List.getElem_mem _)
    · exact szR_max h (k + 1) (by omega) (by omega)
theorem shift4 (o k : Nat) : o + (k + 1) * 4 = o + 4 + k * 4 := by omega
set_option maxRecDepth 100000 in
set_option maxHeartbeats 1000000 in
theorem extL_0 {w : World} {A : Option Addr} {n c : Nat} (hn : n = 0) : Calls Tryz.prog 122 #[.int .i64 1, .slice A n c] w (RCode 6 0 w) := by
  have t1 : ((n : Int) == 0) = true := by subst hn; rfl
  have S := (St.start w)
  go_enter Tryz.func122, Tryz.ntmps122
  go_wp2
  replace S := (S.alloc 28 [.bool false, .slice none 0 0, .bool false, .slice none 0 0])
  obtain ⟨W99, eW, S⟩ := S.pack
  rw [eW]
  clear eW
  refine bodyPost_ret (v := .tuple #[.agg #[.bool false, .slice none 0 0, .bool false, .slice none 0 0], .int .i64 6]) (by simp [results, Tryz.results122, go_sem, S.c 0 0 rfl rfl, S.c 0 1 rfl rfl, S.c 0 2 rfl rfl, S.c 0 3 rfl rfl]) rfl ?_
  exact ⟨_, rfl, by rw [if_neg (by decide)]; rfl, S.k⟩
set_option maxRecDepth 100000 in
set_option maxHeartbeats 1000000 in
theorem extL_any {w : World} {B o m cc : Nat} {qs : List Rat} {q0 : Rat} {bx dx : Bool} {Ax Bx : Option Addr} {nx cx mx ex : Nat} (hr : Row4 RatRep w (some ⟨B, o, none⟩) qs) (hz : ∀ q ∈ qs, szR q ≤ 100) (hm : qs.length = m + 1) (hcc : ¬ cc = 0) (hm8 : m ≤ 8) (hq0 : minL (qs.take 1) = q0) (hc : ∀ W, Keeps w W → W.cell? ⟨B, o, none⟩ = some (.bool bx) ∧ W.cell? ⟨B, o + 1, none⟩ = some (.slice Ax nx cx) ∧ W.cell? ⟨B, o + 2, none⟩ = some (.bool dx) ∧ W.cell? ⟨B, o + 3, none⟩ = some (.slice Bx mx ex)) (hx : RatRep w (.agg #[.bool bx, .slice Ax nx cx, .bool dx, .slice Bx mx ex]) q0) : Calls Tryz.prog 122 #[.int .i64 1, .slice (some ⟨B, o, none⟩) (m + 1) (cc + 1)] w (RCode 0 (minL qs) w) := by
  have HR := Lib.hid hr
  have HZ := Lib.hid hz
  have HM := Lib.hid hm
  have HQ0 := Lib.hid hq0
  have HC0 := Lib.hid hc
  have HX0 := Lib.hid hx
  clear hr hz hq0 hc hx hm
  have t1 : (((m : Int) + 1) == 0) = false := by exact beq_eq_false_iff_ne.2 (by omega)
  have S := (St.start w)
  go_enter Tryz.func122, Tryz.ntmps122
  go_upto_region 3 with fail
  replace S := (S.alloc 28 [.bool false, .slice none 0 0, .bool false, .slice none 0 0])
  obtain ⟨W1, eW, S⟩ := S.pack
  rw [eW]
  clear eW
  obtain ⟨g0, g1, g2, g3⟩ := HC0.out _ S.k
  go_wp2
  replace S := (S.alloc 28 [.bool bx, .slice Ax nx cx, .bool dx, .slice Bx mx ex])
  obtain ⟨W2, eW, S⟩ := S.pack
  rw [eW]
  clear eW
  generalize W1.heap.size = P1 at *
  replace S := S.addQ (HX0.out.below S.k)
  go_loopw [19] (fun i wr => ∃ (k : Nat) (b : Bool) (A1 : Option Addr) (n1 c1 : Nat) (d : Bool) (B1 : Option Addr) (m1 e1 : Nat), k ≤ m ∧ i = .int .i64 (k : Nat) ∧ St w wr [(P1, 28, [.bool b, .slice A1 n1 c1, .bool d, .slice B1 m1 e1]), (w.heap.size, 28, [.bool false, .slice none 0 0, .bool false, .slice none 0 0])] [fun w => RatRep w (.agg #[.bool b, .slice A1 n1 c1, .bool d, .slice B1 m1 e1]) (minL (qs.take (k + 1)))]) (fun i _ => m - (intOf i).toNat)
  case atStart => exact ⟨0, bx, Ax, nx, cx, dx, Bx, mx, ex, Nat.zero_le _, rfl, by rw [HQ0.out]; exact S⟩
  case round =>
    clear S
    clear HC0 HX0 HQ0
    obtain ⟨k, b, A1, n1, c1, d, B1, m1, e1, hkd, rfl, S⟩ := hrel
    have hsz := szR_min HZ.out (k + 1) (by omega) (by have := HM.out; omega)
    by_cases hlt : k < m
    · have hlt' : k + 1 < qs.length := by have := HM.out; omega
      obtain ⟨q, hq⟩ : ∃ q, qs[k + 1]? = some q := ⟨_, List.getElem?_eq_getElem hlt'⟩
      obtain ⟨B', o', x0, x1, x2, x3, hBo, hc, hx⟩ := HR.out.get lasts_rep hq
      cases hBo
      rw [shift4] at hc
      have hX := hx wr S.k
      obtain ⟨bx, Ax, nx, cx, dx, Bx, mx, ex, he⟩ := hX.open_
      cases he
      obtain ⟨g0, g1, g2, g3⟩ := hc wr S.k
      replace S := S.addQ hX
      have hqs : qs[k + 1] = q := by rw [List.getElem?_eq_getElem hlt'] at hq; exact Option.some.inj hq
      have hq8 : szR q ≤ 100 := by rw [← hqs]; exact HZ.out _ (List.getElem_mem _)
      have hs2 := minL_take (Nat.succ_pos k) hlt'
      rw [hqs] at hs2
      generalize minL (qs.take (k + 1)) = u0 at *
      have HT2 := Lib.hid (show cmpR q u0 < 0 → minL (qs.take (k + 1 + 1)) = q from fun h => by rw [hs2, if_pos ((cmpR_lt q u0).1 h)])
      have HF2 := Lib.hid (show 0 ≤ cmpR q u0 → minL (qs.take (k + 1 + 1)) = u0 from fun h => by rw [hs2, if_neg (fun h2 => by have := (cmpR_lt q u0).2 h2; omega)])
      have hkI : (k : Int) ≤ 8 := by omega
      clear hs2 hqs hq hc hx hX
      obtain ⟨s1, hs1⟩ : ∃ s, cmpR q u0 = s := ⟨_, rfl⟩
      have t1 : decide ((k : Int) < (m : Int)) = true := by exact decide_eq_true (by omega)
      have HS1 := Lib.hid hs1
      clear hs1
      have hbd := cmpR_b q u0
      rw [HS1.out] at hbd
      have bnd1 : -1 ≤ s1 := hbd.1
      have bnd2 : s1 ≤ 1 := hbd.2
      have w1 : IntKind.i64.wrap s1 = s1 := IntWalk.i64_in _ (by omega)
      have w2 : IntKind.i64.wrap (-s1) = -s1 := IntWalk.i64_in _ (by omega)
      have w3 : IntKind.i64.wrap (-1 * s1) = -s1 := by rw [IntWalk.i64_in _ (by omega)]; omega
      clear hbd
      go_upto_region 7 with fail
      replace S := (S.alloc 28 [.bool bx, .slice Ax nx cx, .bool dx, .slice Bx mx ex])
      obtain ⟨W31, eW, S⟩ := S.pack
      rw [eW]
      clear eW
      generalize wr.heap.size = P31 at *
      have r1_0 := S.c 1 0 rfl rfl
      have r1_1 := S.c 1 1 rfl rfl
      have r1_2 := S.c 1 2 rfl rfl
      have r1_3 := S.c 1 3 rfl rfl
      have r2_0 := S.c 0 0 rfl rfl
      have r2_1 := S.c 0 1 rfl rfl
      have r2_2 := S.c 0 2 rfl rfl
      have r2_3 := S.c 0 3 rfl rfl
      go_wp2_with fail
      refine ((fcompare_s ((S.qi 0 rfl).num (by omega)) ((S.qi 1 rfl).num (by omega)) HS1.out)).mono ?_
      rintro e W32 ⟨rfl, hk⟩
      replace S := S.below hk
      clear hk
      clear r1_0 r1_1 r1_2 r1_3 r2_0 r2_1 r2_2 r2_3
      rcases Bool.eq_false_or_eq_true ((decide (s1 < 0))) with t2 | t2
      · skip
        have r1_0 := S.c 1 0 rfl rfl
        have f1_0 := S.f 1 0 rfl
        have r1_1 := S.c 1 1 rfl rfl
        have f1_1 := S.f 1 1 rfl
        have r1_2 := S.c 1 2 rfl rfl
        have f1_2 := S.f 1 2 rfl
        have r1_3 := S.c 1 3 rfl rfl
        have f1_3 := S.f 1 3 rfl
        have r2_0 := S.c 0 0 rfl rfl
        have r2_1 := S.c 0 1 rfl rfl
        have r2_2 := S.c 0 2 rfl rfl
        have r2_3 := S.c 0 3 rfl rfl
        go_wp2
        replace S := (S.put4 1 rfl rfl rfl (x' := .bool bx) (y' := .slice Ax nx cx) (z' := .bool dx) (u' := .slice Bx mx ex))
        clear r1_0 f1_0 r1_1 f1_1 r1_2 f1_2 r1_3 f1_3 r2_0 r2_1 r2_2 r2_3
        go_roundw
        case rel => exact ⟨k + 1, bx, Ax, nx, cx, dx, Bx, mx, ex, by omega, by go_num, by rw [HT2.out (by rw [HS1.out]; exact of_decide_eq_true t2)]; exact S.dropb.onlyL.addQ (S.qi 0 rfl)⟩
        case measure => simp [intOf]; omega
      · skip
        go_wp2
        go_roundw
        case rel => exact ⟨k + 1, b, A1, n1, c1, d, B1, m1, e1, by omega, by go_num, by rw [HF2.out (by rw [HS1.out]; have := of_decide_eq_false t2; omega)]; exact S.dropb.onlyL.addQ (S.qi 1 rfl)⟩
        case measure => simp [intOf]; omega
    · have HEQ := Lib.hid (show minL qs = minL (qs.take (k + 1)) by rw [List.take_of_length_le (by have := HM.out; omega)])
      generalize minL (qs.take (k + 1)) = u0 at *
      have t1 : decide ((k : Int) < (m : Int)) = false := by exact decide_eq_false (by omega)
      have r0_0 := S.c 1 0 rfl rfl
      have f0_0 := S.f 1 0 rfl
      have r0_1 := S.c 1 1 rfl rfl
      have f0_1 := S.f 1 1 rfl
      have r0_2 := S.c 1 2 rfl rfl
      have f0_2 := S.f 1 2 rfl
      have r0_3 := S.c 1 3 rfl rfl
      have f0_3 := S.f 1 3 rfl
      have r1_0 := S.c 0 0 rfl rfl
      have r1_1 := S.c 0 1 rfl rfl
      have r1_2 := S.c 0 2 rfl rfl
      have r1_3 := S.c 0 3 rfl rfl
      go_wp2
      replace S := (S.put4 1 rfl rfl rfl (x' := .bool b) (y' := .slice A1 n1 c1) (z' := .bool d) (u' := .slice B1 m1 e1))
      refine bodyPost_ret (v := .tuple #[.agg #[.bool b, .slice A1 n1 c1, .bool d, .slice B1 m1 e1], .int .i64 0]) (by simp [results, Tryz.results122, go_sem, S.c 1 0 rfl rfl, S.c 1 1 rfl rfl, S.c 1 2 rfl rfl, S.c 1 3 rfl rfl]) rfl ?_
      exact ⟨_, rfl, by rw [HEQ.out, if_pos rfl]; exact S.qi 0 rfl, S.k⟩
set_option maxRecDepth 100000 in
set_option maxHeartbeats 1000000 in
theorem extG_0 {w : World} {A : Option Addr} {n c : Nat} (hn : n = 0) : Calls Tryz.prog 122 #[.int .i64 (-1), .slice A n c] w (RCode 6 0 w) := by
  have t1 : ((n : Int) == 0) = true := by subst hn; rfl
  have S := (St.start w)
  go_enter Tryz.func122, Tryz.ntmps122
  go_wp2
  replace S := (S.alloc 28 [.bool false, .slice none 0 0, .bool false, .slice none 0 0])
  obtain ⟨W99, eW, S⟩ := S.pack
  rw [eW]
  clear eW
  refine bodyPost_ret (v := .tuple #[.agg #[.bool false, .slice none 0 0, .bool false, .slice none 0 0], .int .i64 6]) (by simp [results, Tryz.results122, go_sem, S.c 0 0 rfl rfl, S.c 0 1 rfl rfl, S.c 0 2 rfl rfl, S.c 0 3 rfl rfl]) rfl ?_
  exact ⟨_, rfl, by rw [if_neg (by decide)]; rfl, S.k⟩
set_option maxRecDepth 100000 in
set_option maxHeartbeats 1000000 in
theorem extG_any {w : World} {B o m cc : Nat} {qs : List Rat} {q0 : Rat} {bx dx : Bool} {Ax Bx : Option Addr} {nx cx mx ex : Nat} (hr : Row4 RatRep w (some ⟨B, o, none⟩) qs) (hz : ∀ q ∈ qs, szR q ≤ 100) (hm : qs.length = m + 1) (hcc : ¬ cc = 0) (hm8 : m ≤ 8) (hq0 : maxL (qs.take 1) = q0) (hc : ∀ W, Keeps w W → W.cell? ⟨B, o, none⟩ = some (.bool bx) ∧ W.cell? ⟨B, o + 1, none⟩ = some (.slice Ax nx cx) ∧ W.cell? ⟨B, o + 2, none⟩ = some (.bool dx) ∧ W.cell? ⟨B, o + 3, none⟩ = some (.slice Bx mx ex)) (hx : RatRep w (.agg #[.bool bx, .slice Ax nx cx, .bool dx, .slice Bx mx ex]) q0) : Calls Tryz.prog 122 #[.int .i64 (-1), .slice (some ⟨B, o, none⟩) (m + 1) (cc + 1)] w (RCode 0 (maxL qs) w) := by
  have HR := Lib.hid hr
  have HZ := Lib.hid hz
  have HM := Lib.hid hm
  have HQ0 := Lib.hid hq0
  have HC0 := Lib.hid hc
  have HX0 := Lib.hid hx
  clear hr hz hq0 hc hx hm
  have t1 : (((m : Int) + 1) == 0) = false := by exact beq_eq_false_iff_ne.2 (by omega)
  have S := (St.start w)
  go_enter Tryz.func122, Tryz.ntmps122
  go_upto_region 3 with fail
  replace S := (S.alloc 28 [.bool false, .slice none 0 0, .bool false, .slice none 0 0])
  obtain ⟨W1, eW, S⟩ := S.pack
  rw [eW]
  clear eW
  obtain ⟨g0, g1, g2, g3⟩ := HC0.out _ S.k
  go_wp2
  replace S := (S.alloc 28 [.bool bx, .slice Ax nx cx, .bool dx, .slice Bx mx ex])
  obtain ⟨W2, eW, S⟩ := S.pack
  rw [eW]
  clear eW
  generalize W1.heap.size = P1 at *
  replace S := S.addQ (HX0.out.below S.k)
  go_loopw [19] (fun i wr => ∃ (k : Nat) (b : Bool) (A1 : Option Addr) (n1 c1 : Nat) (d : Bool) (B1 : Option Addr) (m1 e1 : Nat), k ≤ m ∧ i = .int .i64 (k : Nat) ∧ St w wr [(P1, 28, [.bool b, .slice A1 n1 c1, .bool d, .slice B1 m1 e1]), (w.heap.size, 28, [.bool false, .slice none 0 0, .bool false, .slice none 0 0])] [fun w => RatRep w (.agg #[.bool b, .slice A1 n1 c1, .bool d, .slice B1 m1 e1]) (maxL (qs.take (k + 1)))]) (fun i _ => m - (intOf i).toNat)
  case atStart => exact ⟨0, bx, Ax, nx, cx, dx, Bx, mx, ex, Nat.zero_le _, rfl, by rw [HQ0.out]; exact S⟩
  case round =>
    clear S
    clear HC0 HX0 HQ0
    obtain ⟨k, b, A1, n1, c1, d, B1, m1, e1, hkd, rfl, S⟩ := hrel
    have hsz := szR_max HZ.out (k + 1) (by omega) (by have := HM.out; omega)
    by_cases hlt : k < m
    · have hlt' : k + 1 < qs.length := by have := HM.out; omega
      obtain ⟨q, hq⟩ : ∃ q, qs[k + 1]? = some q := ⟨_, List.getElem?_eq_getElem hlt'⟩
      obtain ⟨B', o', x0, x1, x2, x3, hBo, hc, hx⟩ := HR.out.get lasts_rep hq
      cases hBo
      rw [shift4] at hc
      have hX := hx wr S.k
      obtain ⟨bx, Ax, nx, cx, dx, Bx, mx, ex, he⟩ := hX.open_
      cases he
      obtain ⟨g0, g1, g2, g3⟩ := hc wr S.k
      replace S := S.addQ hX
      have hqs : qs[k + 1] = q := by rw [List.getElem?_eq_getElem hlt'] at hq; exact Option.some.inj hq
      have hq8 : szR q ≤ 100 := by rw [← hqs]; exact HZ.out _ (List.getElem_mem _)
      have hs2 := maxL_take (Nat.succ_pos k) hlt'
      rw [hqs] at hs2
      generalize maxL (qs.take (k + 1)) = u0 at *
      have HT2 := Lib.hid (show 0 < cmpR q u0 → maxL (qs.take (k + 1 + 1)) = q from fun h => by rw [hs2, if_pos ((cmpR_pos q u0).1 h)])
      have HF2 := Lib.hid (show cmpR q u0 ≤ 0 → maxL (qs.take (k + 1 + 1)) = u0 from fun h => by rw [hs2, if_neg (fun h2 => by have := (cmpR_pos q u0).2 h2; omega)])
      have hkI : (k : Int) ≤ 8 := by omega
      clear hs2 hqs hq hc hx hX
      obtain ⟨s1, hs1⟩ : ∃ s, cmpR q u0 = s := ⟨_, rfl⟩
      have t1 : decide ((k : Int) < (m : Int)) = true := by exact decide_eq_true (by omega)
      have HS1 := Lib.hid hs1
      clear hs1
      have hbd := cmpR_b q u0
      rw [HS1.out] at hbd
      have bnd1 : -1 ≤ s1 := hbd.1
      have bnd2 : s1 ≤ 1 := hbd.2
      have w1 : IntKind.i64.wrap s1 = s1 := IntWalk.i64_in _ (by omega)
      have w2 : IntKind.i64.wrap (-s1) = -s1 := IntWalk.i64_in _ (by omega)
      have w3 : IntKind.i64.wrap (-1 * s1) = -s1 := by rw [IntWalk.i64_in _ (by omega)]; omega
      clear hbd
      go_upto_region 7 with fail
      replace S := (S.alloc 28 [.bool bx, .slice Ax nx cx, .bool dx, .slice Bx mx ex])
      obtain ⟨W31, eW, S⟩ := S.pack
      rw [eW]
      clear eW
      generalize wr.heap.size = P31 at *
      have r1_0 := S.c 1 0 rfl rfl
      have r1_1 := S.c 1 1 rfl rfl
      have r1_2 := S.c 1 2 rfl rfl
      have r1_3 := S.c 1 3 rfl rfl
      have r2_0 := S.c 0 0 rfl rfl
      have r2_1 := S.c 0 1 rfl rfl
      have r2_2 := S.c 0 2 rfl rfl
      have r2_3 := S.c 0 3 rfl rfl
      go_wp2_with fail
      refine ((fcompare_s ((S.qi 0 rfl).num (by omega)) ((S.qi 1 rfl).num (by omega)) HS1.out)).mono ?_
      rintro e W32 ⟨rfl, hk⟩
      replace S := S.below hk
      clear hk
      clear r1_0 r1_1 r1_2 r1_3 r2_0 r2_1 r2_2 r2_3
      rcases Bool.eq_false_or_eq_true ((decide (0 < s1))) with t2 | t2
      · skip
        have r1_0 := S.c 1 0 rfl rfl
        have f1_0 := S.f 1 0 rfl
        have r1_1 := S.c 1 1 rfl rfl
        have f1_1 := S.f 1 1 rfl
        have r1_2 := S.c 1 2 rfl rfl
        have f1_2 := S.f 1 2 rfl
        have r1_3 := S.c 1 3 rfl rfl
        have f1_3 := S.f 1 3 rfl
        have r2_0 := S.c 0 0 rfl rfl
        have r2_1 := S.c 0 1 rfl rfl
        have r2_2 := S.c 0 2 rfl rfl
        have r2_3 := S.c 0 3 rfl rfl
        go_wp2
        replace S := (S.put4 1 rfl rfl rfl (x' := .bool bx) (y' := .slice Ax nx cx) (z' := .bool dx) (u' := .slice Bx mx ex))
        clear r1_0 f1_0 r1_1 f1_1 r1_2 f1_2 r1_3 f1_3 r2_0 r2_1 r2_2 r2_3
        go_roundw
        case rel => exact ⟨k + 1, bx, Ax, nx, cx, dx, Bx, mx, ex, by omega, by go_num, by rw [HT2.out (by rw [HS1.out]; have := of_decide_eq_true t2; omega)]; exact S.dropb.onlyL.addQ (S.qi 0 rfl)⟩
        case measure => simp [intOf]; omega
      · skip
        go_wp2
        go_roundw
        case rel => exact ⟨k + 1, b, A1, n1, c1, d, B1, m1, e1, by omega, by go_num, by rw [HF2.out (by rw [HS1.out]; have := of_decide_eq_false t2; omega)]; exact S.dropb.onlyL.addQ (S.qi 1 rfl)⟩
        case measure => simp [intOf]; omega
    · have HEQ := Lib.hid (show maxL qs = maxL (qs.take (k + 1)) by rw [List.take_of_length_le (by have := HM.out; omega)])
      generalize maxL (qs.take (k + 1)) = u0 at *
      have t1 : decide ((k : Int) < (m : Int)) = false := by exact decide_eq_false (by omega)
      have r0_0 := S.c 1 0 rfl rfl
      have f0_0 := S.f 1 0 rfl
      have r0_1 := S.c 1 1 rfl rfl
      have f0_1 := S.f 1 1 rfl
      have r0_2 := S.c 1 2 rfl rfl
      have f0_2 := S.f 1 2 rfl
      have r0_3 := S.c 1 3 rfl rfl
      have f0_3 := S.f 1 3 rfl
      have r1_0 := S.c 0 0 rfl rfl
      have r1_1 := S.c 0 1 rfl rfl
      have r1_2 := S.c 0 2 rfl rfl
      have r1_3 := S.c 0 3 rfl rfl
      go_wp2
      replace S := (S.put4 1 rfl rfl rfl (x' := .bool b) (y' := .slice A1 n1 c1) (z' := .bool d) (u' := .slice B1 m1 e1))
      refine bodyPost_ret (v := .tuple #[.agg #[.bool b, .slice A1 n1 c1, .bool d, .slice B1 m1 e1], .int .i64 0]) (by simp [results, Tryz.results122, go_sem, S.c 1 0 rfl rfl, S.c 1 1 rfl rfl, S.c 1 2 rfl rfl, S.c 1 3 rfl rfl]) rfl ?_
      exact ⟨_, rfl, by rw [HEQ.out, if_pos rfl]; exact S.qi 0 rfl, S.k⟩
set_option maxRecDepth 100000 in
set_option maxHeartbeats 1000000 in
theorem extL_1 {w : World} {B o : Nat} {q0 : Rat} {bx dx : Bool} {Ax Bx : Option Addr} {nx cx mx ex : Nat} (hc : ∀ W, Keeps w W → W.cell? ⟨B, o, none⟩ = some (.bool bx) ∧ W.cell? ⟨B, o + 1, none⟩ = some (.slice Ax nx cx) ∧ W.cell? ⟨B, o + 2, none⟩ = some (.bool dx) ∧ W.cell? ⟨B, o + 3, none⟩ = some (.slice Bx mx ex)) (hx : RatRep w (.agg #[.bool bx, .slice Ax nx cx, .bool dx, .slice Bx mx ex]) q0) : Calls Tryz.prog 122 #[.int .i64 1, .slice (some ⟨B, o, none⟩) 1 1] w (RCode 0 q0 w) := by
  have HC0 := Lib.hid hc
  have HX0 := Lib.hid hx
  clear hc hx
  have S := (St.start w)
  go_enter Tryz.func122, Tryz.ntmps122
  go_upto_region 3 with fail
  replace S := (S.alloc 28 [.bool false, .slice none 0 0, .bool false, .slice none 0 0])
  obtain ⟨W1, eW, S⟩ := S.pack
  rw [eW]
  clear eW
  obtain ⟨g0, g1, g2, g3⟩ := HC0.out _ S.k
  go_wp2
  replace S := (S.alloc 28 [.bool bx, .slice Ax nx cx, .bool dx, .slice Bx mx ex])
  obtain ⟨W2, eW, S⟩ := S.pack
  rw [eW]
  clear eW
  generalize W1.heap.size = P1 at *
  replace S := S.addQ (HX0.out.below S.k)
  go_loopw [19] (fun i wr => i = .int .i64 0 ∧ St w wr [(P1, 28, [.bool bx, .slice Ax nx cx, .bool dx, .slice Bx mx ex]), (w.heap.size, 28, [.bool false, .slice none 0 0, .bool false, .slice none 0 0])] [fun w => RatRep w (.agg #[.bool bx, .slice Ax nx cx, .bool dx, .slice Bx mx ex]) q0]) (fun _ _ => 0)
  case atStart => exact ⟨rfl, S⟩
  case round =>
    clear S
    clear HC0 HX0
    obtain ⟨rfl, S⟩ := hrel
    have r0_0 := S.c 1 0 rfl rfl
    have f0_0 := S.f 1 0 rfl
    have r0_1 := S.c 1 1 rfl rfl
    have f0_1 := S.f 1 1 rfl
    have r0_2 := S.c 1 2 rfl rfl
    have f0_2 := S.f 1 2 rfl
    have r0_3 := S.c 1 3 rfl rfl
    have f0_3 := S.f 1 3 rfl
    have r1_0 := S.c 0 0 rfl rfl
    have r1_1 := S.c 0 1 rfl rfl
    have r1_2 := S.c 0 2 rfl rfl
    have r1_3 := S.c 0 3 rfl rfl
    go_wp2
    replace S := (S.put4 1 rfl rfl rfl (x' := .bool bx) (y' := .slice Ax nx cx) (z' := .bool dx) (u' := .slice Bx mx ex))
    refine bodyPost_ret (v := .tuple #[.agg #[.bool bx, .slice Ax nx cx, .bool dx, .slice Bx mx ex], .int .i64 0]) (by simp [results, Tryz.results122, go_sem, S.c 1 0 rfl rfl, S.c 1 1 rfl rfl, S.c 1 2 rfl rfl, S.c 1 3 rfl rfl]) rfl ?_
    exact ⟨_, rfl, by rw [if_pos rfl]; exact S.qi 0 rfl, S.k⟩
set_option maxRecDepth 100000 in
set_option maxHeartbeats 1000000 in
theorem extG_1 {w : World} {B o : Nat} {q0 : Rat} {bx dx : Bool} {Ax Bx : Option Addr} {nx cx mx ex : Nat} (hc : ∀ W, Keeps w W → W.cell? ⟨B, o, none⟩ = some (.bool bx) ∧ W.cell? ⟨B, o + 1, none⟩ = some (.slice Ax nx cx) ∧ W.cell? ⟨B, o + 2, none⟩ = some (.bool dx) ∧ W.cell? ⟨B, o + 3, none⟩ = some (.slice Bx mx ex)) (hx : RatRep w (.agg #[.bool bx, .slice Ax nx cx, .bool dx, .slice Bx mx ex]) q0) : Calls Tryz.prog 122 #[.int .i64 (-1), .slice (some ⟨B, o, none⟩) 1 1] w (RCode 0 q0 w) := by
  have HC0 := Lib.hid hc
  have HX0 := Lib.hid hx
  clear hc hx
  have S := (St.start w)
  go_enter Tryz.func122, Tryz.ntmps122
  go_upto_region 3 with fail
  replace S := (S.alloc 28 [.bool false, .slice none 0 0, .bool false, .slice none 0 0])
  obtain ⟨W1, eW, S⟩ := S.pack
  rw [eW]
  clear eW
  obtain ⟨g0, g1, g2, g3⟩ := HC0.out _ S.k
  go_wp2
  replace S := (S.alloc 28 [.bool bx, .slice Ax nx cx, .bool dx, .slice Bx mx ex])
  obtain ⟨W2, eW, S⟩ := S.pack
  rw [eW]
  clear eW
  generalize W1.heap.size = P1 at *
  replace S := S.addQ (HX0.out.below S.k)
  go_loopw [19] (fun i wr => i = .int .i64 0 ∧ St w wr [(P1, 28, [.bool bx, .slice Ax nx cx, .bool dx, .slice Bx mx ex]), (w.heap.size, 28, [.bool false, .slice none 0 0, .bool false, .slice none 0 0])] [fun w => RatRep w (.agg #[.bool bx, .slice Ax nx cx, .bool dx, .slice Bx mx ex]) q0]) (fun _ _ => 0)
  case atStart => exact ⟨rfl, S⟩
  case round =>
    clear S
    clear HC0 HX0
    obtain ⟨rfl, S⟩ := hrel
    have r0_0 := S.c 1 0 rfl rfl
    have f0_0 := S.f 1 0 rfl
    have r0_1 := S.c 1 1 rfl rfl
    have f0_1 := S.f 1 1 rfl
    have r0_2 := S.c 1 2 rfl rfl
    have f0_2 := S.f 1 2 rfl
    have r0_3 := S.c 1 3 rfl rfl
    have f0_3 := S.f 1 3 rfl
    have r1_0 := S.c 0 0 rfl rfl
    have r1_1 := S.c 0 1 rfl rfl
    have r1_2 := S.c 0 2 rfl rfl
    have r1_3 := S.c 0 3 rfl rfl
    go_wp2
    replace S := (S.put4 1 rfl rfl rfl (x' := .bool bx) (y' := .slice Ax nx cx) (z' := .bool dx) (u' := .slice Bx mx ex))
    refine bodyPost_ret (v := .tuple #[.agg #[.bool bx, .slice Ax nx cx, .bool dx, .slice Bx mx ex], .int .i64 0]) (by simp [results, Tryz.results122, go_sem, S.c 1 0 rfl rfl, S.c 1 1 rfl rfl, S.c 1 2 rfl rfl, S.c 1 3 rfl rfl]) rfl ?_
    exact ⟨_, rfl, by rw [if_pos rfl]; exact S.qi 0 rfl, S.k⟩
end Go.Proofs.YtmochehkkadjnaaGreatDoor
