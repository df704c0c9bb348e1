/- The laws' helpers short, same, Zero; the reference's Abs, Divide. The walk of fraction.Abs. -/
import Derived.Test.YtmochehkkadjnaaGreatDoorKnown
import Derived.Test.YtmochehkkadjnaaGreatDoorMgSt2
namespace Go.Proofs.YtmochehkkadjnaaGreatDoor
open Go.RowKit Go.Shelf

theorem RatArg.open2 {w : World} {V : Value} {n1 n2 : Bool} {xs ys : List Nat} (h : RatArg w V n1 xs n2 ys) : ∃ A c B d, V = .agg #[.bool n1, .slice A xs.length c, .bool n2, .slice B ys.length d] := by
  obtain ⟨x, v, y, u, rfl, ⟨v1, e1, h1⟩, ⟨v2, e2, h2⟩⟩ := h
  cases e1; cases e2
  obtain ⟨A, n, c, rfl, rfl, -⟩ := h1.open_
  obtain ⟨B, m, d, rfl, rfl, -⟩ := h2.open_
  exact ⟨A, c, B, d, rfl⟩
/-- a law's argument: it counts q, and b says whether it is short -/
def RatS (w : World) (V : Value) (q : Rat) (b : Bool) : Prop :=
  ∃ n1 xs n2 ys, RatArg w V n1 xs n2 ys ∧ rcnt n1 xs n2 ys = q ∧ decide (xs.length + ys.length ≤ 8) = b ∧ xs.length ≤ 35184372088832 ∧ ys.length ≤ 35184372088832
section
variable {w w' w0 : World} {V : Value} {q : Rat} {b : Bool} {bs : List Bx} {ps : List (World → Prop)}
theorem RatArg.map {n1 n2 : Bool} {xs ys : List Nat} (h : RatArg w V n1 xs n2 ys) (hs : Same32 w w') : RatArg w' V n1 xs n2 ys := by
  obtain ⟨x, v, y, u, rfl, ⟨v1, e1, h1⟩, ⟨v2, e2, h2⟩⟩ := h
  exact ⟨_, _, _, _, rfl, ⟨v1, e1, hs _ _ h1⟩, ⟨v2, e2, hs _ _ h2⟩⟩
theorem RatS.map (h : RatS w V q b) (hs : Same32 w w') : RatS w' V q b := by
  obtain ⟨n1, xs, n2, ys, h, r⟩ := h
  exact ⟨n1, xs, n2, ys, h.map hs, r⟩
theorem RatS.num (h : RatS w V q true) : RatNum w V q := by
  obtain ⟨n1, xs, n2, ys, h, e, hb, -, -⟩ := h
  have := of_decide_eq_true hb
  exact ⟨n1, xs, n2, ys, h, e, by omega, by omega⟩
theorem RatS.sz (h : RatS w V q true) : szR q ≤ 8 := by
  obtain ⟨n1, xs, n2, ys, h, rfl, hb, -, -⟩ := h
  have := of_decide_eq_true hb
  have := szR_rcnt (n1 := n1) (xs := xs) (n2 := n2) (ys := ys)
  omega
theorem RatS.open_ (h : RatS w V q b) : ∃ b A n c d B m e, V = .agg #[.bool b, .slice A n c, .bool d, .slice B m e] := by
  obtain ⟨n1, xs, n2, ys, h, -⟩ := h
  obtain ⟨A, c, B, d, rfl⟩ := h.open2
  exact ⟨_, _, _, _, _, _, _, _, rfl⟩
theorem St.addL (S : St w0 w bs ps) (h : RatS w V q b) : St w0 w bs ((fun w => RatS w V q b) :: ps) := S.add (fun _ _ hs h => h.map hs) h
theorem St.li (S : St w0 w bs ps) (i : Nat) (h : ps[i]? = some (fun w => RatS w V q b)) : RatS w V q b := S.p.get h
end
set_option maxRecDepth 100000 in
theorem rdigs_any {w : World} {b d : Bool} {A B : Option Addr} {n m c e : Nat} (hn : n ≤ 35184372088832) (hm : m ≤ 35184372088832) :
    Calls Tryz.prog 91 #[.agg #[.bool b, .slice A n c, .bool d, .slice B m e]] w fun e w' => e = .returned (.int .i64 ((n : Int) + (m : Int))) ∧ Keeps w w' := by
  have S := (St.start w).alloc 28 [.bool b, .slice A n c, .bool d, .slice B m e]
  go_enter Tryz.func91, Tryz.ntmps91
  go_upto_region 1 with fail
  obtain ⟨W1, eW, S⟩ := S.pack
  rw [eW]
  clear eW
  have r0_1 := S.c 0 1 rfl rfl
  have r0_3 := S.c 0 3 rfl rfl
  go_wp2
  go_ret
  exact ⟨rfl, S.k⟩
set_option maxRecDepth 100000 in
theorem lshort_b {w : World} {V : Value} {q : Rat} {r : Bool} (h : RatS w V q r) : Calls Tryz.prog 28 #[V] w fun e w' => e = .returned (.bool r) ∧ Keeps w w' := by
  obtain ⟨n1, xs, n2, ys, h, -, hb, l1, l2⟩ := h
  obtain ⟨A, c, B, d, rfl⟩ := h.open2
  have S := (St.start w).alloc 28 [.bool n1, .slice A xs.length c, .bool n2, .slice B ys.length d]
  generalize xs.length = n at *
  generalize ys.length = m at *
  have t1 : decide ((n : Int) + (m : Int) ≤ 8) = r := by rw [← hb]; exact decide_eq_decide.2 (by omega)
  clear h hb
  go_enter Tryz.func28, Tryz.ntmps28
  go_upto_region 1 with fail
  obtain ⟨W1, eW, S⟩ := S.pack
  rw [eW]
  clear eW
  have r0_0 := S.c 0 0 rfl rfl
  have r0_1 := S.c 0 1 rfl rfl
  have r0_2 := S.c 0 2 rfl rfl
  have r0_3 := S.c 0 3 rfl rfl
  go_wp2_with fail
  refine (rdigs_any l1 l2).mono ?_
  rintro e W2 ⟨rfl, hk⟩
  replace S := S.below hk
  go_wp2
  go_ret
  exact ⟨rfl, S.k⟩
end Go.Proofs.YtmochehkkadjnaaGreatDoor

namespace Go.Proofs.YtmochehkkadjnaaGreatDoor
open Go.RowKit Go.Shelf

set_option maxRecDepth 100000 in
set_option maxHeartbeats 1000000 in
theorem fabs_num {w : World} {V1 : Value} {x : Rat} (h1 : RatNum w V1 x) : Calls Tryz.prog 64 #[V1] w (RGives (absR x) w) := by
  obtain ⟨b3, A3, n3, c3, d3, B3, m3, e3, rfl⟩ := h1.open_
  have z0 := h1.sz
  have zn := szR_num z0
  have S := ((St.start w).addR h1)
  clear h1
  go_enter Tryz.func64, Tryz.ntmps64
  go_upto_region 1 with fail
  replace S := ((S.alloc 28 [.bool b3, .slice A3 n3 c3, .bool d3, .slice B3 m3 e3]).alloc 28 [.bool false, .slice none 0 0, .bool false, .slice none 0 0])
  simp only [World.size_alloc] at S
  obtain ⟨W1, eW, S⟩ := S.pack
  rw [eW]
  clear eW
  have r0_0 := S.c 1 0 rfl rfl
  have r0_1 := S.c 1 1 rfl rfl
  have r0_2 := S.c 1 2 rfl rfl
  have r0_3 := S.c 1 3 rfl rfl
  go_wp2_with fail
  refine ((fvalue_num (S.ri 0 rfl))).mono ?_
  rintro e W2 ⟨U2, rfl, hp, hk⟩
  obtain ⟨b4, A4, n4, c4, d4, B4, m4, e4, rfl⟩ := hp.open_
  replace S := (S.below hk).addQ hp
  clear hk hp
  clear r0_0 r0_1 r0_2 r0_3
  have r0_0 := S.c 1 0 rfl rfl
  have f0_0 := S.f 1 0 rfl
  have r0_1 := S.c 1 1 rfl rfl
  have f0_1 := S.f 1 1 rfl
  have r0_2 := S.c 1 2 rfl rfl
  have f0_2 := S.f 1 2 rfl
  have r0_3 := S.c 1 3 rfl rfl
  have f0_3 := S.f 1 3 rfl
  go_upto_region 2 with fail
  replace S := (S.put4 1 rfl rfl rfl (x' := .bool b4) (y' := .slice A4 n4 c4) (z' := .bool d4) (u' := .slice B4 m4 e4))
  obtain ⟨W3, eW, S⟩ := S.pack
  rw [eW]
  clear eW
  clear r0_0 f0_0 r0_1 f0_1 r0_2 f0_2 r0_3 f0_3
  refine wp_region_steps (m := 5) rfl (by kernel_rfl) (fun iΦ vΦ wΦ => (List.getD [fun vΦ _ => vΦ = .pointer (some ⟨w.heap.size, 0, none⟩), fun vΦ _ => vΦ = .agg #[.bool b4, .slice A4 n4 c4], fun vΦ wΦ => IntRep wΦ vΦ (((((x).num)).natAbs : Int)), fun vΦ _ => vΦ = .pointer (some ⟨w.heap.size, 2, none⟩), fun vΦ _ => vΦ = .agg #[.bool d4, .slice B4 m4 e4]] iΦ (fun _ _ => True)) vΦ wΦ) [] ?_ ?_ ?_
  · intro i v w w' hi h hk
    rcases (show i = 0 ∨ i = 1 ∨ i = 2 ∨ i = 3 ∨ i = 4 by omega) with rfl | rfl | rfl | rfl | rfl
    all_goals simp only [gz, gs] at h ⊢
    all_goals first | exact h | exact IntRep.below h hk
  · intro i hi vs w3 hk3 hd
    have S3 := S.drew.below hk3
    have a0 := S3.c 1 0 rfl rfl
    have a1 := S3.c 1 1 rfl rfl
    have a2 := S3.c 1 2 rfl rfl
    have a3 := S3.c 1 3 rfl rfl
    match i, hi with
    | 0, _ =>
      refine step_yes [] rfl (by kernel_rfl) fun K hK => ?_; simp only [frD] at hK ⊢; refine ⟨by rfl, ?_⟩; go_simp
      exact hK _ _ ⟨Below.refl _ _, rfl, by simp⟩
    | 1, _ =>
      have e0 := hd 0 (cm (by kernel_rfl)); simp only [gz] at e0
      refine step_yes [(0, some 5)] rfl (by kernel_rfl) fun K hK => ?_; simp only [frD, e0] at hK ⊢; refine ⟨by rfl, ?_⟩; go_simp
      exact hK _ _ ⟨Below.refl _ _, rfl, by simp⟩
    | 2, _ =>
      have e1 := hd 1 (cm (by kernel_rfl)); simp only [gz, gs] at e1
      refine step_yes [(1, some 6)] rfl (by kernel_rfl) fun K hK => ?_; simp only [frD, e1] at hK ⊢; refine ⟨by rfl, ?_⟩; go_simp
      refine ((abs_num ((S3.qi 0 rfl).nn (by omega)))).mono ?_; rintro e w4 ⟨U, rfl, hr, hk4⟩; exact hK _ _ ⟨hk4, hr, by simp⟩
    | 3, _ =>
      refine step_yes [] rfl (by kernel_rfl) fun K hK => ?_; simp only [frD] at hK ⊢; refine ⟨by rfl, ?_⟩; go_simp
      exact hK _ _ ⟨Below.refl _ _, rfl, by simp⟩
    | 4, _ =>
      have e3 := hd 3 (cm (by kernel_rfl)); simp only [gz, gs] at e3
      refine step_yes [(3, some 8)] rfl (by kernel_rfl) fun K hK => ?_; simp only [frD, e3] at hK ⊢; refine ⟨by rfl, ?_⟩; go_simp
      exact hK _ _ ⟨Below.refl _ _, rfl, by simp⟩
    | i + 5, hi => exact absurd hi (by omega)
  · intro vs W4 hk3 hΦ _
    simp only [List.drop_succ_cons, List.drop_zero]
    rw [fr_frD, show (List.range 5).map _ = [(0, some 5), (1, some 6), (2, some 7), (3, some 8), (4, some 9)] by kernel_rfl]
    have pa0 := hΦ 0 (by omega); simp only [gz] at pa0
    have pa1 := hΦ 1 (by omega); simp only [gz, gs] at pa1
    have pa2 := hΦ 2 (by omega); simp only [gz, gs] at pa2
    have pa3 := hΦ 3 (by omega); simp only [gz, gs] at pa3
    have pa4 := hΦ 4 (by omega); simp only [gz, gs] at pa4
    clear hΦ
    simp only [frD, pa0, pa1, pa3, pa4]
    simp only [Act.put, List.setIfInBounds_toArray, List.set_cons_zero, List.set_cons_succ]
    clear pa0 pa1 pa3 pa4
    generalize vs 2 = Upa2 at pa2 ⊢
    replace S := S.drew.below hk3
    obtain ⟨b5, A5, n5, c5, rfl⟩ := pa2.open3
    replace S := S.addI pa2
    clear pa2
    clear hk3
    replace S := S.addQ (RatRep.mk (S.ii 0 rfl) ((S.qi 1 rfl).d) (absR_num x).symm (absR_den x).symm)
    have r1_0 := S.c 0 0 rfl rfl
    have f1_0 := S.f 0 0 rfl
    have r1_1 := S.c 0 1 rfl rfl
    have f1_1 := S.f 0 1 rfl
    have r1_2 := S.c 0 2 rfl rfl
    have f1_2 := S.f 0 2 rfl
    have r1_3 := S.c 0 3 rfl rfl
    have f1_3 := S.f 0 3 rfl
    go_wp2
    replace S := (S.put4 0 rfl rfl rfl (x' := .bool b5) (y' := .slice A5 n5 c5) (z' := .bool d4) (u' := .slice B4 m4 e4))
    refine bodyPost_ret (v := .agg #[.bool b5, .slice A5 n5 c5, .bool d4, .slice B4 m4 e4]) (by simp [results, Tryz.results64, go_sem, S.c 0 0 rfl rfl, S.c 0 1 rfl rfl, S.c 0 2 rfl rfl, S.c 0 3 rfl rfl]) rfl ?_
    exact ⟨_, rfl, S.qi 0 rfl, S.k⟩
end Go.Proofs.YtmochehkkadjnaaGreatDoor
