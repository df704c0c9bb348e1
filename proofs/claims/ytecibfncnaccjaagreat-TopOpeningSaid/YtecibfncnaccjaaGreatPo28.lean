/- More for straight walks: a box made anywhere in a region; pairs of a fraction and a code. No program in sight. More for straight walks printed by walk.py: the world named; pairs with an integer; the magnitude. No program in sight. The walks of fraction.Sign, Neg, Sub, Floor, Ceil. What a region's values may be said to be, and that it lasts: for the walks that walk.py prints. No program in sight. raster.at, made, Turn, Mirror: the walks. -/
import Derived.Test.YtecibfncnaccjaaGreatPo27
import Derived.Test.YtecibfncnaccjaaGreatPo26
import Derived.Test.YtecibfncnaccjaaGreatPo2
import Derived.Deep.RegionLawGrows
import Derived.Laws.MakeOwn
import Derived.Test.YtecibfncnaccjaaGreatPo4
namespace Go.Proofs.YtecibfncnaccjaaGreat
open Go.RowKit

theorem St.box {w0 W w' : World} {bs : List Bx} {ps : List (World → Prop)} (S : St w0 W bs ps) (S' : St w0 w' bs ps) {b : Nat} {t : TypeId} {vs : List Value} (hO : Own w' b t vs) (hb : W.heap.size ≤ b) : St w0 w' ((b, t, vs) :: bs) ps := by
 refine ⟨S'.k, ⟨hO, S'.b⟩, ?_, ?_, S'.p⟩
 ·intro p hp
  rcases List.mem_cons.1 hp with rfl | hp
  ·exact Nat.le_trans S.k.size hb
  ·exact S'.lo p hp
 ·rw [List.pairwise_cons]
  exact ⟨fun q hq e => by have := (S.b.mem hq).lt; simp only at e; omega, S'.d⟩
def FstQ (c : Int) (q : Rat) (v : Value) (w : World) : Prop := if c = 0 then RatRep w v q else v = zeroRat
def TupQ (c : Int) (q : Rat) (v : Value) (w : World) : Prop := ∃ Q, v = .tuple #[Q, .int .i64 c] ∧ FstQ c q Q w
theorem FstQ.below {c : Int} {q : Rat} {v : Value} {w w' : World} (h : FstQ c q v w) (hk : Keeps w w') : FstQ c q v w' := by
 unfold FstQ at h ⊢
 split
 ·rw [if_pos (by assumption)] at h; exact h.below hk
 ·rw [if_neg (by assumption)] at h; exact h
theorem TupQ.below {c : Int} {q : Rat} {v : Value} {w w' : World} (h : TupQ c q v w) (hk : Keeps w w') : TupQ c q v w' := by
 obtain ⟨Q, e, hq⟩ := h
 exact ⟨Q, e, hq.below hk⟩
theorem rcode_eq {P : Program} {F : FuncId} {args : Array Value} {w : World} {c c' : Int} {q q' : Rat} (h : Calls P F args w (RCode c q w)) (e : c = c') (e2 : q = q') : Calls P F args w (RCode c' q' w) := by subst e e2; exact h
theorem St.pack {w0 w : World} {bs : List Bx} {ps : List (World → Prop)} (S : St w0 w bs ps) : ∃ W, w = W ∧ St w0 W bs ps := ⟨w, rfl, S⟩
theorem FstQ.rep {q : Rat} {v : Value} {w : World} (h : FstQ 0 q v w) : RatRep w v q := by unfold FstQ at h; rwa [if_pos rfl] at h
theorem FstQ.zero {c : Int} {q : Rat} {v : Value} {w : World} (h : FstQ c q v w) (hc : c ≠ 0) : v = zeroRat := by unfold FstQ at h; rwa [if_neg hc] at h
def TupI (z : Int) (v : Value) (w : World) : Prop := ∃ Q, v = .tuple #[Q, .int .i64 0] ∧ IntRep w Q z
def TupD (q r : Int) (v : Value) (w : World) : Prop := ∃ Q R, v = .tuple #[Q, R, .int .i64 0] ∧ IntRep w Q q ∧ IntRep w R r
theorem TupI.below {z : Int} {v : Value} {w w' : World} (h : TupI z v w) (hk : Keeps w w') : TupI z v w' := by
 obtain ⟨Q, e, hq⟩ := h
 exact ⟨Q, e, hq.below hk⟩
theorem TupD.below {q r : Int} {v : Value} {w w' : World} (h : TupD q r v w) (hk : Keeps w w') : TupD q r v w' := by
 obtain ⟨Q, R, e, hq, hr⟩ := h
 exact ⟨Q, R, e, hq.below hk, hr.below hk⟩
end Go.Proofs.YtecibfncnaccjaaGreat
namespace Go.Proofs.YtecibfncnaccjaaGreat
open Go.RowKit Go.Shelf

set_option maxRecDepth 100000 in
set_option maxHeartbeats 1000000 in
theorem fsign_s {w : World} {V1 : Value} {x : Rat} {s : Int} (h1 : RatNum w V1 x) (hs : x.num.sign = s) : Calls Tryz.prog 74 #[V1] w fun e w' => e = .returned (.int .i64 s) ∧ Keeps w w' := by
 obtain ⟨b1, A1, n1, c1, d1, B1, m1, e1, rfl⟩ := h1.open_
 have hx := h1.sz
 have S := (St.start w).alloc 35 [.bool b1, .slice A1 n1 c1, .bool d1, .slice B1 m1 e1]
 have HS := Lib.hid hs
 clear hs
 go_enter Tryz.func74, Tryz.ntmps74
 go_wp2_with fail
 generalize w.alloc (.cells #[.bool b1, .slice A1 n1 c1, .bool d1, .slice B1 m1 e1] 35) = W at *
 refine (fvalue_num (h1.below S.k)).mono ?_
 rintro e W1 ⟨U, rfl, hp, hk⟩
 obtain ⟨b3, A3, n3, c3, d3, B3, m3, e3, rfl⟩ := hp.open_
 replace S := (S.below hk).addQ hp
 clear hk hp
 have hf := run_field_num (.bool b3) (.slice A3 n3 c3) (.bool d3) (.slice B3 m3 e3)
 go_wp2_with fail
 refine (sign_s ((S.qi 0 rfl).nn hx) HS.out).mono ?_
 rintro e W2 ⟨rfl, hk⟩
 replace S := S.below hk
 go_wp2
 go_ret
 exact ⟨rfl, S.k⟩

set_option maxRecDepth 100000 in
set_option maxHeartbeats 1000000 in
theorem fneg_num {w : World} {V1 : Value} {x : Rat} (h1 : RatNum w V1 x) : Calls Tryz.prog 69 #[V1] w (RGives (-x) w) := by
 obtain ⟨b1, A1, n1, c1, d1, B1, m1, e1, rfl⟩ := h1.open_
 have hx := h1.sz
 have S := ((St.start w).alloc 35 [.bool b1, .slice A1 n1 c1, .bool d1, .slice B1 m1 e1]).alloc 35 [.bool false, .slice none 0 0, .bool false, .slice none 0 0]
 simp only [World.size_alloc] at S
 go_enter Tryz.func69, Tryz.ntmps69
 go_wp2_with fail
 generalize (w.alloc (.cells #[.bool b1, .slice A1 n1 c1, .bool d1, .slice B1 m1 e1] 35)).alloc (.cells #[.bool false, .slice none 0 0, .bool false, .slice none 0 0] 35) = W at *
 refine (fvalue_num (h1.below S.k)).mono ?_
 rintro e W1 ⟨U, rfl, hp, hk⟩
 obtain ⟨b3, A3, n3, c3, d3, B3, m3, e3, rfl⟩ := hp.open_
 replace S := (S.below hk).addQ hp
 clear hk hp
 obtain ⟨r1_0, r1_1, r1_2, r1_3⟩ := S.cc4 1 rfl
 obtain ⟨f1_0, f1_1, f1_2, f1_3⟩ := S.ff4 1 rfl
 go_upto_region 2 with fail
 replace S := S.put4 1 rfl rfl rfl (x' := .bool b3) (y' := .slice A3 n3 c3) (z' := .bool d3) (u' := .slice B3 m3 e3)
 generalize (((W1.setCell ⟨w.heap.size, 0, none⟩ (.bool b3)).setCell ⟨w.heap.size, 1, none⟩ (.slice A3 n3 c3)).setCell ⟨w.heap.size, 2, none⟩ (.bool d3)).setCell ⟨w.heap.size, 3, none⟩ (.slice B3 m3 e3) = W4 at S ⊢
 clear r1_0 r1_1 r1_2 r1_3 f1_0 f1_1 f1_2 f1_3
 have lx1 := szR_num hx
 refine wp_region_steps (m := 5) rfl (by kernel_rfl) (fun iF vF wF => (List.getD [fun vF _ => vF = .pointer (some ⟨w.heap.size, 0, none⟩), fun vF _ => vF = .agg #[.bool b3, .slice A3 n3 c3], fun vF wF => IntRep wF vF (-x.num), fun vF _ => vF = .pointer (some ⟨w.heap.size, 2, none⟩), fun vF _ => vF = .agg #[.bool d3, .slice B3 m3 e3]] iF (fun _ _ => True)) vF wF) [] ?_ ?_ ?_
 ·intro i v w w' hi h hk
  rcases (show i = 0 ∨ i = 1 ∨ i = 2 ∨ i = 3 ∨ i = 4 by omega) with rfl | rfl | rfl | rfl | rfl
  all_goals simp only [gz, gs] at h ⊢
  all_goals first | exact h | exact IntRep.below h hk | exact RatRep.below h hk
 ·intro i hi vs w3 hk3 hd
  have S3 := S.drew.below hk3
  obtain ⟨a0, a1, a2, a3⟩ := S3.cc4 1 rfl
  match i, hi with
  | 0, _ =>
   refine step_yes [] rfl (by kernel_rfl) fun K hK => ?_; simp only [frD] at hK ⊢; refine ⟨by rfl, ?_⟩; go_simp
   exact hK _ _ ⟨Below.refl _ _, rfl, by simp⟩
  | 1, _ =>
   have e0 := hd 0 (cm (by kernel_rfl)); simp only [gz] at e0
   refine step_yes [(0, some 5)] rfl (by kernel_rfl) fun K hK => ?_; simp only [frD, e0] at hK ⊢; refine ⟨by rfl, ?_⟩; go_simp
   exact hK _ _ ⟨Below.refl _ _, rfl, by simp⟩
  | 2, _ =>
   have e1 := hd 1 (cm (by kernel_rfl)); simp only [gz, gs] at e1
   refine step_yes [(1, some 6)] rfl (by kernel_rfl) fun K hK => ?_; simp only [frD, e1] at hK ⊢; refine ⟨by rfl, ?_⟩; go_simp
   refine (neg_num ((S3.qi 0 rfl).nn hx)).mono ?_; rintro e w4 ⟨U, rfl, hr, hk4⟩; exact hK _ _ ⟨hk4, hr, by simp⟩
  | 3, _ =>
   refine step_yes [] rfl (by kernel_rfl) fun K hK => ?_; simp only [frD] at hK ⊢; refine ⟨by rfl, ?_⟩; go_simp
   exact hK _ _ ⟨Below.refl _ _, rfl, by simp⟩
  | 4, _ =>
   have e3 := hd 3 (cm (by kernel_rfl)); simp only [gz, gs] at e3
   refine step_yes [(3, some 8)] rfl (by kernel_rfl) fun K hK => ?_; simp only [frD, e3] at hK ⊢; refine ⟨by rfl, ?_⟩; go_simp
   exact hK _ _ ⟨Below.refl _ _, rfl, by simp⟩
  | i + 5, hi => exact absurd hi (by omega)
 ·intro vs wpb hk3 hΦ _
  simp only [List.drop_succ_cons, List.drop_zero]
  rw [fr_frD, show (List.range 5).map _ = [(0, some 5), (1, some 6), (2, some 7), (3, some 8), (4, some 9)] by kernel_rfl]
  have pb0 := hΦ 0 (by omega); simp only [gz] at pb0
  have pb1 := hΦ 1 (by omega); simp only [gz, gs] at pb1
  have pb2 := hΦ 2 (by omega); simp only [gz, gs] at pb2
  have pb3 := hΦ 3 (by omega); simp only [gz, gs] at pb3
  have pb4 := hΦ 4 (by omega); simp only [gz, gs] at pb4
  clear hΦ
  simp only [frD, pb0, pb1, pb3, pb4]
  simp only [Act.put, List.setIfInBounds_toArray, List.set_cons_zero, List.set_cons_succ]
  clear pb0 pb1 pb3 pb4
  generalize vs 2 = U2 at pb2 ⊢
  replace S := S.drew.below hk3
  obtain ⟨b5, A5, n5, c5, rfl⟩ := pb2.open3
  replace S := S.addI pb2
  clear pb2 hk3
  obtain ⟨r0_0, r0_1, r0_2, r0_3⟩ := S.cc4 0 rfl
  obtain ⟨f0_0, f0_1, f0_2, f0_3⟩ := S.ff4 0 rfl
  go_wp2
  replace S := S.put4 0 rfl rfl rfl (x' := .bool b5) (y' := .slice A5 n5 c5) (z' := .bool d3) (u' := .slice B3 m3 e3)
  refine bodyPost_ret (v := .agg #[.bool b5, .slice A5 n5 c5, .bool d3, .slice B3 m3 e3]) (by simp [results, Tryz.results69, go_sem, S.c 0 0 rfl rfl, S.c 0 1 rfl rfl, S.c 0 2 rfl rfl, S.c 0 3 rfl rfl]) rfl ?_
  exact ⟨_, rfl, RatRep.mk (S.ii 0 rfl) (S.qi 1 rfl).d (Rat.neg_num x).symm (by rw [Rat.neg_den]), S.k⟩

set_option maxRecDepth 100000 in
set_option maxHeartbeats 1000000 in
theorem fsub_num {w : World} {V1 V2 : Value} {x y : Rat} (h1 : RatNum w V1 x) (h2 : RatNum w V2 y) : Calls Tryz.prog 35 #[V1, V2] w (RGives (x - y) w) := by
 obtain ⟨b1, A1, n1, c1, d1, B1, m1, e1, rfl⟩ := h1.open_
 obtain ⟨b2, A2, n2, c2, d2, B2, m2, e2, rfl⟩ := h2.open_
 have hx := h1.sz
 have hy := h2.sz
 have S := (((St.start w).alloc 35 [.bool b1, .slice A1 n1 c1, .bool d1, .slice B1 m1 e1]).alloc 35 [.bool b2, .slice A2 n2 c2, .bool d2, .slice B2 m2 e2]).alloc 35 [.bool false, .slice none 0 0, .bool false, .slice none 0 0]
 simp only [World.size_alloc] at S
 go_enter Tryz.func35, Tryz.ntmps35
 go_wp2_with fail
 generalize ((w.alloc (.cells #[.bool b1, .slice A1 n1 c1, .bool d1, .slice B1 m1 e1] 35)).alloc (.cells #[.bool b2, .slice A2 n2 c2, .bool d2, .slice B2 m2 e2] 35)).alloc (.cells #[.bool false, .slice none 0 0, .bool false, .slice none 0 0] 35) = W at *
 refine wp_region_steps (m := 4) rfl (by kernel_rfl) (fun iF vF wF => (List.getD [fun vF _ => vF = .agg #[.bool b1, .slice A1 n1 c1, .bool d1, .slice B1 m1 e1], fun vF _ => vF = .agg #[.bool b2, .slice A2 n2 c2, .bool d2, .slice B2 m2 e2], fun vF wF => RatRep wF vF (-y), fun vF wF => RatRep wF vF (x - y)] iF (fun _ _ => True)) vF wF) [] ?_ ?_ ?_
 ·intro i v w w' hi h hk
  rcases (show i = 0 ∨ i = 1 ∨ i = 2 ∨ i = 3 by omega) with rfl | rfl | rfl | rfl
  all_goals simp only [gz, gs] at h ⊢
  all_goals first | exact h | exact IntRep.below h hk | exact RatRep.below h hk
 ·intro i hi vs w3 hk3 hd
  have S3 := S.drew.below hk3
  obtain ⟨a0, a1, a2, a3⟩ := S3.cc4 2 rfl
  obtain ⟨a4, a5, a6, a7⟩ := S3.cc4 1 rfl
  match i, hi with
  | 0, _ =>
   refine step_yes [] rfl (by kernel_rfl) fun K hK => ?_; simp only [frD] at hK ⊢; refine ⟨by rfl, ?_⟩; go_simp
   exact hK _ _ ⟨Below.refl _ _, rfl, by simp⟩
  | 1, _ =>
   refine step_yes [] rfl (by kernel_rfl) fun K hK => ?_; simp only [frD] at hK ⊢; refine ⟨by rfl, ?_⟩; go_simp
   exact hK _ _ ⟨Below.refl _ _, rfl, by simp⟩
  | 2, _ =>
   have e1 := hd 1 (cm (by kernel_rfl)); simp only [gz, gs] at e1
   refine step_yes [(1, some 6)] rfl (by kernel_rfl) fun K hK => ?_; simp only [frD, e1] at hK ⊢; refine ⟨by rfl, ?_⟩; go_simp
   refine (fneg_num (h2.below S3.k)).mono ?_; rintro e w4 ⟨U, rfl, hr, hk4⟩; exact hK _ _ ⟨hk4, hr, by simp⟩
  | 3, _ =>
   have e0 := hd 0 (cm (by kernel_rfl)); simp only [gz] at e0; have h2 := hd 2 (cm (by kernel_rfl)); simp only [gz, gs] at h2
   refine step_yes [(0, some 5), (2, some 7)] rfl (by kernel_rfl) fun K hK => ?_; simp only [frD, e0] at hK ⊢; refine ⟨by rfl, ?_⟩; go_simp
   refine (rgives_eq (fadd_num (h1.below S3.k) (h2.num (by rw [szR_neg]; exact hy))) (Rat.sub_eq_add_neg x y).symm).mono ?_; rintro e w4 ⟨U, rfl, hr, hk4⟩; exact hK _ _ ⟨hk4, hr, by simp⟩
  | i + 4, hi => exact absurd hi (by omega)
 ·intro vs wpa hk3 hΦ _
  simp only [List.drop_succ_cons, List.drop_zero]
  rw [fr_frD, show (List.range 4).map _ = [(0, some 5), (1, some 6), (2, some 7), (3, some 8)] by kernel_rfl]
  have pa0 := hΦ 0 (by omega); simp only [gz] at pa0
  have pa1 := hΦ 1 (by omega); simp only [gz, gs] at pa1
  have pa2 := hΦ 2 (by omega); simp only [gz, gs] at pa2
  have pa3 := hΦ 3 (by omega); simp only [gz, gs] at pa3
  clear hΦ
  simp only [frD, pa0, pa1]
  simp only [Act.put, List.setIfInBounds_toArray, List.set_cons_zero, List.set_cons_succ]
  clear pa0 pa1
  generalize vs 2 = U2 at pa2 ⊢
  generalize vs 3 = U3 at pa3 ⊢
  replace S := S.drew.below hk3
  obtain ⟨b5, A5, n5, c5, d5, B5, m5, e5, rfl⟩ := pa3.open_
  replace S := S.addQ pa3
  clear pa2 pa3 hk3
  obtain ⟨r0_0, r0_1, r0_2, r0_3⟩ := S.cc4 0 rfl
  obtain ⟨f0_0, f0_1, f0_2, f0_3⟩ := S.ff4 0 rfl
  go_wp2
  replace S := S.put4 0 rfl rfl rfl (x' := .bool b5) (y' := .slice A5 n5 c5) (z' := .bool d5) (u' := .slice B5 m5 e5)
  refine bodyPost_ret (v := .agg #[.bool b5, .slice A5 n5 c5, .bool d5, .slice B5 m5 e5]) (by simp [results, Tryz.results35, go_sem, S.c 0 0 rfl rfl, S.c 0 1 rfl rfl, S.c 0 2 rfl rfl, S.c 0 3 rfl rfl]) rfl ?_
  exact ⟨_, rfl, S.qi 0 rfl, S.k⟩

end Go.Proofs.YtecibfncnaccjaaGreat
namespace Go.Proofs.YtecibfncnaccjaaGreat
open Go.RowKit

def StabL : List (Value → World → Prop) → Prop
 | [] => True
 | φ :: l => (∀ v w w', φ v w → Keeps w w' → φ v w') ∧ StabL l
theorem stab_nil : StabL [] := trivial
theorem stab_cons {φ : Value → World → Prop} {l : List (Value → World → Prop)} (h : ∀ v w w', φ v w → Keeps w w' → φ v w') (hl : StabL l) : StabL (φ :: l) := ⟨h, hl⟩
theorem stabL_get : ∀ {l : List (Value → World → Prop)}, StabL l → ∀ (i : Nat) (v : Value) (w w' : World), (List.getD l i (fun _ _ => True)) v w → Keeps w w' → (List.getD l i (fun _ _ => True)) v w'
 | [], _, _, _, _, _, _, _ => trivial
 | _ :: _, h, 0, v, w, w', hp, hk => h.1 v w w' hp hk
 | _ :: l, h, i + 1, v, w, w', hp, hk => stabL_get (l := l) h.2 i v w w' hp hk
theorem st_e {c : Value} (v : Value) (w w' : World) (h : v = c) (_ : Keeps w w') : v = c := h
theorem st_q {q : Rat} (v : Value) (w w' : World) (h : RatRep w v q) (hk : Keeps w w') : RatRep w' v q := h.below hk
theorem st_t {c : Int} {q : Rat} (v : Value) (w w' : World) (h : TupQ c q v w) (hk : Keeps w w') : TupQ c q v w' := h.below hk
theorem st_f {c : Int} {q : Rat} (v : Value) (w w' : World) (h : FstQ c q v w) (hk : Keeps w w') : FstQ c q v w' := h.below hk
theorem st_a {n : Nat} {t : TypeId} {vs : List Value} (v : Value) (w w' : World) (h : ∃ b, v = .pointer (some ⟨b, 0, none⟩) ∧ n ≤ b ∧ Own w b t vs) (hk : Keeps w w') : ∃ b, v = .pointer (some ⟨b, 0, none⟩) ∧ n ≤ b ∧ Own w' b t vs := by
 obtain ⟨b, h1, h2, h3⟩ := h
 exact ⟨b, h1, h2, h3.below hk⟩
section
variable {P : Program} {ops : Array Oper} {Φ : Nat → Value → World → Prop} {own : List Nat} {m i : Nat} {vs : Nat → Value} {a : Act} {w : World} {o : Oper}
theorem step_val (ds : List (Nat × Option Tmp)) (φ : Value → World → Prop) (hi : ops[i]? = some o) (hl : (depsOf ops m i).map (fun j => (j, dstOf ops j)) = ds) (hφ : ∀ v w, φ v w → Φ i v w) (ho : own.contains i = false)
 (h : ∀ K : Act → World → Prop, (∀ v w', Keeps w w' → φ v w' → K ((frD vs a ds).put o.dst v) w') → Region.wanted o (yielded ops (frD vs a ds).tmps) = true ∧ Oper.wp P o (frD vs a ds) w K (fun _ _ _ => False)) : Step P ops Φ own m i vs a w :=
 step_yes ds hi hl fun K hK => h K fun v w' hk hp => hK v w' ⟨hk, hφ _ _ hp, fun hc => by rw [List.contains_iff_mem.2 hc] at ho; cases ho⟩
theorem step_val0 (ds : List (Nat × Option Tmp)) (φ : Value → World → Prop) (hi : ops[i]? = some o) (hl : (depsOf ops m i).map (fun j => (j, dstOf ops j)) = ds) (hg : o.guard = none) (hφ : ∀ v w, φ v w → Φ i v w) (ho : own.contains i = false)
 (h : ∀ K : Act → World → Prop, (∀ v w', Keeps w w' → φ v w' → K ((frD vs a ds).put o.dst v) w') → Oper.wp P o (frD vs a ds) w K (fun _ _ _ => False)) : Step P ops Φ own m i vs a w :=
 step_val ds φ hi hl hφ ho fun K hK => ⟨by simp [Region.wanted, hg], h K hK⟩
end
theorem exec_call {P : Program} {o : Oper} {ρ : Operand → Value} {w : World} {c : Call} {x : Operand} {F : FuncId} {fn : Func} {A : Array Value} (hop : o.op = .call c) (hc : c.callee = .value x) (hx : ρ x = .func (.func F) #[] #[]) (hA : c.args.map ρ = A)
 (hf : P.funcs[F]? = some fn) (hn : (fn.name == "runtime.NumGoroutine") = false) (hb : fn.body.isNone = false) : (execOp ρ o).run P w = .ok (.enter F A) w := by
 have hn' : ¬ fn.name = "runtime.NumGoroutine" := by simpa using hn
 have hb' : ¬ fn.body = none := fun e => by rw [e] at hb; cases hb
 simp [execOp, hop, resolve, hc, hx, hA, Deferred.ofValue, invoke, callFunc, hf, hn', hb', go_sem]
theorem wp_call_fn {P : Program} {o : Oper} {a : Act} {w : World} {K : Act → World → Prop} {Q : Exit → Act → World → Prop} {c : Call} {x : Operand} {F : FuncId} {fn : Func} {X : Value} {A B : Array Value} (hop : o.op = .call c) (hc : c.callee = .value x)
 (hx : a.eval x = X) (hX : X = .func (.func F) #[] #[]) (hA : c.args.map a.eval = A) (hB : A = B) (hf : P.funcs[F]? = some fn) (hn : (fn.name == "runtime.NumGoroutine") = false) (hb : fn.body.isNone = false)
 (h : Calls P F B w (fun e w' => ∃ v, e = .returned v ∧ K (a.put o.dst v) w')) : Oper.wp P o a w K Q := by
 subst hX hB
 unfold Oper.wp
 rw [exec_call hop hc hx hA hf hn hb, Oper.upon_enter]
 refine h.mono ?_
 rintro e w' ⟨v, rfl, hK⟩
 exact hK
theorem wanted_none {ops : Array Oper} {o : Oper} {ts : Array Value} (hg : o.guard = none) : Region.wanted o (yielded ops ts) = true := by simp [Region.wanted, hg]
theorem wanted_some {ops : Array Oper} {o : Oper} {ts : Array Value} {g : Nat} {want : Bool} (t : Tmp) {X : Value} (hg : o.guard = some (g, want)) (hd : (ops[g]?.bind fun x => x.dst) = some t) (hv : ts[t]? = some X) (hX : X = .bool want) : Region.wanted o (yielded ops ts) = true := by
 subst hX
 simp only [Region.wanted, hg, yielded, hd, Option.bind_some, hv]
 simp
theorem step_valg {P : Program} {ops : Array Oper} {Φ : Nat → Value → World → Prop} {own : List Nat} {m i : Nat} {vs : Nat → Value} {a : Act} {w : World} {o : Oper}
 (ds : List (Nat × Option Tmp)) (φ : Value → World → Prop) (hi : ops[i]? = some o) (hl : (depsOf ops m i).map (fun j => (j, dstOf ops j)) = ds) (hφ : ∀ v w, φ v w → Φ i v w) (ho : own.contains i = false)
 (hw : Region.wanted o (yielded ops (frD vs a ds).tmps) = true)
 (h : ∀ K : Act → World → Prop, (∀ v w', Keeps w w' → φ v w' → K ((frD vs a ds).put o.dst v) w') → Oper.wp P o (frD vs a ds) w K (fun _ _ _ => False)) : Step P ops Φ own m i vs a w :=
 step_val ds φ hi hl hφ ho fun K hK => ⟨hw, h K hK⟩
theorem step_call {P : Program} {ops : Array Oper} {Φ : Nat → Value → World → Prop} {own : List Nat} {m i : Nat} {vs : Nat → Value} {a : Act} {w : World} {o : Oper} {c : Call} {x : Operand} {F : FuncId} {fn : Func} {X : Value} {A B : Array Value}
 (ds : List (Nat × Option Tmp)) (φ : Value → World → Prop) (hi : ops[i]? = some o) (hl : (depsOf ops m i).map (fun j => (j, dstOf ops j)) = ds) (hφ : ∀ v w, φ v w → Φ i v w) (ho : own.contains i = false)
 (hw : Region.wanted o (yielded ops (frD vs a ds).tmps) = true) (hop : o.op = .call c) (hc : c.callee = .value x) (hx : (frD vs a ds).eval x = X) (hX : X = .func (.func F) #[] #[]) (hA : c.args.map (frD vs a ds).eval = A) (hB : A = B)
 (hf : P.funcs[F]? = some fn) (hn : (fn.name == "runtime.NumGoroutine") = false) (hb : fn.body.isNone = false) (h : Calls P F B w (fun e w' => ∃ v, e = .returned v ∧ Keeps w w' ∧ φ v w')) : Step P ops Φ own m i vs a w :=
 step_val ds φ hi hl hφ ho fun _ hK => ⟨hw, wp_call_fn hop hc hx hX hA hB hf hn hb (h.mono fun _ w' ⟨v, e1, h1, h2⟩ => ⟨v, e1, hK v w' h1 h2⟩)⟩
abbrev ve (c : Value) : Value → World → Prop := fun v _ => v = c
theorem ws {ops : Array Oper} {o : Oper} {ts : Array Value} {g : Nat} {want : Bool} (t : Tmp) {X : Value} (hX : X = .bool want) (hg : o.guard = some (g, want) := by rfl) (hd : (ops[g]?.bind fun x => x.dst) = some t := by rfl) (hv : ts[t]? = some X := by kernel_rfl) : Region.wanted o (yielded ops ts) = true := wanted_some t hg hd hv hX
theorem sc {P : Program} {ops : Array Oper} {Φ : Nat → Value → World → Prop} {own : List Nat} {m i : Nat} {vs : Nat → Value} {a : Act} {w : World} {o : Oper} {c : Call} {x : Operand} {F : FuncId} {fn : Func} {A B : Array Value}
  (ds : List (Nat × Option Tmp)) (φ : Value → World → Prop) (hi : ops[i]? = some o) (hw : Region.wanted o (yielded ops (frD vs a ds).tmps) = true) (hB : A = B) (hf : P.funcs[F]? = some fn) (h : Calls P F B w (fun e w' => ∃ v, e = .returned v ∧ Keeps w w' ∧ φ v w'))
  (hl : (depsOf ops m i).map (fun j => (j, dstOf ops j)) = ds := by kernel_rfl) (hφ : ∀ v w, φ v w → Φ i v w := by exact fun _ _ h => h) (ho : own.contains i = false := by rfl) (hop : o.op = .call c := by rfl) (hc : c.callee = .value x := by rfl)
  (hx : (frD vs a ds).eval x = .func (.func F) #[] #[] := by kernel_rfl) (hA : c.args.map (frD vs a ds).eval = A := by kernel_rfl) (hn : (fn.name == "runtime.NumGoroutine") = false := by kernel_rfl) (hb : fn.body.isNone = false := by kernel_rfl) : Step P ops Φ own m i vs a w :=
  step_call ds φ hi hl hφ ho hw hop hc hx rfl hA hB hf hn hb h
theorem svg {P : Program} {ops : Array Oper} {Φ : Nat → Value → World → Prop} {own : List Nat} {m i : Nat} {vs : Nat → Value} {a : Act} {w : World} {o : Oper} (ds : List (Nat × Option Tmp)) (φ : Value → World → Prop) (hi : ops[i]? = some o)
  (hw : Region.wanted o (yielded ops (frD vs a ds).tmps) = true) (h : ∀ K : Act → World → Prop, (∀ v w', Keeps w w' → φ v w' → K ((frD vs a ds).put o.dst v) w') → Oper.wp P o (frD vs a ds) w K (fun _ _ _ => False))
  (hl : (depsOf ops m i).map (fun j => (j, dstOf ops j)) = ds := by kernel_rfl) (hφ : ∀ v w, φ v w → Φ i v w := by exact fun _ _ h => h) (ho : own.contains i = false := by rfl) : Step P ops Φ own m i vs a w := step_valg ds φ hi hl hφ ho hw h
theorem hdk {l : List Nat} {P : Nat → Prop} (hd : ∀ j ∈ l, P j) (i : Nat) (h : l.contains i = true := by kernel_rfl) : P i := hd i (cm h)
theorem sv0 {P : Program} {ops : Array Oper} {Φ : Nat → Value → World → Prop} {own : List Nat} {m i : Nat} {vs : Nat → Value} {a : Act} {w : World} {o : Oper} (ds : List (Nat × Option Tmp)) (φ : Value → World → Prop) (hi : ops[i]? = some o)
  (h : ∀ K : Act → World → Prop, (∀ v w', Keeps w w' → φ v w' → K ((frD vs a ds).put o.dst v) w') → Oper.wp P o (frD vs a ds) w K (fun _ _ _ => False))
  (hl : (depsOf ops m i).map (fun j => (j, dstOf ops j)) = ds := by kernel_rfl) (hg : o.guard = none := by rfl) (hφ : ∀ v w, φ v w → Φ i v w := by exact fun _ _ h => h) (ho : own.contains i = false := by rfl) : Step P ops Φ own m i vs a w := step_val0 ds φ hi hl hg hφ ho h
end Go.Proofs.YtecibfncnaccjaaGreat
namespace Go.Proofs.YtecibfncnaccjaaGreat
open Go.RowKit Go.Shelf

theorem madeZ (n : Nat) : madeCells #[.int .i64 0] n = (i64s (List.replicate n 0)).toArray := by
 apply Array.ext
 ·simp [madeCells, i64s]
 ·intro i h1 h2
  simp [madeCells, i64s, Nat.mod_one]
theorem i64s_set (l : List Int) (k : Nat) (x : Int) : (i64s l).set k (.int .i64 x) = i64s (l.set k x) := by simp [i64s, List.map_set]
end Go.Proofs.YtecibfncnaccjaaGreat
