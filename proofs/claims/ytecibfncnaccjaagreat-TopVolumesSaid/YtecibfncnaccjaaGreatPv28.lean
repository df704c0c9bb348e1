/- More for straight walks: a box made anywhere in a region; pairs of a fraction and a code. No program in sight. More for straight walks printed by walk.py: the world named; pairs with an integer; the magnitude. No program in sight. The walks of fraction.Sign, Neg, Sub, Floor, Ceil. A law for a region that draws its order, with one late operation: it reads no memory and nobody waits for it. No program in sight. The simplest fraction of an interval: its definition by fuel, and that no other one of the interval is simpler. No program in sight. -/
import Derived.Test.YtecibfncnaccjaaGreatPv27
import Derived.Test.YtecibfncnaccjaaGreatPv26
import Derived.Test.YtecibfncnaccjaaGreatPv13
import Derived.Test.YtecibfncnaccjaaGreatPv12
namespace Go.Proofs.YtecibfncnaccjaaGreat
open Go.RowKit

theorem St.box {w0 W w' : World} {bs : List Bx} {ps : List (World → Prop)} (S : St w0 W bs ps) (S' : St w0 w' bs ps) {b : Nat} {t : TypeId} {vs : List Value} (hO : Own w' b t vs) (hb : W.heap.size ≤ b) : St w0 w' ((b, t, vs) :: bs) ps := by
 refine ⟨S'.k, ⟨hO, S'.b⟩, ?_, ?_, S'.p⟩
 ·intro p hp
  rcases List.mem_cons.1 hp with rfl | hp
  ·exact Nat.le_trans S.k.size hb
  ·exact S'.lo p hp
 ·rw [List.pairwise_cons]
  exact ⟨fun q hq e => by have := (S.b.mem hq).lt; simp only at e; omega, S'.d⟩
def FstQ (c : Int) (q : Rat) (v : Value) (w : World) : Prop := if c = 0 then RatRep w v q else v = zeroRat
def TupQ (c : Int) (q : Rat) (v : Value) (w : World) : Prop := ∃ Q, v = .tuple #[Q, .int .i64 c] ∧ FstQ c q Q w
theorem FstQ.below {c : Int} {q : Rat} {v : Value} {w w' : World} (h : FstQ c q v w) (hk : Keeps w w') : FstQ c q v w' := by
 unfold FstQ at h ⊢
 split
 ·rw [if_pos (by assumption)] at h; exact h.below hk
 ·rw [if_neg (by assumption)] at h; exact h
theorem TupQ.below {c : Int} {q : Rat} {v : Value} {w w' : World} (h : TupQ c q v w) (hk : Keeps w w') : TupQ c q v w' := by
 obtain ⟨Q, e, hq⟩ := h
 exact ⟨Q, e, hq.below hk⟩
theorem rcode_eq {P : Program} {F : FuncId} {args : Array Value} {w : World} {c c' : Int} {q q' : Rat} (h : Calls P F args w (RCode c q w)) (e : c = c') (e2 : q = q') : Calls P F args w (RCode c' q' w) := by subst e e2; exact h
theorem St.pack {w0 w : World} {bs : List Bx} {ps : List (World → Prop)} (S : St w0 w bs ps) : ∃ W, w = W ∧ St w0 W bs ps := ⟨w, rfl, S⟩
theorem FstQ.rep {q : Rat} {v : Value} {w : World} (h : FstQ 0 q v w) : RatRep w v q := by unfold FstQ at h; rwa [if_pos rfl] at h
theorem FstQ.zero {c : Int} {q : Rat} {v : Value} {w : World} (h : FstQ c q v w) (hc : c ≠ 0) : v = zeroRat := by unfold FstQ at h; rwa [if_neg hc] at h
def TupI (z : Int) (v : Value) (w : World) : Prop := ∃ Q, v = .tuple #[Q, .int .i64 0] ∧ IntRep w Q z
def TupD (q r : Int) (v : Value) (w : World) : Prop := ∃ Q R, v = .tuple #[Q, R, .int .i64 0] ∧ IntRep w Q q ∧ IntRep w R r
theorem TupI.below {z : Int} {v : Value} {w w' : World} (h : TupI z v w) (hk : Keeps w w') : TupI z v w' := by
 obtain ⟨Q, e, hq⟩ := h
 exact ⟨Q, e, hq.below hk⟩
theorem TupD.below {q r : Int} {v : Value} {w w' : World} (h : TupD q r v w) (hk : Keeps w w') : TupD q r v w' := by
 obtain ⟨Q, R, e, hq, hr⟩ := h
 exact ⟨Q, R, e, hq.below hk, hr.below hk⟩
theorem isgn_neg (z : Int) : z.sign < 0 ↔ z < 0 := by
 rcases Int.lt_trichotomy z 0 with h | h | h
 ·rw [Int.sign_eq_neg_one_of_neg h]; omega
 ·subst h; simp
 ·rw [Int.sign_eq_one_of_pos h]; omega
theorem rsgn_neg (x : Rat) : x.num.sign < 0 ↔ x < 0 := by
 rw [isgn_neg, Rat.lt_iff]
 simp
end Go.Proofs.YtecibfncnaccjaaGreat
namespace Go.Proofs.YtecibfncnaccjaaGreat
open Go.RowKit Go.Shelf

set_option maxRecDepth 100000 in
set_option maxHeartbeats 1000000 in
theorem fsign_s {w : World} {V1 : Value} {x : Rat} {s : Int} (h1 : RatNum w V1 x) (hs : x.num.sign = s) : Calls Tryz.prog 74 #[V1] w fun e w' => e = .returned (.int .i64 s) ∧ Keeps w w' := by
 obtain ⟨b1, A1, n1, c1, d1, B1, m1, e1, rfl⟩ := h1.open_
 have hx := h1.sz
 have S := (St.start w).alloc 35 [.bool b1, .slice A1 n1 c1, .bool d1, .slice B1 m1 e1]
 have HS := Lib.hid hs
 clear hs
 go_enter Tryz.func74, Tryz.ntmps74
 go_wp2_with fail
 generalize w.alloc (.cells #[.bool b1, .slice A1 n1 c1, .bool d1, .slice B1 m1 e1] 35) = W at *
 refine (fvalue_num (h1.below S.k)).mono ?_
 rintro e W1 ⟨U, rfl, hp, hk⟩
 obtain ⟨b3, A3, n3, c3, d3, B3, m3, e3, rfl⟩ := hp.open_
 replace S := (S.below hk).addQ hp
 clear hk hp
 have hf := run_field_num (.bool b3) (.slice A3 n3 c3) (.bool d3) (.slice B3 m3 e3)
 go_wp2_with fail
 refine (sign_s ((S.qi 0 rfl).nn hx) HS.out).mono ?_
 rintro e W2 ⟨rfl, hk⟩
 replace S := S.below hk
 go_wp2
 go_ret
 exact ⟨rfl, S.k⟩

set_option maxRecDepth 100000 in
set_option maxHeartbeats 1000000 in
theorem fneg_num {w : World} {V1 : Value} {x : Rat} (h1 : RatNum w V1 x) : Calls Tryz.prog 69 #[V1] w (RGives (-x) w) := by
 obtain ⟨b1, A1, n1, c1, d1, B1, m1, e1, rfl⟩ := h1.open_
 have hx := h1.sz
 have S := ((St.start w).alloc 35 [.bool b1, .slice A1 n1 c1, .bool d1, .slice B1 m1 e1]).alloc 35 [.bool false, .slice none 0 0, .bool false, .slice none 0 0]
 simp only [World.size_alloc] at S
 go_enter Tryz.func69, Tryz.ntmps69
 go_wp2_with fail
 generalize (w.alloc (.cells #[.bool b1, .slice A1 n1 c1, .bool d1, .slice B1 m1 e1] 35)).alloc (.cells #[.bool false, .slice none 0 0, .bool false, .slice none 0 0] 35) = W at *
 refine (fvalue_num (h1.below S.k)).mono ?_
 rintro e W1 ⟨U, rfl, hp, hk⟩
 obtain ⟨b3, A3, n3, c3, d3, B3, m3, e3, rfl⟩ := hp.open_
 replace S := (S.below hk).addQ hp
 clear hk hp
 obtain ⟨r1_0, r1_1, r1_2, r1_3⟩ := S.cc4 1 rfl
 obtain ⟨f1_0, f1_1, f1_2, f1_3⟩ := S.ff4 1 rfl
 go_upto_region 2 with fail
 replace S := S.put4 1 rfl rfl rfl (x' := .bool b3) (y' := .slice A3 n3 c3) (z' := .bool d3) (u' := .slice B3 m3 e3)
 generalize (((W1.setCell ⟨w.heap.size, 0, none⟩ (.bool b3)).setCell ⟨w.heap.size, 1, none⟩ (.slice A3 n3 c3)).setCell ⟨w.heap.size, 2, none⟩ (.bool d3)).setCell ⟨w.heap.size, 3, none⟩ (.slice B3 m3 e3) = W4 at S ⊢
 clear r1_0 r1_1 r1_2 r1_3 f1_0 f1_1 f1_2 f1_3
 have lx1 := szR_num hx
 refine wp_region_steps (m := 5) rfl (by kernel_rfl) (fun iF vF wF => (List.getD [fun vF _ => vF = .pointer (some ⟨w.heap.size, 0, none⟩), fun vF _ => vF = .agg #[.bool b3, .slice A3 n3 c3], fun vF wF => IntRep wF vF (-x.num), fun vF _ => vF = .pointer (some ⟨w.heap.size, 2, none⟩), fun vF _ => vF = .agg #[.bool d3, .slice B3 m3 e3]] iF (fun _ _ => True)) vF wF) [] ?_ ?_ ?_
 ·intro i v w w' hi h hk
  rcases (show i = 0 ∨ i = 1 ∨ i = 2 ∨ i = 3 ∨ i = 4 by omega) with rfl | rfl | rfl | rfl | rfl
  all_goals simp only [gz, gs] at h ⊢
  all_goals first | exact h | exact IntRep.below h hk | exact RatRep.below h hk
 ·intro i hi vs w3 hk3 hd
  have S3 := S.drew.below hk3
  obtain ⟨a0, a1, a2, a3⟩ := S3.cc4 1 rfl
  match i, hi with
  | 0, _ =>
   refine step_yes [] rfl (by kernel_rfl) fun K hK => ?_; simp only [frD] at hK ⊢; refine ⟨by rfl, ?_⟩; go_simp
   exact hK _ _ ⟨Below.refl _ _, rfl, by simp⟩
  | 1, _ =>
   have e0 := hd 0 (cm (by kernel_rfl)); simp only [gz] at e0
   refine step_yes [(0, some 5)] rfl (by kernel_rfl) fun K hK => ?_; simp only [frD, e0] at hK ⊢; refine ⟨by rfl, ?_⟩; go_simp
   exact hK _ _ ⟨Below.refl _ _, rfl, by simp⟩
  | 2, _ =>
   have e1 := hd 1 (cm (by kernel_rfl)); simp only [gz, gs] at e1
   refine step_yes [(1, some 6)] rfl (by kernel_rfl) fun K hK => ?_; simp only [frD, e1] at hK ⊢; refine ⟨by rfl, ?_⟩; go_simp
   refine (neg_num ((S3.qi 0 rfl).nn hx)).mono ?_; rintro e w4 ⟨U, rfl, hr, hk4⟩; exact hK _ _ ⟨hk4, hr, by simp⟩
  | 3, _ =>
   refine step_yes [] rfl (by kernel_rfl) fun K hK => ?_; simp only [frD] at hK ⊢; refine ⟨by rfl, ?_⟩; go_simp
   exact hK _ _ ⟨Below.refl _ _, rfl, by simp⟩
  | 4, _ =>
   have e3 := hd 3 (cm (by kernel_rfl)); simp only [gz, gs] at e3
   refine step_yes [(3, some 8)] rfl (by kernel_rfl) fun K hK => ?_; simp only [frD, e3] at hK ⊢; refine ⟨by rfl, ?_⟩; go_simp
   exact hK _ _ ⟨Below.refl _ _, rfl, by simp⟩
  | i + 5, hi => exact absurd hi (by omega)
 ·intro vs wpb hk3 hΦ _
  simp only [List.drop_succ_cons, List.drop_zero]
  rw [fr_frD, show (List.range 5).map _ = [(0, some 5), (1, some 6), (2, some 7), (3, some 8), (4, some 9)] by kernel_rfl]
  have pb0 := hΦ 0 (by omega); simp only [gz] at pb0
  have pb1 := hΦ 1 (by omega); simp only [gz, gs] at pb1
  have pb2 := hΦ 2 (by omega); simp only [gz, gs] at pb2
  have pb3 := hΦ 3 (by omega); simp only [gz, gs] at pb3
  have pb4 := hΦ 4 (by omega); simp only [gz, gs] at pb4
  clear hΦ
  simp only [frD, pb0, pb1, pb3, pb4]
  simp only [Act.put, List.setIfInBounds_toArray, List.set_cons_zero, List.set_cons_succ]
  clear pb0 pb1 pb3 pb4
  generalize vs 2 = U2 at pb2 ⊢
  replace S := S.drew.below hk3
  obtain ⟨b5, A5, n5, c5, rfl⟩ := pb2.open3
  replace S := S.addI pb2
  clear pb2 hk3
  obtain ⟨r0_0, r0_1, r0_2, r0_3⟩ := S.cc4 0 rfl
  obtain ⟨f0_0, f0_1, f0_2, f0_3⟩ := S.ff4 0 rfl
  go_wp2
  replace S := S.put4 0 rfl rfl rfl (x' := .bool b5) (y' := .slice A5 n5 c5) (z' := .bool d3) (u' := .slice B3 m3 e3)
  refine bodyPost_ret (v := .agg #[.bool b5, .slice A5 n5 c5, .bool d3, .slice B3 m3 e3]) (by simp [results, Tryz.results69, go_sem, S.c 0 0 rfl rfl, S.c 0 1 rfl rfl, S.c 0 2 rfl rfl, S.c 0 3 rfl rfl]) rfl ?_
  exact ⟨_, rfl, RatRep.mk (S.ii 0 rfl) (S.qi 1 rfl).d (Rat.neg_num x).symm (by rw [Rat.neg_den]), S.k⟩

set_option maxRecDepth 100000 in
set_option maxHeartbeats 1000000 in
theorem fsub_num {w : World} {V1 V2 : Value} {x y : Rat} (h1 : RatNum w V1 x) (h2 : RatNum w V2 y) : Calls Tryz.prog 35 #[V1, V2] w (RGives (x - y) w) := by
 obtain ⟨b1, A1, n1, c1, d1, B1, m1, e1, rfl⟩ := h1.open_
 obtain ⟨b2, A2, n2, c2, d2, B2, m2, e2, rfl⟩ := h2.open_
 have hx := h1.sz
 have hy := h2.sz
 have S := (((St.start w).alloc 35 [.bool b1, .slice A1 n1 c1, .bool d1, .slice B1 m1 e1]).alloc 35 [.bool b2, .slice A2 n2 c2, .bool d2, .slice B2 m2 e2]).alloc 35 [.bool false, .slice none 0 0, .bool false, .slice none 0 0]
 simp only [World.size_alloc] at S
 go_enter Tryz.func35, Tryz.ntmps35
 go_wp2_with fail
 generalize ((w.alloc (.cells #[.bool b1, .slice A1 n1 c1, .bool d1, .slice B1 m1 e1] 35)).alloc (.cells #[.bool b2, .slice A2 n2 c2, .bool d2, .slice B2 m2 e2] 35)).alloc (.cells #[.bool false, .slice none 0 0, .bool false, .slice none 0 0] 35) = W at *
 refine wp_region_steps (m := 4) rfl (by kernel_rfl) (fun iF vF wF => (List.getD [fun vF _ => vF = .agg #[.bool b1, .slice A1 n1 c1, .bool d1, .slice B1 m1 e1], fun vF _ => vF = .agg #[.bool b2, .slice A2 n2 c2, .bool d2, .slice B2 m2 e2], fun vF wF => RatRep wF vF (-y), fun vF wF => RatRep wF vF (x - y)] iF (fun _ _ => True)) vF wF) [] ?_ ?_ ?_
 ·intro i v w w' hi h hk
  rcases (show i = 0 ∨ i = 1 ∨ i = 2 ∨ i = 3 by omega) with rfl | rfl | rfl | rfl
  all_goals simp only [gz, gs] at h ⊢
  all_goals first | exact h | exact IntRep.below h hk | exact RatRep.below h hk
 ·intro i hi vs w3 hk3 hd
  have S3 := S.drew.below hk3
  obtain ⟨a0, a1, a2, a3⟩ := S3.cc4 2 rfl
  obtain ⟨a4, a5, a6, a7⟩ := S3.cc4 1 rfl
  match i, hi with
  | 0, _ =>
   refine step_yes [] rfl (by kernel_rfl) fun K hK => ?_; simp only [frD] at hK ⊢; refine ⟨by rfl, ?_⟩; go_simp
   exact hK _ _ ⟨Below.refl _ _, rfl, by simp⟩
  | 1, _ =>
   refine step_yes [] rfl (by kernel_rfl) fun K hK => ?_; simp only [frD] at hK ⊢; refine ⟨by rfl, ?_⟩; go_simp
   exact hK _ _ ⟨Below.refl _ _, rfl, by simp⟩
  | 2, _ =>
   have e1 := hd 1 (cm (by kernel_rfl)); simp only [gz, gs] at e1
   refine step_yes [(1, some 6)] rfl (by kernel_rfl) fun K hK => ?_; simp only [frD, e1] at hK ⊢; refine ⟨by rfl, ?_⟩; go_simp
   refine (fneg_num (h2.below S3.k)).mono ?_; rintro e w4 ⟨U, rfl, hr, hk4⟩; exact hK _ _ ⟨hk4, hr, by simp⟩
  | 3, _ =>
   have e0 := hd 0 (cm (by kernel_rfl)); simp only [gz] at e0; have h2 := hd 2 (cm (by kernel_rfl)); simp only [gz, gs] at h2
   refine step_yes [(0, some 5), (2, some 7)] rfl (by kernel_rfl) fun K hK => ?_; simp only [frD, e0] at hK ⊢; refine ⟨by rfl, ?_⟩; go_simp
   refine (rgives_eq (fadd_num (h1.below S3.k) (h2.num (by rw [szR_neg]; exact hy))) (Rat.sub_eq_add_neg x y).symm).mono ?_; rintro e w4 ⟨U, rfl, hr, hk4⟩; exact hK _ _ ⟨hk4, hr, by simp⟩
  | i + 4, hi => exact absurd hi (by omega)
 ·intro vs wpa hk3 hΦ _
  simp only [List.drop_succ_cons, List.drop_zero]
  rw [fr_frD, show (List.range 4).map _ = [(0, some 5), (1, some 6), (2, some 7), (3, some 8)] by kernel_rfl]
  have pa0 := hΦ 0 (by omega); simp only [gz] at pa0
  have pa1 := hΦ 1 (by omega); simp only [gz, gs] at pa1
  have pa2 := hΦ 2 (by omega); simp only [gz, gs] at pa2
  have pa3 := hΦ 3 (by omega); simp only [gz, gs] at pa3
  clear hΦ
  simp only [frD, pa0, pa1]
  simp only [Act.put, List.setIfInBounds_toArray, List.set_cons_zero, List.set_cons_succ]
  clear pa0 pa1
  generalize vs 2 = U2 at pa2 ⊢
  generalize vs 3 = U3 at pa3 ⊢
  replace S := S.drew.below hk3
  obtain ⟨b5, A5, n5, c5, d5, B5, m5, e5, rfl⟩ := pa3.open_
  replace S := S.addQ pa3
  clear pa2 pa3 hk3
  obtain ⟨r0_0, r0_1, r0_2, r0_3⟩ := S.cc4 0 rfl
  obtain ⟨f0_0, f0_1, f0_2, f0_3⟩ := S.ff4 0 rfl
  go_wp2
  replace S := S.put4 0 rfl rfl rfl (x' := .bool b5) (y' := .slice A5 n5 c5) (z' := .bool d5) (u' := .slice B5 m5 e5)
  refine bodyPost_ret (v := .agg #[.bool b5, .slice A5 n5 c5, .bool d5, .slice B5 m5 e5]) (by simp [results, Tryz.results35, go_sem, S.c 0 0 rfl rfl, S.c 0 1 rfl rfl, S.c 0 2 rfl rfl, S.c 0 3 rfl rfl]) rfl ?_
  exact ⟨_, rfl, S.qi 0 rfl, S.k⟩

end Go.Proofs.YtecibfncnaccjaaGreat
namespace Go.Proofs.YtecibfncnaccjaaGreat
open Go.RowKit

structure LateOk (ops : Array Oper) (m d e : Nat) : Prop where
 apart : ∀ j k, j < m → k < m → ∀ d, dstOf ops j = some d → dstOf ops k = some d → j = k
 reads : ∀ i j, i < m → j < m → ∀ o d, ops[i]? = some o → dstOf ops j = some d → d ∈ o.looksAt ops → j ∈ bindsOf ops i
 noSel : ∀ i, i < ops.size → ∃ o, ops[i]? = some o ∧ isSel o = false
 back : ∀ i j, j ∈ bindsOf ops i → j < i
 dm : d < m
 ms : m ≤ ops.size
 me : m ≤ e
 es : e ≤ ops.size
 tail : ∀ k, k < ops.size → m ≤ k → ∀ j, j < k → j ≠ d → j ∈ reachOf ops 5 k
 free : ∀ i, i < e → d ∉ bindsOf ops i
 still : ∀ k, m ≤ k → k < e → dstOf ops k = none
 wait : ∀ k, e ≤ k → k < ops.size → d ∈ reachOf ops 5 k
 blind : ∀ k o t, m ≤ k → k < e → ops[k]? = some o → dstOf ops d = some t → t ∉ o.looksAt ops

section
variable {P : Program} {ops : Array Oper} {Q : Exit → Act → World → Prop} {vs : Nat → Value} {a : Act}
theorem tail_done {m d e : Nat} (hok : LateOk ops m d e) : ∀ (fuel k : Nat) (listed : Array Bool) (a : Act) (w : World), m ≤ k → ops.size ≤ k + fuel → k ≤ ops.size → listed.size = ops.size →
 (∀ j, j < ops.size → (listed.getD j false = true ↔ j < k)) → wpList P ops Q (ops.toList.drop k) a w → wpAny P .any ops Q fuel listed a w := by
 intro fuel
 induction fuel with
 | zero =>
  intro k listed a w hmk hf hks hsz hl h
  have hk : k = ops.size := by omega
  refine ⟨?_, ?_⟩
  ·apply List.eq_nil_iff_forall_not_mem.2
   intro j hj
   obtain ⟨h0, hlt, -⟩ := ready_iff.1 hj
   rw [getD_both (by omega)] at h0
   have := (hl j hlt).2 (by omega)
   rw [h0] at this; cases this
  ·rw [hk, List.drop_of_length_le (by simp)] at h
   exact h
 | succ fuel ih =>
  intro k listed a w hmk hf hks hsz hl h
  by_cases hk : k = ops.size
  ·refine wpAny_done (List.eq_nil_iff_forall_not_mem.2 fun j hj => ?_) ?_ _
   ·obtain ⟨h0, hlt, -⟩ := ready_iff.1 hj
    rw [getD_both (by omega)] at h0
    have := (hl j hlt).2 (by omega)
    rw [h0] at this; cases this
   ·rw [hk, List.drop_of_length_le (by simp)] at h
    exact h
  have hk : k < ops.size := by omega
  have hkr : k ∈ Region.ready .any ops listed := by
   refine ready_iff.2 ⟨?_, hk, fun j hj => (hl j (Nat.lt_trans (hok.back k j hj) hk)).2 (hok.back k j hj)⟩
   rw [getD_both (by omega)]
   cases hc : listed.getD k false with
   | false => rfl
   | true => exact absurd ((hl k hk).1 hc) (by omega)
  refine ⟨fun e => (by rw [e] at hkr; cases hkr), fun i hi => ?_⟩
  obtain ⟨h0, hlt, hb⟩ := ready_iff.1 hi
  rw [getD_both (by omega)] at h0
  have hge : k ≤ i := Nat.le_of_not_lt fun hik => by
   have := (hl i hlt).2 hik
   rw [h0] at this; cases this
  have hle : i ≤ k := Nat.le_of_not_lt fun hki => by
   have hkin := hok.tail i hlt (by omega) k hki (by have := hok.dm; omega)
   have hc := reach_closed (ops := ops) (S := (· < k)) (fun j hj k' hk' => Nat.lt_trans (hok.back j k' hk') hj) 5 i (fun j hj => (hl j (Nat.lt_trans (hok.back i j hj) hlt)).1 (hb j hj)) k hkin
   exact absurd hc (Nat.lt_irrefl k)
  obtain rfl : i = k := by omega
  have hd : ops.toList.drop i = ops[i] :: ops.toList.drop (i + 1) := by
   rw [List.drop_eq_getElem_cons (by simpa using hk)]; simp
  rw [hd] at h
  unfold wpOp
  simp only [hk, Array.getElem?_eq_getElem]
  have next : ∀ a w, wpList P ops Q (ops.toList.drop (i + 1)) a w → wpAny P .any ops Q fuel (listed.setIfInBounds i true) a w := fun a w h' => by
   refine ih (i + 1) _ a w (by omega) (by omega) (by omega) (by simpa using hsz) (fun j hj => ?_) h'
   by_cases hji : j = i
   ·subst hji
    simp [hsz, hk]
   ·rw [getD_set_ne false (Ne.symm hji), hl j hj]
    omega
  unfold wpList at h
  split
  ·rename_i hw
   simp only [hw, if_true] at h
   exact h.imp (Oper.wp_mono next) id
  ·rename_i hw
   simp only [hw] at h
   exact next _ _ h


theorem wpOp_blind {i : Nat} {o : Oper} {t : Option Tmp} {v : Value} {f : Act} {w : World} {K : Act → World → Prop} (hi : ops[i]? = some o) (hs : isSel o = false) (hdst : o.dst = none)
 (hl : ∀ u, t = some u → u ∉ o.looksAt ops) (h : wpOp P ops (fun e a w => e = .normal ∧ Q e a w) i K (f.put t v) w) :
 wpOp P ops Q i (fun a' w' => a'.tmps = f.tmps ∧ K (a'.put t v) w') f w := by
 have hsel' : ∀ cs b, o.op ≠ .select cs b := fun cs b e => by simp [isSel, e] at hs
 have heval : ∀ u, u ∈ o.looksAt ops → f.tmps[u]? = (f.put t v).tmps[u]? := fun u hu => by
  cases t with
  | none => rfl
  | some x =>
   have hne : x ≠ u := fun e => hl x rfl (e ▸ hu)
   simp only [put_tmps]
   rw [Array.getElem?_setIfInBounds_ne hne]
 have he : execOp f.eval o = execOp (f.put t v).eval o := execOp_congr o hsel' fun x hx => by
  cases x with
  | tmp u =>
   have := heval u (List.mem_append_left _ (List.mem_filterMap.2 ⟨.tmp u, by simpa using hx, rfl⟩))
   simp only [Act.eval, Array.getD_eq_getD_getElem?, this]
  | _ => rfl
 have hw : Region.wanted o (yielded ops f.tmps) = Region.wanted o (yielded ops (f.put t v).tmps) := by
  unfold Region.wanted
  cases hg : o.guard with
  | none => rfl
  | some gw =>
   obtain ⟨g, want⟩ := gw
   have : yielded ops f.tmps g = yielded ops (f.put t v).tmps g := by
    unfold yielded
    cases ht : (ops[g]?).bind (·.dst) with
    | none => rfl
    | some u =>
     have := heval u (by simp [Oper.looksAt, hg, ht])
     simp only [Option.bind_some, this]
   simp only [this]
 unfold wpOp at *
 simp only [hi] at *
 rw [hw]
 have no : ¬ LetsOut (fun (e : Exit) (a : Act) (w : World) => e = .normal ∧ Q e a w) := fun ⟨_, _, h, _⟩ => by cases h
 split
 ·rename_i hw1
  simp only [hw1, if_true] at h
  rcases h with h | ⟨_, h⟩
  ·refine .inl ?_
   unfold Oper.wp at *
   rw [he]
   generalize (execOp (f.put t v).eval o).run P w = r at *
   cases r with
   | ok n w' =>
    cases n <;> simp only [Oper.upon, hdst] at h ⊢
    case value u => exact ⟨rfl, h⟩
    case skip => exact ⟨rfl, h⟩
    case defer d =>
     refine ⟨rfl, ?_⟩
     cases t <;> exact h
    case enter g args =>
     refine Calls.mono h fun e w'' he => ?_
     cases e with
     | returned u => exact ⟨rfl, he⟩
     | panicked c => exact absurd he.1 (by intro h; cases h)
     | outgrown => exact absurd he no
    case row row args => exact Rows.mono h fun u w'' he => ⟨rfl, he⟩
   | halt x w' =>
    cases x <;> simp only [Oper.upon] at h ⊢ <;> exact absurd h.1 (by intro h; cases h)
  ·exact absurd h no
 ·rename_i hw1
  simp only [hw1] at h
  simp only [hdst] at h ⊢
  exact ⟨rfl, h⟩

theorem wpList_normal {l : List Oper} {a : Act} {w : World} (h : wpList P ops (fun e a w => e = .normal ∧ Q e a w) l a w) : wpList P ops Q l a w := by
 have no : ¬ LetsOut (fun (e : Exit) (a : Act) (w : World) => e = .normal ∧ Q e a w) := fun ⟨_, _, h, _⟩ => by cases h
 induction l generalizing a w with
 | nil => exact h.2
 | cons o l ih =>
  unfold wpList at h ⊢
  split
  ·rename_i hw
   simp only [hw, if_true] at h
   rcases h with h | ⟨_, h⟩
   ·refine .inl ?_
    unfold Oper.wp at h ⊢
    generalize (execOp a.eval o).run P w = r at h ⊢
    cases r with
    | ok n w' =>
     cases n <;> simp only [Oper.upon] at h ⊢
     case value u => exact ih h
     case skip => exact ih h
     case defer d => exact ih h
     case enter g args =>
      refine Calls.mono h fun e w'' he => ?_
      cases e with
      | returned u => exact ih he
      | panicked c => exact absurd he.1 (by intro h; cases h)
      | outgrown => exact absurd he no
     case row row args => exact Rows.mono h fun u w'' he => ih he
    | halt x w' =>
     cases x <;> simp only [Oper.upon] at h ⊢ <;> exact absurd h.1 (by intro h; cases h)
   ·exact absurd h no
  ·rename_i hw
   simp only [hw, Bool.false_eq_true, if_false] at h
   exact ih h

theorem tail_late {m d e : Nat} {v : Value} {f : Act} (hok : LateOk ops m d e)
 (hd : ∀ a' w (K : Act → World → Prop), a'.tmps = f.tmps → K (a'.put (dstOf ops d) v) w → wpOp P ops Q d K a' w) :
 ∀ (fuel k : Nat) (listed : Array Bool) (a' : Act) (w : World), a'.tmps = f.tmps → m ≤ k → ops.size + 1 ≤ k + fuel → k ≤ e → listed.size = ops.size →
 (∀ j, j < ops.size → (listed.getD j false = true ↔ j < k ∧ j ≠ d)) → wpList P ops (fun e a w => e = .normal ∧ Q e a w) (ops.toList.drop k) (a'.put (dstOf ops d) v) w → wpAny P .any ops Q fuel listed a' w := by
 intro fuel
 induction fuel with
 | zero => intro k listed a' w ha hmk hf hke; have := hok.es; omega
 | succ fuel ih =>
  intro k listed a' w ha hmk hf hke hsz hl h
  have hks := Nat.le_trans hke hok.es
  have hdlt : d < ops.size := Nat.lt_of_lt_of_le hok.dm hok.ms
  have hdr : d ∈ Region.ready .any ops listed := by
   refine ready_iff.2 ⟨?_, hdlt, fun j hj => (hl j (Nat.lt_trans (hok.back d j hj) hdlt)).2 ⟨?_, Nat.ne_of_lt (hok.back d j hj)⟩⟩
   ·rw [getD_both (by omega)]
    cases hc : listed.getD d false with
    | false => rfl
    | true => exact absurd rfl ((hl d hdlt).1 hc).2
   ·exact Nat.lt_of_lt_of_le (Nat.lt_trans (hok.back d j hj) hok.dm) hmk
  refine ⟨fun e => (by rw [e] at hdr; cases hdr), fun i hi => ?_⟩
  obtain ⟨h0, hlt, hb⟩ := ready_iff.1 hi
  rw [getD_both (by omega)] at h0
  by_cases hid : i = d
  ·subst hid
   refine hd a' w _ ha ?_
   refine tail_done hok fuel k _ _ w hmk (by omega) hks (by simpa using hsz) (fun j hj => ?_) (wpList_normal h)
   by_cases hji : j = i
   ·subst hji
    have := hok.dm
    simp [hsz, hdlt]
    omega
   ·rw [getD_set_ne false (Ne.symm hji), hl j hj]
    exact ⟨fun h => h.1, fun h => ⟨h, hji⟩⟩
  have hge : k ≤ i := Nat.le_of_not_lt fun hik => by
   have := (hl i hlt).2 ⟨hik, hid⟩
   rw [h0] at this; cases this
  have hle : i ≤ k := Nat.le_of_not_lt fun hki => by
   have hkin := hok.tail i hlt (by omega) k hki (by have := hok.dm; omega)
   have hc := reach_closed (ops := ops) (S := (· < k)) (fun j hj k' hk' => Nat.lt_trans (hok.back j k' hk') hj) 5 i (fun j hj => ((hl j (Nat.lt_trans (hok.back i j hj) hlt)).1 (hb j hj)).1) k hkin
   exact absurd hc (Nat.lt_irrefl k)
  obtain rfl : i = k := by omega
  have hie : i < e := Nat.lt_of_not_le fun hei => by
   have hc := reach_closed (ops := ops) (S := fun j => j < i ∧ j ≠ d) (fun j hj k' hk' => ⟨Nat.lt_trans (hok.back j k' hk') hj.1, fun h => hok.free j (by omega) (h ▸ hk')⟩) 5 i (fun j hj => (hl j (Nat.lt_trans (hok.back i j hj) hlt)).1 (hb j hj)) d (hok.wait i hei hlt)
   exact hc.2 rfl
  have hdrop : ops.toList.drop i = ops[i] :: ops.toList.drop (i + 1) := by
   rw [List.drop_eq_getElem_cons (by simpa using hlt)]; simp
  rw [hdrop] at h
  have hio : ops[i]? = some ops[i] := by simp [hlt]
  obtain ⟨o, ho, hsel⟩ := hok.noSel i hlt
  have hoi : o = ops[i] := by rw [hio] at ho; exact (Option.some.inj ho).symm
  have hdst : (ops[i]).dst = none := by have := hok.still i hmk hie; simpa [dstOf, hio] using this
  have h' : wpOp P ops (fun e a w => e = .normal ∧ Q e a w) i (wpList P ops (fun e a w => e = .normal ∧ Q e a w) (ops.toList.drop (i + 1))) (a'.put (dstOf ops d) v) w := by
   unfold wpOp
   simp only [hio]
   unfold wpList at h
   exact h
  refine wpOp_mono (fun a2 w2 hx => ?_) (wpOp_blind hio (hoi ▸ hsel) hdst (fun u hu => hok.blind i _ u hmk hie hio hu) h')
  refine ih (i + 1) _ a2 w2 (hx.1.trans ha) (by omega) (by omega) hie (by simpa using hsz) (fun j hj => ?_) hx.2
  by_cases hji : j = i
  ·subst hji
   simp [hsz, hlt, hid]
  ·rw [getD_set_ne false (Ne.symm hji), hl j hj]
   omega
theorem looks_late {m d e i : Nat} {o : Oper} {l : List Nat} (hok : LateOk ops m d e) (hi : i < m) (ho : ops[i]? = some o) (hl : ∀ j ∈ l, j < m) (hb : ∀ j ∈ bindsOf ops i, j ∈ l) {t : Tmp} (ht : t ∈ o.looksAt ops) :
 (fr ops vs a l).tmps[t]? = (fr ops vs a (depsOf ops m i)).tmps[t]? := by
 have hdm : ∀ j ∈ depsOf ops m i, j < m ∧ j ∈ bindsOf ops i := fun j hj => by
  simp only [depsOf, List.mem_filter, List.mem_range, List.contains_iff_mem] at hj
  exact hj
 refine fr_same (fun j k hj hk hdj hdk => hok.apart j k (hj.elim (hl j) fun h => (hdm j h).1) (hk.elim (hl k) fun h => (hdm k h).1) t hdj hdk) fun j hdj => ⟨fun hj => ?_, fun hj => hb j (hdm j hj).2⟩
 have := hok.reads i j hi (hl j hj) o t ho hdj ht
 simp only [depsOf, List.mem_filter, List.mem_range, List.contains_iff_mem]
 exact ⟨hl j hj, this⟩

theorem head_late {m d e : Nat} (hok : LateOk ops m d e) (Φ : Nat → Value → World → Prop) (own : List Nat) (w0 : World) (a0 : Act)
 (hΦ : ∀ i v w w', i < m → Φ i v w → Keeps w w' → Φ i v w')
 (hstep : ∀ i, i < m → ∀ vs w, Keeps w0 w → (∀ j ∈ depsOf ops m i, Φ j (vs j) w) → ∀ K : Act → World → Prop,
  (∀ v w', Hands Φ own i w v w' → K ((fr ops vs a0 (depsOf ops m i)).put (dstOf ops i) v) w') → wpOp P ops (fun _ _ _ => False) i K (fr ops vs a0 (depsOf ops m i)) w)
 (hdo : d ∉ own)
 (hpure : ∀ vs w, Keeps w0 w → (∀ j ∈ depsOf ops m d, Φ j (vs j) w) → ∃ v, Φ d v w ∧ ∀ w' (K : Act → World → Prop), K ((fr ops vs a0 (depsOf ops m d)).put (dstOf ops d) v) w' → wpOp P ops (fun _ _ _ => False) d K (fr ops vs a0 (depsOf ops m d)) w')
 (htail : ∀ vs w, Keeps w0 w → (∀ i, i < m → Φ i (vs i) w) → (∀ i j, i < m → j < m → i ∈ own → j ∈ own → i ≠ j → vs i ≠ vs j) → wpList P ops (fun e a w => e = .normal ∧ Q e a w) (ops.toList.drop m) (fr ops vs a0 (List.range m)) w) :
 ∀ (fuel : Nat) (l : List Nat) (vs : Nat → Value) (listed : Array Bool) (w : World), l.Nodup → (∀ j ∈ l, j < m) → ops.size ≤ l.length + fuel → listed.size = ops.size →
  (∀ j, j < ops.size → (listed.getD j false = true ↔ j ∈ l)) → (∀ j ∈ l, ∀ k ∈ bindsOf ops j, k ∈ l) → Keeps w0 w → (∀ j ∈ l, Φ j (vs j) w) →
  (∀ j ∈ l, j ∈ own → ∃ b, vs j = .pointer (some ⟨b, 0, none⟩) ∧ b < w.heap.size) → (∀ i ∈ l, ∀ j ∈ l, i ∈ own → j ∈ own → i ≠ j → vs i ≠ vs j) →
  wpAny P .any ops Q fuel listed (fr ops vs a0 l) w := by
 have hms := hok.ms
 intro fuel
 induction fuel with
 | zero =>
  intro l vs listed w hn hl hf hsz hll hcl hk hΦl ho1 ho2
  refine (?_ : wpAny P .any ops Q 0 listed _ w)
  have hlen := nodup_len m l hn hl
  have hall : ∀ j, j < m → j ∈ l := fun j hj => Classical.byContradiction fun hc => by
   have := nodup_len m (j :: l) (List.nodup_cons.2 ⟨hc, hn⟩) (fun x hx => by rcases List.mem_cons.1 hx with rfl | h; exact hj; exact hl x h)
   simp at this
   omega
  have hfr : fr ops vs a0 l = fr ops vs a0 (List.range m) := by
   have ht : (fr ops vs a0 l).tmps = (fr ops vs a0 (List.range m)).tmps := Array.ext_getElem? fun t => fr_same
    (fun j k hj hk hdj hdk => hok.apart j k (hj.elim (hl j) List.mem_range.1) (hk.elim (hl k) List.mem_range.1) t hdj hdk) (fun j _ => ⟨fun h => List.mem_range.2 (hl j h), fun h => hall j (List.mem_range.1 h)⟩)
   have hd : (fr ops vs a0 l).defers = (fr ops vs a0 (List.range m)).defers := by rw [fr_defers, fr_defers]
   exact act_ext ht hd
  rw [hfr]
  refine tail_done hok 0 m listed _ w (Nat.le_refl _) (by omega) hms hsz (fun j hj => ?_) (wpList_normal (htail vs w hk (fun i hi => hΦl i (hall i hi)) (fun i j hi hj => ho2 i (hall i hi) j (hall j hj))))
  rw [hll j hj]
  exact ⟨hl j, hall j⟩
 | succ fuel ih =>
  intro l vs listed w hn hl hf hsz hll hcl hk hΦl ho1 ho2
  by_cases hlate : (∀ j, j < m → j ≠ d → j ∈ l) ∧ d ∉ l
  ·obtain ⟨hall, hdl⟩ := hlate
   have hdlt : d < ops.size := Nat.lt_of_lt_of_le hok.dm hms
   obtain ⟨o, ho, hsel⟩ := hok.noSel d hdlt
   have hbd : ∀ j ∈ bindsOf ops d, j ∈ l := fun j hj => hall j (Nat.lt_trans (hok.back d j hj) hok.dm) (Nat.ne_of_lt (hok.back d j hj))
   have hdepd : ∀ j ∈ depsOf ops m d, j ∈ l := fun j hj => by
    simp only [depsOf, List.mem_filter, List.mem_range, List.contains_iff_mem] at hj
    exact hbd j hj.2
   obtain ⟨v, hv, hgo⟩ := hpure vs w hk fun j hj => hΦl j (hdepd j hj)
   have hlen := nodup_len m (d :: l) (List.nodup_cons.2 ⟨hdl, hn⟩) (fun x hx => by
    rcases List.mem_cons.1 hx with rfl | h
    ·exact hok.dm
    ·exact hl x h)
   simp only [List.length_cons] at hlen
   have hsel' : ∀ cs b, o.op ≠ .select cs b := fun cs b e => by simp [isSel, e] at hsel
   have hdst : dstOf ops d = o.dst := by simp [dstOf, ho]
   have heval : ∀ t, t ∈ o.looksAt ops → (fr ops vs a0 l).tmps[t]? = (fr ops vs a0 (depsOf ops m d)).tmps[t]? := fun t ht => looks_late hok hok.dm ho hl hbd ht
   have hfr : (fr ops vs a0 l).put (dstOf ops d) v = fr ops (fun j => if j = d then v else vs j) a0 (List.range m) := by
    have h1 : (fr ops vs a0 l).put (dstOf ops d) v = fr ops (fun j => if j = d then v else vs j) a0 (d :: l) := by
     rw [fr, fr_ext (us := fun j => if j = d then v else vs j) (vs := vs) l (fun j hj => by simp [show j ≠ d from fun e => hdl (e ▸ hj)])]
     simp
    rw [h1]
    have hin : ∀ j, j ∈ d :: l ↔ j < m := fun j => ⟨fun h => by
     rcases List.mem_cons.1 h with rfl | h
     ·exact hok.dm
     ·exact hl j h, fun h => by
     by_cases hjd : j = d
     ·exact hjd ▸ List.mem_cons_self
     ·exact List.mem_cons_of_mem _ (hall j h hjd)⟩
    refine act_ext (Array.ext_getElem? fun t => fr_same (fun j k hj hk hdj hdk => hok.apart j k (hj.elim (hin j).1 List.mem_range.1) (hk.elim (hin k).1 List.mem_range.1) t hdj hdk) (fun j _ => ⟨fun h => List.mem_range.2 ((hin j).1 h), fun h => (hin j).2 (List.mem_range.1 h)⟩)) ?_
    rw [fr_defers, fr_defers]
   have hne : ∀ i, i ∈ own → i ≠ d := fun i hi e => hdo (e ▸ hi)
   refine tail_late (v := v) (f := fr ops vs a0 l) hok ?_ (fuel + 1) m listed _ w rfl (Nat.le_refl _) (by omega) hok.me hsz (fun j hj => ?_) ?_
   ·intro a' w' K ha hK
    have he : execOp a'.eval o = execOp (fr ops vs a0 (depsOf ops m d)).eval o := execOp_congr o hsel' fun x hx => by
     cases x with
     | tmp t =>
      have := heval t (List.mem_append_left _ (List.mem_filterMap.2 ⟨.tmp t, by simpa using hx, rfl⟩))
      simp only [Act.eval, Array.getD_eq_getD_getElem?, ha, this]
     | _ => rfl
    have hw : Region.wanted o (yielded ops a'.tmps) = Region.wanted o (yielded ops (fr ops vs a0 (depsOf ops m d)).tmps) := by
     unfold Region.wanted
     cases hg : o.guard with
     | none => rfl
     | some gw =>
      obtain ⟨g, want⟩ := gw
      have : yielded ops a'.tmps g = yielded ops (fr ops vs a0 (depsOf ops m d)).tmps g := by
       unfold yielded
       cases ht : (ops[g]?).bind (·.dst) with
       | none => rfl
       | some t =>
        have := heval t (by simp [Oper.looksAt, hg, ht])
        simp only [Option.bind_some, ha, this]
      simp only [this]
    refine wpOp_mono (fun a2 w2 hx => ?_) (wpOp_move (Q := Q) (X := fun v' w2 => v' = v ∧ w2 = w') ho he hw (by rw [ha, fr_size, fr_size]) fun K2 hK2 => hgo w' K2 (hdst ▸ hK2 v w' ⟨rfl, rfl⟩))
    obtain ⟨v', rfl, rfl, rfl⟩ := hx
    rw [← hdst]
    exact hK
   ·rw [hll j hj]
    exact ⟨fun h => ⟨hl j h, fun e => hdl (e ▸ h)⟩, fun h => hall j h.1 h.2⟩
   ·rw [hfr]
    refine htail _ w hk (fun i hi => ?_) (fun i j hi hj hio hjo hij => ?_)
    ·by_cases hid : i = d
     ·subst hid; simpa using hv
     ·simp only [hid, if_false]
      exact hΦl i (hall i hi hid)
    ·simp only [hne i hio, hne j hjo, if_false]
     exact ho2 i (hall i hi (hne i hio)) j (hall j hj (hne j hjo)) hio hjo hij
  by_cases hall : ∀ j, j < m → j ∈ l
  ·have hfr : fr ops vs a0 l = fr ops vs a0 (List.range m) := by
    have ht : (fr ops vs a0 l).tmps = (fr ops vs a0 (List.range m)).tmps := Array.ext_getElem? fun t => fr_same
     (fun j k hj hk hdj hdk => hok.apart j k (hj.elim (hl j) List.mem_range.1) (hk.elim (hl k) List.mem_range.1) t hdj hdk) (fun j _ => ⟨fun h => List.mem_range.2 (hl j h), fun h => hall j (List.mem_range.1 h)⟩)
    have hd : (fr ops vs a0 l).defers = (fr ops vs a0 (List.range m)).defers := by rw [fr_defers, fr_defers]
    exact act_ext ht hd
   have hlen := nodup_len m l hn hl
   rw [hfr]
   refine tail_done hok (fuel + 1) m listed _ w (Nat.le_refl _) (by omega) hms hsz (fun j hj => ?_) (wpList_normal (htail vs w hk (fun i hi => hΦl i (hall i hi)) (fun i j hi hj => ho2 i (hall i hi) j (hall j hj))))
   rw [hll j hj]
   exact ⟨hl j, hall j⟩
  ·refine ⟨fun e => ?_, fun i hi => ?_⟩
   ·exfalso
    obtain ⟨j, ⟨hj, hjl⟩, hmin⟩ := least (p := fun j => j < ops.size ∧ j ∉ l) (Classical.byContradiction fun hc => hall fun j hj => Classical.byContradiction fun hjl => hc ⟨j, by omega, hjl⟩)
    have : j ∈ Region.ready .any ops listed := by
     refine ready_iff.2 ⟨?_, hj, fun k hk => ?_⟩
     ·rw [getD_both (by omega)]
      cases hc : listed.getD j false with
      | false => rfl
      | true => exact absurd ((hll j hj).1 hc) hjl
     ·have hkj := hok.back j k hk
      refine (hll k (by omega)).2 (Classical.byContradiction fun hkl => hmin k hkj ⟨by omega, hkl⟩)
    rw [e] at this
    cases this
   ·obtain ⟨h0, hlt, hb⟩ := ready_iff.1 hi
    have hbl : ∀ j ∈ bindsOf ops i, j ∈ l := fun j hj => (hll j (by have := hok.back i j hj; omega)).1 (hb j hj)
    have him : i < m := Nat.lt_of_not_le fun hmi => by
     have hx : ∀ j, j < m → j ≠ d → j ∈ l := fun j hj hjd => reach_closed (ops := ops) (S := (· ∈ l)) hcl 5 i hbl j (hok.tail i hlt hmi j (by omega) hjd)
     have hy : d ∈ l := Classical.byContradiction fun hc => hlate ⟨hx, hc⟩
     exact hall fun j hj => by
      by_cases hjd : j = d
      ·exact hjd ▸ hy
      ·exact hx j hj hjd
    have hil : i ∉ l := fun h => by
     have := (hll i hlt).2 h
     rw [getD_both (by omega), this] at h0
     cases h0
    obtain ⟨o, ho, hsel⟩ := hok.noSel i hlt
    have hsel' : ∀ cs b, o.op ≠ .select cs b := fun cs b e => by simp [isSel, e] at hsel
    have heval : ∀ t, t ∈ o.looksAt ops → (fr ops vs a0 l).tmps[t]? = (fr ops vs a0 (depsOf ops m i)).tmps[t]? := fun t ht => looks_late hok him ho hl hbl ht
    have he : execOp (fr ops vs a0 l).eval o = execOp (fr ops vs a0 (depsOf ops m i)).eval o := execOp_congr o hsel' fun x hx => by
     cases x with
     | tmp t =>
      have := heval t (List.mem_append_left _ (List.mem_filterMap.2 ⟨.tmp t, by simpa using hx, rfl⟩))
      simp only [Act.eval, Array.getD_eq_getD_getElem?, this]
     | _ => rfl
    have hw : Region.wanted o (yielded ops (fr ops vs a0 l).tmps) = Region.wanted o (yielded ops (fr ops vs a0 (depsOf ops m i)).tmps) := by
     unfold Region.wanted
     cases hg : o.guard with
     | none => rfl
     | some gw =>
      obtain ⟨g, want⟩ := gw
      have : yielded ops (fr ops vs a0 l).tmps g = yielded ops (fr ops vs a0 (depsOf ops m i)).tmps g := by
       unfold yielded
       cases ht : (ops[g]?).bind (·.dst) with
       | none => rfl
       | some t =>
        have := heval t (by simp [Oper.looksAt, hg, ht])
        simp only [Option.bind_some, this]
      simp only [this]
    have hdst : dstOf ops i = o.dst := by simp [dstOf, ho]
    have hdeps : ∀ j ∈ depsOf ops m i, j ∈ l := fun j hj => by
     simp only [depsOf, List.mem_filter, List.mem_range, List.contains_iff_mem] at hj
     exact hbl j hj.2
    have hmove := wpOp_move (P := P) (Q := Q) (X := Hands Φ own i w) ho he hw (by rw [fr_size, fr_size]) (hdst ▸ hstep i him vs w hk fun j hj => hΦl j (hdeps j hj))
    refine wpOp_mono (fun a' w' hX => ?_) hmove
    obtain ⟨v, rfl, hkw, hv, hown⟩ := hX
    have hfr : (fr ops vs a0 l).put o.dst v = fr ops (fun j => if j = i then v else vs j) a0 (i :: l) := by
     rw [fr, hdst, fr_ext (us := fun j => if j = i then v else vs j) (vs := vs) l (fun j hj => by simp [show j ≠ i from fun e => hil (e ▸ hj)])]
     simp
    have hsize : w.heap.size ≤ w'.heap.size := hkw.size
    rw [hfr]
    refine ih (i :: l) _ _ w' (List.nodup_cons.2 ⟨hil, hn⟩) (fun j hj => ?_) (by simp only [List.length_cons]; omega) (by simpa using hsz) (fun j hj => ?_) (fun j hj k hk' => ?_) (hk.trans' hkw) (fun j hj => ?_) (fun j hj hjo => ?_) (fun j hj k hk' hjo hko hne => ?_)
    ·rcases List.mem_cons.1 hj with rfl | h
     ·exact him
     ·exact hl j h
    ·by_cases hji : j = i
     ·subst hji
      simp [hsz, hlt]
     ·rw [getD_set_ne false (Ne.symm hji), hll j hj]
      simp [hji]
    ·rcases List.mem_cons.1 hj with rfl | h
     ·exact List.mem_cons_of_mem _ (hbl k hk')
     ·exact List.mem_cons_of_mem _ (hcl j h k hk')
    ·by_cases hji : j = i
     ·subst hji
      simpa using hv
     ·have hjl : j ∈ l := (List.mem_cons.1 hj).resolve_left hji
      simp only [hji, if_false]
      exact hΦ j _ w w' (hl j hjl) (hΦl j hjl) hkw
    ·by_cases hji : j = i
     ·subst hji
      simp only [if_true]
      exact ⟨_, (hown hjo).1, (hown hjo).2⟩
     ·have hjl : j ∈ l := (List.mem_cons.1 hj).resolve_left hji
      simp only [hji, if_false]
      obtain ⟨b, hb, hlt⟩ := ho1 j hjl hjo
      exact ⟨b, hb, by omega⟩
    ·by_cases hji : j = i
     ·subst hji
      have hkj : k ≠ j := fun e => hne e.symm
      have hkl : k ∈ l := (List.mem_cons.1 hk').resolve_left hkj
      simp only [if_true, hkj, if_false]
      obtain ⟨b, hb, hlt⟩ := ho1 k hkl hko
      rw [(hown hjo).1, hb]
      intro e
      simp only [Value.pointer.injEq, Option.some.injEq, Addr.mk.injEq] at e
      omega
     ·have hjl : j ∈ l := (List.mem_cons.1 hj).resolve_left hji
      by_cases hki : k = i
      ·subst hki
       simp only [if_true, hji, if_false]
       obtain ⟨b, hb, hlt⟩ := ho1 j hjl hjo
       rw [(hown hko).1, hb]
       intro e
       simp only [Value.pointer.injEq, Option.some.injEq, Addr.mk.injEq] at e
       omega
      ·have hkl : k ∈ l := (List.mem_cons.1 hk').resolve_left hki
       simp only [hji, hki, if_false]
       exact ho2 j hjl k hkl hjo hko hne


def lateOk (ops : Array Oper) (m d e : Nat) : Bool :=
 ((List.range m).all fun j => (List.range m).all fun k => j == k || dstOf ops j == none || dstOf ops j != dstOf ops k) &&
 ((List.range m).all fun i => (List.range m).all fun j => match ops[i]?, dstOf ops j with | some o, some d => !(o.looksAt ops).contains d || (bindsOf ops i).contains j | _, _ => true) &&
 ((List.range ops.size).all fun i => match ops[i]? with | some o => !isSel o | none => false) &&
 ((List.range ops.size).all fun i => (bindsOf ops i).all fun j => decide (j < i) && (j != d || decide (e ≤ i))) &&
 ((List.range ops.size).all fun k => decide (k < m) || ((List.range k).all fun j => j == d || (reachOf ops 5 k).contains j) && (if e ≤ k then (reachOf ops 5 k).contains d else dstOf ops k == none &&
  match ops[k]?, dstOf ops d with | some o, some t => !(o.looksAt ops).contains t | _, _ => true)) &&
 decide (d < m) && decide (m ≤ ops.size) && decide (m ≤ e) && decide (e ≤ ops.size)

theorem lateOk_spec {m d e : Nat} (h : lateOk ops m d e = true) : LateOk ops m d e := by
 simp only [lateOk, Bool.and_eq_true, List.all_eq_true, List.mem_range, decide_eq_true_eq] at h
 obtain ⟨⟨⟨⟨⟨⟨⟨⟨h1, h2⟩, h3⟩, h4⟩, h5⟩, h6⟩, h7⟩, h8⟩, h9⟩ := h
 have h5' : ∀ k, k < ops.size → m ≤ k → (∀ j, j < k → j ≠ d → j ∈ reachOf ops 5 k) ∧ (if e ≤ k then (reachOf ops 5 k).contains d else dstOf ops k == none && (match ops[k]?, dstOf ops d with | some o, some t => !(o.looksAt ops).contains t | _, _ => true)) = true := fun k hk hmk => by
  have := h5 k hk
  rw [Bool.or_eq_true, Bool.and_eq_true] at this
  rcases this with h | ⟨ha, hc⟩
  ·have := of_decide_eq_true h; omega
  ·refine ⟨fun j hj hjd => ?_, hc⟩
   have := List.all_eq_true.1 ha j (List.mem_range.2 hj)
   simpa [hjd] using this
 refine ⟨fun j k hj hk d hdj hdk => ?_, fun i j hi hj o d ho hd hl => ?_, fun i hi => ?_, fun i j hj => ?_, h6, h7, h8, h9, fun k hk hmk => (h5' k hk hmk).1, fun i hie hd => ?_, fun k hmk hke => ?_, fun k hek hk => ?_, fun k o t hmk hke ho hd hl => ?_⟩
 ·have := h1 j hj k hk
  simpa [hdj, hdk] using this
 ·have := h2 i hi j hj
  simpa [ho, hd, hl] using this
 ·have := h3 i hi
  cases ho : ops[i]? with
  | none => simp [ho] at this
  | some o => exact ⟨o, rfl, by simpa [ho] using this⟩
 ·by_cases hi : i < ops.size
  ·exact (h4 i hi j hj).1
  ·rw [bindsOf_out hi] at hj; cases hj
 ·have := (h4 i (by omega) d hd).2
  simp at this
  omega
 ·have := (h5' k (by omega) hmk).2
  rw [if_neg (by omega), Bool.and_eq_true] at this
  simpa using this.1
 ·have := (h5' k hk (by omega)).2
  rw [if_pos hek] at this
  simpa using this
 ·have := (h5' k (by omega) hmk).2
  rw [if_neg (by omega), Bool.and_eq_true] at this
  have := this.2
  simp only [ho, hd] at this
  simp [hl] at this

structure Late (P : Program) (ops : Array Oper) (Φ : Nat → Value → World → Prop) (m d : Nat) (vs : Nat → Value) (a : Act) (w : World) : Prop where
 go : ∃ v, Φ d v w ∧ ∀ w' (K : Act → World → Prop), K ((fr ops vs a (depsOf ops m d)).put (dstOf ops d) v) w' → wpOp P ops (fun _ _ _ => False) d K (fr ops vs a (depsOf ops m d)) w'
theorem wp_region_late {id m : Nat} (d e : Nat) {w0 : World} (hm : P.follows .mixedOrders = true) (hok : lateOk ops m d e = true) (Φ : Nat → Value → World → Prop) (own : List Nat)
 (hdo : d ∉ own)
 (hΦ : ∀ i v w w', i < m → Φ i v w → Keeps w w' → Φ i v w')
 (hstep : ∀ i, i < m → ∀ vs w, Keeps w0.drew w → (∀ j ∈ depsOf ops m i, Φ j (vs j) w) → Step P ops Φ own m i vs a w)
 (hpure : ∀ vs w, Keeps w0.drew w → (∀ j ∈ depsOf ops m d, Φ j (vs j) w) → Late P ops Φ m d vs a w)
 (htail : ∀ vs w, Keeps w0.drew w → (∀ i, i < m → Φ i (vs i) w) → (∀ i j, i < m → j < m → i ∈ own → j ∈ own → i ≠ j → vs i ≠ vs j) → wpList P ops (fun e a w => e = .normal ∧ Q e a w) (ops.toList.drop m) (fr ops vs a (List.range m)) w) :
 (Code.region id ops true).wp P Q a w0 := by
 refine wp_region_any hm ?_
 exact head_late (lateOk_spec hok) Φ own w0.drew a hΦ (fun i hi vs w hk hd => (hstep i hi vs w hk hd).go) hdo (fun vs w hk hd => (hpure vs w hk hd).go) htail ops.size [] (fun _ => undef) _ _ List.nodup_nil (fun _ h => by cases h) (by simp) (by simp)
  (fun j hj => by simp [hj]) (fun _ h => by cases h) (RowKit.Below.refl _ _) (fun _ h => by cases h) (fun _ h => by cases h) (fun _ h => by cases h)

theorem pure_at {m d : Nat} {o : Oper} {v : Value} {w : World} {Φ : Nat → Value → World → Prop} (ds : List (Nat × Option Tmp)) (hi : ops[d]? = some o) (hl : (depsOf ops m d).map (fun j => (j, dstOf ops j)) = ds) (hΦ : Φ d v w)
 (h : ∀ w' (K : Act → World → Prop), K ((frD vs a ds).put o.dst v) w' → Region.wanted o (yielded ops (frD vs a ds).tmps) = true ∧ Oper.wp P o (frD vs a ds) w' K (fun _ _ _ => False)) :
 Late P ops Φ m d vs a w := by
 refine ⟨v, hΦ, fun w' K hK => ?_⟩
 have hd : dstOf ops d = o.dst := by simp [dstOf, hi]
 rw [fr_frD, hl, hd] at hK
 rw [fr_frD, hl]
 obtain ⟨hw, hh⟩ := h w' K hK
 unfold wpOp
 simp only [hi, hw, if_true]
 exact .inl hh
end
end Go.Proofs.YtecibfncnaccjaaGreat
