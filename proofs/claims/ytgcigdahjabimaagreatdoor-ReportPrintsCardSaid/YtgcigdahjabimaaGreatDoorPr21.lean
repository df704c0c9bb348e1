/- More for straight walks: a box made anywhere in a region; pairs of a fraction and a code. No program in sight. More for straight walks printed by walk.py: the world named; pairs with an integer; the magnitude. No program in sight. The walks of fraction.Sign, Neg, Sub, Floor, Ceil. A law for a region that draws its order, with one late operation: it reads no memory and nobody waits for it. No program in sight. The simplest fraction of an interval: its definition by fuel, and that no other one of the interval is simpler. No program in sight. The simplest fraction of any interval. No program in sight. The walk of fraction.simplest. -/
import Derived.Test.YtgcigdahjabimaaGreatDoorPr20
import Derived.Test.YtgcigdahjabimaaGreatDoorPr19
import Derived.Test.YtgcigdahjabimaaGreatDoorPr9
namespace Go.Proofs.YtgcigdahjabimaaGreatDoor
open Go.RowKit

theorem St.box {w0 W w' : World} {bs : List Bx} {ps : List (World → Prop)} (S : St w0 W bs ps) (S' : St w0 w' bs ps) {b : Nat} {t : TypeId} {vs : List Value} (hO : Own w' b t vs) (hb : W.heap.size ≤ b) : St w0 w' ((b, t, vs) :: bs) ps := by
 refine ⟨S'.k, ⟨hO, S'.b⟩, ?_, ?_, S'.p⟩
 ·intro p hp
  rcases List.mem_cons.1 hp with rfl | hp
  ·exact Nat.le_trans S.k.size hb
  ·exact S'.lo p hp
 ·rw [List.pairwise_cons]
  exact ⟨fun q hq e => by have := (S.b.mem hq).lt; simp only at e; omega, S'.d⟩
def FstQ (c : Int) (q : Rat) (v : Value) (w : World) : Prop := if c = 0 then RatRep w v q else v = zeroRat
def TupQ (c : Int) (q : Rat) (v : Value) (w : World) : Prop := ∃ Q, v = .tuple #[Q, .int .i64 c] ∧ FstQ c q Q w
theorem FstQ.below {c : Int} {q : Rat} {v : Value} {w w' : World} (h : FstQ c q v w) (hk : Keeps w w') : FstQ c q v w' := by
 unfold FstQ at h ⊢
 split
 ·rw [if_pos (by assumption)] at h; exact h.below hk
 ·rw [if_neg (by assumption)] at h; exact h
theorem TupQ.below {c : Int} {q : Rat} {v : Value} {w w' : World} (h : TupQ c q v w) (hk : Keeps w w') : TupQ c q v w' := by
 obtain ⟨Q, e, hq⟩ := h
 exact ⟨Q, e, hq.below hk⟩
theorem rcode_eq {P : Program} {F : FuncId} {args : Array Value} {w : World} {c c' : Int} {q q' : Rat} (h : Calls P F args w (RCode c q w)) (e : c = c') (e2 : q = q') : Calls P F args w (RCode c' q' w) := by subst e e2; exact h
theorem St.pack {w0 w : World} {bs : List Bx} {ps : List (World → Prop)} (S : St w0 w bs ps) : ∃ W, w = W ∧ St w0 W bs ps := ⟨w, rfl, S⟩
theorem FstQ.rep {q : Rat} {v : Value} {w : World} (h : FstQ 0 q v w) : RatRep w v q := by unfold FstQ at h; rwa [if_pos rfl] at h
theorem FstQ.zero {c : Int} {q : Rat} {v : Value} {w : World} (h : FstQ c q v w) (hc : c ≠ 0) : v = zeroRat := by unfold FstQ at h; rwa [if_neg hc] at h
def TupI (z : Int) (v : Value) (w : World) : Prop := ∃ Q, v = .tuple #[Q, .int .i64 0] ∧ IntRep w Q z
def TupD (q r : Int) (v : Value) (w : World) : Prop := ∃ Q R, v = .tuple #[Q, R, .int .i64 0] ∧ IntRep w Q q ∧ IntRep w R r
theorem TupI.below {z : Int} {v : Value} {w w' : World} (h : TupI z v w) (hk : Keeps w w') : TupI z v w' := by
 obtain ⟨Q, e, hq⟩ := h
 exact ⟨Q, e, hq.below hk⟩
theorem TupD.below {q r : Int} {v : Value} {w w' : World} (h : TupD q r v w) (hk : Keeps w w') : TupD q r v w' := by
 obtain ⟨Q, R, e, hq, hr⟩ := h
 exact ⟨Q, R, e, hq.below hk, hr.below hk⟩
theorem isgn_pos (z : Int) : 0 < z.sign ↔ 0 < z := by
 rcases Int.lt_trichotomy z 0 with h | h | h
 ·rw [Int.sign_eq_neg_one_of_neg h]; omega
 ·subst h; simp
 ·rw [Int.sign_eq_one_of_pos h]; omega
theorem isgn_neg (z : Int) : z.sign < 0 ↔ z < 0 := by
 rcases Int.lt_trichotomy z 0 with h | h | h
 ·rw [Int.sign_eq_neg_one_of_neg h]; omega
 ·subst h; simp
 ·rw [Int.sign_eq_one_of_pos h]; omega
theorem rsgn_pos (x : Rat) : 0 < x.num.sign ↔ 0 < x := by
 rw [isgn_pos, Rat.lt_iff]
 simp
theorem rsgn_neg (x : Rat) : x.num.sign < 0 ↔ x < 0 := by
 rw [isgn_neg, Rat.lt_iff]
 simp
end Go.Proofs.YtgcigdahjabimaaGreatDoor
namespace Go.Proofs.YtgcigdahjabimaaGreatDoor
open Go.RowKit Go.Shelf

set_option maxRecDepth 100000 in
set_option maxHeartbeats 1000000 in
theorem fsign_s {w : World} {V1 : Value} {x : Rat} {s : Int} (h1 : RatNum w V1 x) (hs : x.num.sign = s) : Calls Tryz.prog 59 #[V1] w fun e w' => e = .returned (.int .i64 s) ∧ Keeps w w' := by
 obtain ⟨b1, A1, n1, c1, d1, B1, m1, e1, rfl⟩ := h1.open_
 have hx := h1.sz
 have S := (St.start w).alloc 31 [.bool b1, .slice A1 n1 c1, .bool d1, .slice B1 m1 e1]
 have HS := Lib.hid hs
 clear hs
 go_enter Tryz.func59, Tryz.ntmps59
 go_wp2_with fail
 generalize w.alloc (.cells #[.bool b1, .slice A1 n1 c1, .bool d1, .slice B1 m1 e1] 31) = W at *
 refine (fvalue_num (h1.below S.k)).mono ?_
 rintro e W1 ⟨U, rfl, hp, hk⟩
 obtain ⟨b3, A3, n3, c3, d3, B3, m3, e3, rfl⟩ := hp.open_
 replace S := (S.below hk).addQ hp
 clear hk hp
 have hf := run_field_num (.bool b3) (.slice A3 n3 c3) (.bool d3) (.slice B3 m3 e3)
 go_wp2_with fail
 refine (sign_s ((S.qi 0 rfl).nn hx) HS.out).mono ?_
 rintro e W2 ⟨rfl, hk⟩
 replace S := S.below hk
 go_wp2
 go_ret
 exact ⟨rfl, S.k⟩

set_option maxRecDepth 100000 in
set_option maxHeartbeats 1000000 in
theorem fneg_num {w : World} {V1 : Value} {x : Rat} (h1 : RatNum w V1 x) : Calls Tryz.prog 89 #[V1] w (RGives (-x) w) := by
 obtain ⟨b1, A1, n1, c1, d1, B1, m1, e1, rfl⟩ := h1.open_
 have hx := h1.sz
 have S := ((St.start w).alloc 31 [.bool b1, .slice A1 n1 c1, .bool d1, .slice B1 m1 e1]).alloc 31 [.bool false, .slice none 0 0, .bool false, .slice none 0 0]
 simp only [World.size_alloc] at S
 go_enter Tryz.func89, Tryz.ntmps89
 go_wp2_with fail
 generalize (w.alloc (.cells #[.bool b1, .slice A1 n1 c1, .bool d1, .slice B1 m1 e1] 31)).alloc (.cells #[.bool false, .slice none 0 0, .bool false, .slice none 0 0] 31) = W at *
 refine (fvalue_num (h1.below S.k)).mono ?_
 rintro e W1 ⟨U, rfl, hp, hk⟩
 obtain ⟨b3, A3, n3, c3, d3, B3, m3, e3, rfl⟩ := hp.open_
 replace S := (S.below hk).addQ hp
 clear hk hp
 obtain ⟨r1_0, r1_1, r1_2, r1_3⟩ := S.cc4 1 rfl
 obtain ⟨f1_0, f1_1, f1_2, f1_3⟩ := S.ff4 1 rfl
 go_upto_region 2 with fail
 replace S := S.put4 1 rfl rfl rfl (x' := .bool b3) (y' := .slice A3 n3 c3) (z' := .bool d3) (u' := .slice B3 m3 e3)
 generalize (((W1.setCell ⟨w.heap.size, 0, none⟩ (.bool b3)).setCell ⟨w.heap.size, 1, none⟩ (.slice A3 n3 c3)).setCell ⟨w.heap.size, 2, none⟩ (.bool d3)).setCell ⟨w.heap.size, 3, none⟩ (.slice B3 m3 e3) = W4 at S ⊢
 clear r1_0 r1_1 r1_2 r1_3 f1_0 f1_1 f1_2 f1_3
 have lx1 := szR_num hx
 refine wp_region_steps (m := 5) rfl (by kernel_rfl) (fun iF vF wF => (List.getD [fun vF _ => vF = .pointer (some ⟨w.heap.size, 0, none⟩), fun vF _ => vF = .agg #[.bool b3, .slice A3 n3 c3], fun vF wF => IntRep wF vF (-x.num), fun vF _ => vF = .pointer (some ⟨w.heap.size, 2, none⟩), fun vF _ => vF = .agg #[.bool d3, .slice B3 m3 e3]] iF (fun _ _ => True)) vF wF) [] ?_ ?_ ?_
 ·intro i v w w' hi h hk
  rcases (show i = 0 ∨ i = 1 ∨ i = 2 ∨ i = 3 ∨ i = 4 by omega) with rfl | rfl | rfl | rfl | rfl
  all_goals simp only [gz, gs] at h ⊢
  all_goals first | exact h | exact IntRep.below h hk | exact RatRep.below h hk
 ·intro i hi vs w3 hk3 hd
  have S3 := S.drew.below hk3
  obtain ⟨a0, a1, a2, a3⟩ := S3.cc4 1 rfl
  match i, hi with
  | 0, _ =>
   refine step_yes [] rfl (by kernel_rfl) fun K hK => ?_; simp only [frD] at hK ⊢; refine ⟨by rfl, ?_⟩; go_simp
   exact hK _ _ ⟨Below.refl _ _, rfl, by simp⟩
  | 1, _ =>
   have e0 := hd 0 (cm (by kernel_rfl)); simp only [gz] at e0
   refine step_yes [(0, some 5)] rfl (by kernel_rfl) fun K hK => ?_; simp only [frD, e0] at hK ⊢; refine ⟨by rfl, ?_⟩; go_simp
   exact hK _ _ ⟨Below.refl _ _, rfl, by simp⟩
  | 2, _ =>
   have e1 := hd 1 (cm (by kernel_rfl)); simp only [gz, gs] at e1
   refine step_yes [(1, some 6)] rfl (by kernel_rfl) fun K hK => ?_; simp only [frD, e1] at hK ⊢; refine ⟨by rfl, ?_⟩; go_simp
   refine (neg_num ((S3.qi 0 rfl).nn hx)).mono ?_; rintro e w4 ⟨U, rfl, hr, hk4⟩; exact hK _ _ ⟨hk4, hr, by simp⟩
  | 3, _ =>
   refine step_yes [] rfl (by kernel_rfl) fun K hK => ?_; simp only [frD] at hK ⊢; refine ⟨by rfl, ?_⟩; go_simp
   exact hK _ _ ⟨Below.refl _ _, rfl, by simp⟩
  | 4, _ =>
   have e3 := hd 3 (cm (by kernel_rfl)); simp only [gz, gs] at e3
   refine step_yes [(3, some 8)] rfl (by kernel_rfl) fun K hK => ?_; simp only [frD, e3] at hK ⊢; refine ⟨by rfl, ?_⟩; go_simp
   exact hK _ _ ⟨Below.refl _ _, rfl, by simp⟩
  | i + 5, hi => exact absurd hi (by omega)
 ·intro vs wpb hk3 hΦ _
  simp only [List.drop_succ_cons, List.drop_zero]
  rw [fr_frD, show (List.range 5).map _ = [(0, some 5), (1, some 6), (2, some 7), (3, some 8), (4, some 9)] by kernel_rfl]
  have pb0 := hΦ 0 (by omega); simp only [gz] at pb0
  have pb1 := hΦ 1 (by omega); simp only [gz, gs] at pb1
  have pb2 := hΦ 2 (by omega); simp only [gz, gs] at pb2
  have pb3 := hΦ 3 (by omega); simp only [gz, gs] at pb3
  have pb4 := hΦ 4 (by omega); simp only [gz, gs] at pb4
  clear hΦ
  simp only [frD, pb0, pb1, pb3, pb4]
  simp only [Act.put, List.setIfInBounds_toArray, List.set_cons_zero, List.set_cons_succ]
  clear pb0 pb1 pb3 pb4
  generalize vs 2 = U2 at pb2 ⊢
  replace S := S.drew.below hk3
  obtain ⟨b5, A5, n5, c5, rfl⟩ := pb2.open3
  replace S := S.addI pb2
  clear pb2 hk3
  obtain ⟨r0_0, r0_1, r0_2, r0_3⟩ := S.cc4 0 rfl
  obtain ⟨f0_0, f0_1, f0_2, f0_3⟩ := S.ff4 0 rfl
  go_wp2
  replace S := S.put4 0 rfl rfl rfl (x' := .bool b5) (y' := .slice A5 n5 c5) (z' := .bool d3) (u' := .slice B3 m3 e3)
  refine bodyPost_ret (v := .agg #[.bool b5, .slice A5 n5 c5, .bool d3, .slice B3 m3 e3]) (by simp [results, Tryz.results89, go_sem, S.c 0 0 rfl rfl, S.c 0 1 rfl rfl, S.c 0 2 rfl rfl, S.c 0 3 rfl rfl]) rfl ?_
  exact ⟨_, rfl, RatRep.mk (S.ii 0 rfl) (S.qi 1 rfl).d (Rat.neg_num x).symm (by rw [Rat.neg_den]), S.k⟩

set_option maxRecDepth 100000 in
set_option maxHeartbeats 1000000 in
theorem fsub_num {w : World} {V1 V2 : Value} {x y : Rat} (h1 : RatNum w V1 x) (h2 : RatNum w V2 y) : Calls Tryz.prog 43 #[V1, V2] w (RGives (x - y) w) := by
 obtain ⟨b1, A1, n1, c1, d1, B1, m1, e1, rfl⟩ := h1.open_
 obtain ⟨b2, A2, n2, c2, d2, B2, m2, e2, rfl⟩ := h2.open_
 have hx := h1.sz
 have hy := h2.sz
 have S := (((St.start w).alloc 31 [.bool b1, .slice A1 n1 c1, .bool d1, .slice B1 m1 e1]).alloc 31 [.bool b2, .slice A2 n2 c2, .bool d2, .slice B2 m2 e2]).alloc 31 [.bool false, .slice none 0 0, .bool false, .slice none 0 0]
 simp only [World.size_alloc] at S
 go_enter Tryz.func43, Tryz.ntmps43
 go_wp2_with fail
 generalize ((w.alloc (.cells #[.bool b1, .slice A1 n1 c1, .bool d1, .slice B1 m1 e1] 31)).alloc (.cells #[.bool b2, .slice A2 n2 c2, .bool d2, .slice B2 m2 e2] 31)).alloc (.cells #[.bool false, .slice none 0 0, .bool false, .slice none 0 0] 31) = W at *
 refine wp_region_steps (m := 4) rfl (by kernel_rfl) (fun iF vF wF => (List.getD [fun vF _ => vF = .agg #[.bool b1, .slice A1 n1 c1, .bool d1, .slice B1 m1 e1], fun vF _ => vF = .agg #[.bool b2, .slice A2 n2 c2, .bool d2, .slice B2 m2 e2], fun vF wF => RatRep wF vF (-y), fun vF wF => RatRep wF vF (x - y)] iF (fun _ _ => True)) vF wF) [] ?_ ?_ ?_
 ·intro i v w w' hi h hk
  rcases (show i = 0 ∨ i = 1 ∨ i = 2 ∨ i = 3 by omega) with rfl | rfl | rfl | rfl
  all_goals simp only [gz, gs] at h ⊢
  all_goals first | exact h | exact IntRep.below h hk | exact RatRep.below h hk
 ·intro i hi vs w3 hk3 hd
  have S3 := S.drew.below hk3
  obtain ⟨a0, a1, a2, a3⟩ := S3.cc4 2 rfl
  obtain ⟨a4, a5, a6, a7⟩ := S3.cc4 1 rfl
  match i, hi with
  | 0, _ =>
   refine step_yes [] rfl (by kernel_rfl) fun K hK => ?_; simp only [frD] at hK ⊢; refine ⟨by rfl, ?_⟩; go_simp
   exact hK _ _ ⟨Below.refl _ _, rfl, by simp⟩
  | 1, _ =>
   refine step_yes [] rfl (by kernel_rfl) fun K hK => ?_; simp only [frD] at hK ⊢; refine ⟨by rfl, ?_⟩; go_simp
   exact hK _ _ ⟨Below.refl _ _, rfl, by simp⟩
  | 2, _ =>
   have e1 := hd 1 (cm (by kernel_rfl)); simp only [gz, gs] at e1
   refine step_yes [(1, some 6)] rfl (by kernel_rfl) fun K hK => ?_; simp only [frD, e1] at hK ⊢; refine ⟨by rfl, ?_⟩; go_simp
   refine (fneg_num (h2.below S3.k)).mono ?_; rintro e w4 ⟨U, rfl, hr, hk4⟩; exact hK _ _ ⟨hk4, hr, by simp⟩
  | 3, _ =>
   have e0 := hd 0 (cm (by kernel_rfl)); simp only [gz] at e0; have h2 := hd 2 (cm (by kernel_rfl)); simp only [gz, gs] at h2
   refine step_yes [(0, some 5), (2, some 7)] rfl (by kernel_rfl) fun K hK => ?_; simp only [frD, e0] at hK ⊢; refine ⟨by rfl, ?_⟩; go_simp
   refine (rgives_eq (fadd_num (h1.below S3.k) (h2.num (by rw [szR_neg]; exact hy))) (Rat.sub_eq_add_neg x y).symm).mono ?_; rintro e w4 ⟨U, rfl, hr, hk4⟩; exact hK _ _ ⟨hk4, hr, by simp⟩
  | i + 4, hi => exact absurd hi (by omega)
 ·intro vs wpa hk3 hΦ _
  simp only [List.drop_succ_cons, List.drop_zero]
  rw [fr_frD, show (List.range 4).map _ = [(0, some 5), (1, some 6), (2, some 7), (3, some 8)] by kernel_rfl]
  have pa0 := hΦ 0 (by omega); simp only [gz] at pa0
  have pa1 := hΦ 1 (by omega); simp only [gz, gs] at pa1
  have pa2 := hΦ 2 (by omega); simp only [gz, gs] at pa2
  have pa3 := hΦ 3 (by omega); simp only [gz, gs] at pa3
  clear hΦ
  simp only [frD, pa0, pa1]
  simp only [Act.put, List.setIfInBounds_toArray, List.set_cons_zero, List.set_cons_succ]
  clear pa0 pa1
  generalize vs 2 = U2 at pa2 ⊢
  generalize vs 3 = U3 at pa3 ⊢
  replace S := S.drew.below hk3
  obtain ⟨b5, A5, n5, c5, d5, B5, m5, e5, rfl⟩ := pa3.open_
  replace S := S.addQ pa3
  clear pa2 pa3 hk3
  obtain ⟨r0_0, r0_1, r0_2, r0_3⟩ := S.cc4 0 rfl
  obtain ⟨f0_0, f0_1, f0_2, f0_3⟩ := S.ff4 0 rfl
  go_wp2
  replace S := S.put4 0 rfl rfl rfl (x' := .bool b5) (y' := .slice A5 n5 c5) (z' := .bool d5) (u' := .slice B5 m5 e5)
  refine bodyPost_ret (v := .agg #[.bool b5, .slice A5 n5 c5, .bool d5, .slice B5 m5 e5]) (by simp [results, Tryz.results43, go_sem, S.c 0 0 rfl rfl, S.c 0 1 rfl rfl, S.c 0 2 rfl rfl, S.c 0 3 rfl rfl]) rfl ?_
  exact ⟨_, rfl, S.qi 0 rfl, S.k⟩

end Go.Proofs.YtgcigdahjabimaaGreatDoor
namespace Go.Proofs.YtgcigdahjabimaaGreatDoor
open Go.RowKit

structure LateOk (ops : Array Oper) (m d e : Nat) : Prop where
 apart : ∀ j k, j < m → k < m → ∀ d, dstOf ops j = some d → dstOf ops k = some d → j = k
 reads : ∀ i j, i < m → j < m → ∀ o d, ops[i]? = some o → dstOf ops j = some d → d ∈ o.looksAt ops → j ∈ bindsOf ops i
 noSel : ∀ i, i < ops.size → ∃ o, ops[i]? = some o ∧ isSel o = false
 back : ∀ i j, j ∈ bindsOf ops i → j < i
 dm : d < m
 ms : m ≤ ops.size
 me : m ≤ e
 es : e ≤ ops.size
 tail : ∀ k, k < ops.size → m ≤ k → ∀ j, j < k → j ≠ d → j ∈ reachOf ops 5 k
 free : ∀ i, i < e → d ∉ bindsOf ops i
 still : ∀ k, m ≤ k → k < e → dstOf ops k = none
 wait : ∀ k, e ≤ k → k < ops.size → d ∈ reachOf ops 5 k
 blind : ∀ k o t, m ≤ k → k < e → ops[k]? = some o → dstOf ops d = some t → t ∉ o.looksAt ops

section
variable {P : Program} {ops : Array Oper} {Q : Exit → Act → World → Prop} {vs : Nat → Value} {a : Act}
structure Late (P : Program) (ops : Array Oper) (Φ : Nat → Value → World → Prop) (m d : Nat) (vs : Nat → Value) (a : Act) (w : World) : Prop where
 go : ∃ v, Φ d v w ∧ ∀ w' (K : Act → World → Prop), K ((fr ops vs a (depsOf ops m d)).put (dstOf ops d) v) w' → wpOp P ops (fun _ _ _ => False) d K (fr ops vs a (depsOf ops m d)) w'
end
end Go.Proofs.YtgcigdahjabimaaGreatDoor
namespace Go.Proofs.YtgcigdahjabimaaGreatDoor
open Go.RowKit Go.Shelf

end Go.Proofs.YtgcigdahjabimaaGreatDoor
