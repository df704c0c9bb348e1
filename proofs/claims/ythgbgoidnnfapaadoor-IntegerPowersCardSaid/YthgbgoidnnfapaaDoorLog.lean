/- The walk of Log. -/
import Derived.Test.YthgbgoidnnfapaaDoorLawB
import Derived.Test.YthgbgoidnnfapaaDoorShortNum
import Derived.Test.YthgbgoidnnfapaaDoorBack
import Derived.Test.YthgbgoidnnfapaaDoorRegion
import Derived.RegionIn
import Derived.BigRegionIn
namespace Go.Proofs.YthgbgoidnnfapaaDoor
open Go.RowKit Go.Shelf
attribute [local go_sem] Oper.semAt_some

theorem info_slice : (Tryd.prog.info? 22).map (fun i => (i.zero, i.size, i.bytes)) = some (some (.slice none 0 0), 1, 24) := by kernel_rfl
/-- what round number k of slices.Backward of a row of slices hands over -/
def backEncS (f : Nat → Value) (n k : Nat) : Array Value := #[.int .i64 ((n - 1 - k : Nat) : Int), f (n - 1 - k)]
theorem backS_any (A : Option Addr) (n c : Nat) (w : World) :
    Calls Tryd.prog 70 #[.slice A n c] w fun e w' => e = .returned (.func (.func 90) #[] #[.pointer (some ⟨w.heap.size, 0, none⟩)]) ∧ w' = w.alloc (.cells #[.slice A n c] 76) := by
  go_enter Tryd.func70, Tryd.ntmps70
  go_wp2
  go_ret
  exact ⟨rfl, rfl⟩

set_option maxRecDepth 100000 in
set_option maxHeartbeats 1000000 in
theorem backS_seq (F : Fence) (m : Nat) (hF : F.fn 90) (hro : F.round = none) (hm : 1 ≤ m) (Bs n₀ n c : Nat) (A : Option Addr) (f : Nat → Value) (hn : n ≤ 1000000000) (w : World)
    (hBs : Own w Bs 76 [.slice A n c]) (hr : Row w A n f) (hlt : ∀ b o, A = some ⟨b, o, none⟩ → 0 < n → b < n₀) :
    SeqIdx F m Tryd.prog 90 #[.pointer (some ⟨Bs, 0, none⟩)] (backEncS f n) (BackKp n₀ Bs) n w := by
  intro l J Jx W hW hJ hJx hY h0
  have hBW := hBs.below hW
  have hrW := hr.below hW
  have b0 := hBW.c0
  refine callsIn_of_wp Tryd.func90 rfl hF ?_ hro
  simp only [Tryd.ntmps90, List.size_toArray, List.length_cons, List.length_nil, Nat.reduceAdd, Nat.reduceSub, Array.replicate_succ, Array.replicate_zero, List.push_toArray, List.append_toArray, List.nil_append, List.cons_append]
  gi_wp2
  gi_loopw [3] (fun i wr => ∃ k : Nat, k ≤ n ∧ i = .int .i64 ((n : Int) - 1 - (k : Nat)) ∧ J k wr ∧ BackKp n₀ Bs W wr)
    (fun i _ => (intOf i + 1).toNat)
  case atStart => exact ⟨0, Nat.zero_le _, by go_num, h0, Below.refl _ _, rfl⟩
  case round =>
    obtain ⟨k, hk, rfl, hJs, hnx⟩ := hrel
    have hOwn : Own wr Bs 76 [.slice A n c] := hnx.2.trans hBW
    have c0 := hOwn.c0
    by_cases hlt' : k < n
    · obtain ⟨b, o, rfl, hb, hcell⟩ := hrW (by omega)
      have hcx : wr.cell? ⟨b, o + (n - 1 - k), none⟩ = some (f (n - 1 - k)) := (hnx.1.cell (p := ⟨b, o + (n - 1 - k), none⟩) (hlt b o rfl (by omega))).trans (hcell (n - 1 - k) (by omega))
      clear hcell
      obtain ⟨fn, tmps, assign, body, hy, hR⟩ := hY k wr hJs hlt'
      unfold backEncS at hy
      have e : (n : Int) - 1 - (k : Int) = ((n - 1 - k : Nat) : Int) := by omega
      rw [e]
      clear e
      obtain ⟨q, hq⟩ : ∃ q, n - 1 - k = q := ⟨_, rfl⟩
      rw [hq] at hy hcx ⊢
      have hqn : q < n := by omega
      have HQ := Lib.hid hq
      clear hq
      gi_wp2
      refine hR.mono ?_
      rintro e W3 (⟨rfl, hJ3, hk3⟩ | ⟨rfl, hJx3⟩)
      · gi_wp2
        go_roundw
        case rel => exact ⟨k + 1, by omega, by have := HQ.out; congr 1; omega, hJ3, hnx.t hk3⟩
        case measure => have := HQ.out; simp [intOf]
      · gi_wp2
        refine bodyPost_ret (results_none rfl _ _ _) rfl ?_
        exact ⟨⟨_, rfl⟩, .inr ⟨k + 1, by omega, hJx3⟩⟩
    · obtain rfl : k = n := by omega
      gi_wp2
      go_end0
      exact ⟨⟨_, rfl⟩, .inl hJs⟩

theorem owns_below {w w' : World} {base : Nat} {t : TypeId} {x : Value} {L : Nat} {xs : List Value} (h : w.ownsRow base t 1 x L xs) (hb : Keeps w w') : w'.ownsRow base t 1 x L xs := by
  refine ⟨h.1, ?_⟩
  rcases h.2 with hn | ⟨g, cap, cur, rfl, hbg, hg, rest⟩
  · exact .inl hn
  · exact .inr ⟨g, cap, cur, rfl, hbg, (hb.block g (Array.getElem?_eq_some_iff.1 hg).1).trans hg, rest⟩
theorem owns_apart {w w' : World} {base base' : Nat} {t t' : TypeId} {x v : Value} {L N : Nat} {xs ys : List Value} (h : w.ownsRow base t 1 x L xs) (hr : w.ownsRow base' t' 1 v N ys) (ht : t ≠ t') (hg : w.grownBy w' v.ownBlock) : w'.ownsRow base t 1 x L xs := by
  refine h.kept hg ?_
  rcases h.2 with ⟨rfl, -⟩ | ⟨g, cap, cur, rfl, -, h1, -⟩
  · exact .inl rfl
  · right
    rcases hr.2 with ⟨rfl, -⟩ | ⟨g', cap', cur', rfl, -, h2, -⟩
    · simp [Value.ownBlock]
    · simp only [Value.ownBlock]
      intro e
      cases e
      rw [h1] at h2
      simp only [Option.some.injEq, Obj.cells.injEq] at h2
      exact ht h2.2.1
theorem own_u32 {w : World} {b : Nat} {t : TypeId} {xs : List Nat} (h : Own w b t (u32s xs)) (hm : xs.length ≤ 1000000) : U32 w (.slice (some ⟨b, 0, none⟩) xs.length xs.length) xs :=
  U32.mk h.row (Nat.le_refl _) (by unfold maxLen; omega) (by intro e; cases e)
theorem owns_len {w : World} {base : Nat} {t : TypeId} {x : Value} {L : Nat} {xs : List Value} (h : w.ownsRow base t 1 x L xs) : lenOf x = L := by
  rcases h.2 with ⟨rfl, rfl⟩ | ⟨g, cap, cur, rfl, -⟩ <;> rfl
/-- a magnitude in a block of the call's own -/
def OwnD (w : World) (base : Nat) (x : Value) (a : Nat) : Prop := w.ownsRow base 48 1 x (dig a).length (u32s (dig a))
/-- the powers 2^(2^i), in a row of slices -/
structure Pows (w : World) (base : Nat) (v : Value) (N : Nat) (ps : Nat → Value) : Prop where
  row : w.ownsRow base 22 1 v N ((List.range N).map ps)
  el : ∀ i, i < N → OwnD w base (ps i) (2 ^ 2 ^ i)
theorem Pows.below {w w' : World} {base : Nat} {v : Value} {N : Nat} {ps : Nat → Value} (h : Pows w base v N ps) (hb : Keeps w w') : Pows w' base v N ps :=
  ⟨owns_below h.row hb, fun i hi => owns_below (h.el i hi) hb⟩
theorem Pows.open_ {w : World} {base : Nat} {v : Value} {N : Nat} {ps : Nat → Value} (h : Pows w base v N ps) (hN : 0 < N) :
    ∃ g cap, v = .slice (some ⟨g, 0, none⟩) N cap ∧ base ≤ g ∧ g < w.heap.size ∧ N ≤ cap ∧ cap ≤ maxLen ∧ ∀ i, i < N → w.cell? ⟨g, i, none⟩ = some (ps i) := by
  rcases h.row.2 with ⟨-, hn⟩ | ⟨g, cap, cur, rfl, hbg, hg, hc, hm, hs, ht⟩
  · omega
  · refine ⟨g, cap, rfl, hbg, (Array.getElem?_eq_some_iff.1 hg).1, hc, hm, fun i hi => ?_⟩
    have := h.row.cells (g := g) rfl i (ps i) (by simp [hi])
    rwa [show (⟨g, 0, none⟩ : Addr).add i = ⟨g, i, none⟩ by unfold Addr.add; split <;> simp_all] at this
theorem Pows.one (w : World) (base : Nat) (x : Value) (hb : base ≤ w.heap.size) (hx : OwnD w base x (2 ^ 2 ^ 0)) : Pows (w.alloc (.cells #[x] 22)) base (.slice (some ⟨w.heap.size, 0, none⟩) 1 1) 1 (fun _ => x) :=
  ⟨⟨by simp, .inr ⟨w.heap.size, 1, #[x], rfl, hb, Own.new w _ [x], Nat.le_refl _, by simp [maxLen], rfl, rfl⟩⟩, fun i hi => by
    obtain rfl : i = 0 := by omega
    exact owns_below hx (box2 _ _)⟩
theorem Pows.snoc {w : World} {base : Nat} {v x : Value} {N : Nat} {ps : Nat → Value} (hr : w.ownsRow base 22 1 v (N + 1) ((List.range N).map ps ++ [x])) (he : ∀ i, i < N → OwnD w base (ps i) (2 ^ 2 ^ i)) (hx : OwnD w base x (2 ^ 2 ^ N)) :
    Pows w base v (N + 1) (fun i => if i = N then x else ps i) := by
  refine ⟨?_, fun i hi => ?_⟩
  · have e : (List.range (N + 1)).map (fun i => if i = N then x else ps i) = (List.range N).map ps ++ [x] := by
      rw [List.range_succ, List.map_append]
      congr 1
      · refine List.map_congr_left fun i hi => ?_
        rw [if_neg (by have := List.mem_range.1 hi; omega)]
      · simp
    rw [e]; exact hr
  · by_cases h : i = N
    · subst h; simp only [if_pos]; exact hx
    · simp only [if_neg h]; exact he i (by omega)
theorem owns_base {w : World} {base base' : Nat} {t : TypeId} {x : Value} {L : Nat} {xs : List Value} (h : w.ownsRow base t 1 x L xs) (hb : base' ≤ base) : w.ownsRow base' t 1 x L xs := by
  refine ⟨h.1, ?_⟩
  rcases h.2 with hn | ⟨g, cap, cur, rfl, hbg, rest⟩
  · exact .inl hn
  · exact .inr ⟨g, cap, cur, rfl, Nat.le_trans hb hbg, rest⟩
theorem pow_bd {i m : Nat} (h : 2 ^ 2 ^ i ≤ m) (hl : (dig m).length ≤ 100000) : i < 22 := by
  rcases Nat.lt_or_ge i 22 with h1 | h1
  · exact h1
  · exfalso
    have h2 := dig_lt m
    have h3 : 1000000000 ^ (dig m).length ≤ (2 ^ 30) ^ (dig m).length := Nat.pow_le_pow_left (by omega) _
    rw [← Nat.pow_mul] at h3
    have h4 : 2 ^ 22 ≤ 2 ^ i := Nat.pow_le_pow_right (by omega) h1
    have h5 : 2 ^ (30 * (dig m).length) ≤ 2 ^ 2 ^ i := Nat.pow_le_pow_right (by omega) (by omega)
    omega
theorem pow_sq (i : Nat) : 2 ^ 2 ^ i * 2 ^ 2 ^ i = 2 ^ 2 ^ (i + 1) := by
  rw [← Nat.pow_add, Nat.pow_succ]; congr 1; omega
theorem dig_len_pow2 (M K : Nat) (h : 2 ^ M ≤ 29 * K) : (dig (2 ^ 2 ^ M)).length ≤ K := by
  have h2 : 2 ^ 2 ^ M ≤ 2 ^ (29 * K) := Nat.pow_le_pow_right (by omega) h
  rw [Nat.pow_mul] at h2
  have h3 : (2 ^ 29) ^ K ≤ 1000000000 ^ K := Nat.pow_le_pow_left (by omega) _
  rcases Nat.eq_or_lt_of_le (Nat.le_trans h2 h3) with e | e
  · exfalso
    rcases Nat.eq_zero_or_pos K with hk | hk
    · subst hk; have := Nat.two_pow_pos M; omega
    · have h4 : (2 ^ 29) ^ K < 1000000000 ^ K := Nat.pow_lt_pow_left (by omega) (by omega)
      omega
  · exact dig_length_le e
theorem dig_len_pow (M : Nat) (h : M < 23) : (dig (2 ^ 2 ^ M)).length ≤ 200000 := by
  refine dig_len_pow2 M 200000 ?_
  have h1 : 2 ^ M ≤ 2 ^ 22 := Nat.pow_le_pow_right (by omega) (by omega)
  omega
theorem shl_in (k q : Nat) (hk : k < 3000000) (hq : q < 23) : IntKind.i64.wrap ((k : Int) + IntKind.i64.wrap (2 ^ q)) = ((k + 2 ^ q : Nat) : Int) := by
  have h1 : 2 ^ q ≤ 2 ^ 22 := Nat.pow_le_pow_right (by omega) (by omega)
  have e : (2 : Int) ^ q = ((2 ^ q : Nat) : Int) := by rw [Int.natCast_pow]; rfl
  rw [e]
  generalize 2 ^ q = t at *
  rw [IntWalk.i64_in (t : Int) (by omega), IntWalk.i64_in _ (by omega)]
  omega
theorem two_stores {w5 W W7 : World} {B n₀ p1 p2 Bs : Nat} {t1 t2 t3 : TypeId} {x1 x2 x3 : Value} {xs : List Nat} (a b : Value) (kf : Keeps W W7) (j1 : Own W7 p1 t1 [x1]) (j2 : Own W7 p2 t2 [x2]) (j6 : Own W7 Bs t3 [x3]) (i6 : Own W Bs t3 [x3]) (hu : U32 W7 b xs)
    (h1 : noU32 x1 = true) (h2 : noU32 x2 = true) (n1 : n₀ ≤ p1) (n2 : n₀ ≤ p2) (n3 : n₀ ≤ W.heap.size) (hne : p1 ≠ p2) (hb1 : Bs ≠ p1) (hb2 : Bs ≠ p2) (j7 : Keeps w5 W7) (n4 : w5.heap.size ≤ p1) (n5 : w5.heap.size ≤ p2) :
    KeepsFrom B W ((W7.setCell ⟨p1, 0, none⟩ a).setCell ⟨p2, 0, none⟩ b).drew ∧ BackKp n₀ Bs W ((W7.setCell ⟨p1, 0, none⟩ a).setCell ⟨p2, 0, none⟩ b).drew ∧ Own ((W7.setCell ⟨p1, 0, none⟩ a).setCell ⟨p2, 0, none⟩ b).drew p1 t1 [a] ∧
      Own ((W7.setCell ⟨p1, 0, none⟩ a).setCell ⟨p2, 0, none⟩ b).drew p2 t2 [b] ∧ U32 ((W7.setCell ⟨p1, 0, none⟩ a).setCell ⟨p2, 0, none⟩ b).drew b xs ∧ Own ((W7.setCell ⟨p1, 0, none⟩ a).setCell ⟨p2, 0, none⟩ b).drew Bs t3 [x3] ∧
      Keeps w5 ((W7.setCell ⟨p1, 0, none⟩ a).setCell ⟨p2, 0, none⟩ b).drew := by
  have hkf : KeepsFrom B W W7 := ⟨kf.size, fun i o _ hi _ => (kf.block i (Array.getElem?_eq_some_iff.1 hi).1).trans hi⟩
  have j2' := j2.far (p := ⟨p1, 0, none⟩) (Ne.symm hne) a
  refine ⟨hkf.trans ((((KeepsOthers.setCell _ _ _).trans (KeepsOthers.setCell _ _ _)).trans (KeepsOthers.drew _)).from _),
    ⟨Below.drew (((kf.mono n3).setCell (p := ⟨p1, 0, none⟩) n1 _).setCell (p := ⟨p2, 0, none⟩) n2 _), (Below.heap_setCell _ _ _ _ hb2).trans ((Below.heap_setCell _ _ _ _ hb1).trans (kf.block _ i6.lt))⟩,
    ((j1.set 0 a).far (p := ⟨p2, 0, none⟩) hne b).drew, (j2'.set 0 b).drew, ((hu.put j1 (by simp [h1]) 0 a).put j2' (by simp [h2]) 0 b).drew, ((j6.far (p := ⟨p1, 0, none⟩) hb1 a).far (p := ⟨p2, 0, none⟩) hb2 b).drew, Below.drew ((j7.set (p := ⟨p1, 0, none⟩) n4 _).set (p := ⟨p2, 0, none⟩) n5 _)⟩
theorem dig_two : dig (2 ^ 2 ^ 0) = [2] := dig_small (by decide) (by decide)
theorem le_sign (a b : Nat) : (a ≤ b ∧ ((a : Int) - b).sign ≤ 0) ∨ (b < a ∧ 0 < ((a : Int) - b).sign) := by
  rcases Nat.lt_or_ge b a with h | h
  · exact .inr ⟨h, by rw [Int.sign_eq_one_of_pos (by omega)]; omega⟩
  · refine .inl ⟨h, ?_⟩
    rcases Nat.lt_or_eq_of_le h with h | h
    · rw [Int.sign_eq_neg_one_of_neg (by omega)]; omega
    · subst h; simp
theorem compare_s {w : World} {v1 v2 : Value} {a b : Nat} {s : Int} (h1 : U32 w v1 (dig a)) (h2 : U32 w v2 (dig b)) (hm1 : (dig a).length ≤ 1000000000) (hm2 : (dig b).length ≤ 1000000000) (e : ((a : Int) - b).sign = s) :
    Calls Tryd.prog 62 #[v1, v2] w fun e w' => e = .returned (.int .i64 s) ∧ Keeps w w' := by subst e; exact compare_any v1 v2 a b w h1 h2 hm1 hm2

set_option maxRecDepth 100000 in
set_option maxHeartbeats 1000000 in
theorem log_any (neg : Bool) (xs : List Nat) (V : Value) (w : World) (h : IntArg w V neg xs) (hm : xs.length ≤ 100000) :
    Calls Tryd.prog 36 #[V] w fun e w' => e = .returned (.int .i64 (log2 (mag neg xs))) ∧ Keeps w w' := by
  obtain ⟨i0, hi, hz0, hz1, hz2⟩ := info_parts info_slice
  obtain ⟨v, rfl, hv⟩ := h
  have hml := mag_length neg xs
  have hkk := box2 w (.cells #[.bool neg, v] 24)
  have hG := Lib.hid (groups_any neg xs (.agg #[.bool neg, v]) _ ⟨v, rfl, hv.below hkk⟩ (by omega))
  obtain ⟨m, hm0⟩ : ∃ m, mag neg xs = m := ⟨_, rfl⟩
  rw [hm0] at hG hml ⊢
  clear hm0
  by_cases h0 : m = 0
  · subst h0
    go_enter Tryd.func36, Tryd.ntmps36
    go_wp2_with fail
    refine hG.out.mono ?_
    rintro e w1 ⟨v1, rfl, hv1, hk1⟩
    rw [dig_zero] at hv1
    obtain ⟨A, n, c, rfl, e1, -, -, -, hr1⟩ := hv1.open_
    obtain rfl : n = 0 := by simpa using e1.symm
    go_wp2
    go_ret
    exact ⟨rfl, (hkk.trans' hk1).trans' (box2 _ _)⟩
  · have hn0 := dig_length_pos.2 h0
    refine (callsIn_wide (n := 4)).1 ?_
    refine callsIn_of_wp_marks Tryd.func36 rfl trivial ?_ rfl
    simp only [Tryd.ntmps36, List.size_toArray, List.length_cons, List.length_nil, Nat.reduceAdd, Nat.reduceSub, Array.replicate_succ, Array.replicate_zero, List.push_toArray, List.append_toArray, List.nil_append, List.cons_append]
    refine wpIn_wide.2 ?_
    go_wp2_with fail
    refine hG.out.mono ?_
    rintro e w1 ⟨v1, rfl, hv1, hk1⟩
    obtain ⟨A, n, c, rfl, e1, -, -, -, hr1⟩ := hv1.open_
    have hnb : ((n : Int) == 0) = false := by simp; omega
    have hn1 : n ≤ 100000 := by omega
    have hn2 : 0 < n := by omega
    have HE := Lib.hid e1
    have H0 := Lib.hid h0
    clear e1 h0 hn0 hml
    have hk2 := hkk.trans' hk1
    go_wp2
    have hT := ((Own.new w1 22 [.slice A n c]).alloc (.cells #[.int .u32 2] 48)).alloc (.cells #[.slice (some ⟨w1.heap.size + 1, 0, none⟩) 1 1] 22)
    have hk3 := keep3 w1 (.cells #[.slice A n c] 22) (.cells #[.int .u32 2] 48) (.cells #[.slice (some ⟨w1.heap.size + 1, 0, none⟩) 1 1] 22)
    have h2 := own2 w1 (.cells #[.slice A n c] 22) 48 (u32s [2])
    have hP := Pows.one ((w1.alloc (.cells #[.slice A n c] 22)).alloc (.cells #[.int .u32 2] 48)) (w1.heap.size + 1) (.slice (some ⟨w1.heap.size + 1, 0, none⟩) 1 1) (by simp) (by
      unfold OwnD; rw [dig_two]
      exact ⟨by simp [u32s], .inr ⟨w1.heap.size + 1, 1, #[.int .u32 2], rfl, by omega, h2, Nat.le_refl _, by simp [maxLen], rfl, rfl⟩⟩)
    rw [World.size_alloc, World.size_alloc] at hP
    go_loopw [4, 5] (fun v _ wr => ∃ (M : Nat) (ps : Nat → Value), Pows wr (w1.heap.size + 1) v (M + 1) ps ∧ (∀ i, i < M → 2 ^ 2 ^ i ≤ m) ∧ Own wr w1.heap.size 22 [.slice A n c] ∧ Keeps w1 wr ∧ M < 23) (fun v _ _ => 40 - lenOf v)
    case atStart => exact ⟨0, _, hP, fun i hi => absurd hi (by omega), hT, hk3, by omega⟩
    case round =>
      obtain ⟨M, ps, hP, hle, hT1, hkr, hM⟩ := hrel
      obtain ⟨g, cap, rfl, hbg, hg, hcap, hcm, hcell⟩ := hP.open_ (by omega)
      have hc0 := hcell M (by omega)
      have hT0 := hT1.c0
      have hum := hv1.below hkr
      have hup := U32.of_own (hP.el M (by omega))
      obtain ⟨s, hs⟩ : ∃ s, (((2 ^ 2 ^ M : Nat) : Int) - (m : Nat)).sign = s := ⟨_, rfl⟩
      have hL := le_sign (2 ^ 2 ^ M) m
      rw [hs] at hL
      have hcs := Lib.hid (fun W (k : Keeps wr W) => compare_s (hup.below k) (hum.below k) (by have := HE.out; have := dig_length_mono (Nat.le_refl m); exact Nat.le_trans (dig_len_pow M hM) (by omega)) (by have := HE.out; omega) hs)
      clear hs hcell
      have hst := Lib.hid (fun W (k : Keeps wr W) => And.intro ((hT1.below k).c0) ((k.cell (p := ⟨g, M, none⟩) hg).trans hc0))
      have kk : Keeps wr wr.drew := Below.drew (Below.refl _ _)
      have q1 : IntKind.i64.wrap (M : Int) = (M : Int) := IntWalk.i64_in _ (by omega)
      have q2 : (0 : Int) ≤ (M : Int) := by omega
      have q3 : (M : Int) < (M : Int) + 1 := by omega
      rcases hL with ⟨hL, hs⟩ | ⟨hL, hs⟩
      · have hd : decide (s ≤ 0) = true := decide_eq_true hs
        have HL := Lib.hid hL
        have HLE := Lib.hid hle
        clear hL hle
        go_wp2
        go_region_held3 (fun w' => w'.cell? ⟨w1.heap.size, 0, none⟩ = some (.slice A n c) ∧ w'.cell? ⟨g, M, none⟩ = some (ps M))
          (exact hst.out _ kk)
          ((go_at_call 62; refine (hcs.out _ kk).mono ?_; rintro e w5 ⟨rfl, hk5⟩; replace kk := kk.trans' hk5))
        obtain ⟨t0, t1⟩ := hst.out _ kk
        have hP5 := hP.below kk
        have hpl : (dig (2 ^ 2 ^ M)).length ≤ 100000 := by have := dig_length_mono HL.out; have := HE.out; omega
        go_wp2_with fail
        refine (times_any _ _ (2 ^ 2 ^ M) (2 ^ 2 ^ M) _ (U32.of_own (hP5.el M (by omega))) (U32.of_own (hP5.el M (by omega))) (by omega) (by omega)).mono ?_
        rintro e w6 ⟨v6, rfl, hv6, hk6⟩
        rw [pow_sq] at hv6
        obtain ⟨A6, n6, c6, rfl, -⟩ := (U32.of_own hv6).open_
        have hP6 := hP5.below hk6
        have hT6 := (hT1.below kk).below hk6
        have kk6 := hkr.trans' (kk.trans' hk6)
        have hsz := kk6.size
        have hsz5 := (hkr.trans' kk).size
        go_wp2_with (at_builtin; refine wpList_append_own _ rfl _ _ 76 rfl (w1.heap.size + 1) 22 i0 (.slice none 0 0) 1 24 Tryd.underlying76 hi hz0 hz1 hz2 rfl (by decide) _ _ _ rfl (hP6.row.alloc _) ⟨w6.heap.size, 0, none⟩ 1 1 [.slice A6 n6 c6] rfl rfl (newcell _ _ _) (by simp [Value.oneCell']) (by simp only [maxLen]; omega) (by omega) (by simp; omega) ?_; intro v' w7 hown' hgrow _)
        have hle22 := pow_bd HL.out (by have := HE.out; omega)
        replace hgrow : World.grownBy _ w7 (some g) := hgrow
        have hln := owns_len hown'
        go_roundw
        case rel => exact ⟨M + 1, _, Pows.snoc hown' (fun i hi => owns_apart ((hP6.el i hi).alloc _) (hP6.row.alloc _) (by decide) hgrow) (owns_apart ((owns_base hv6 (by have := hT6.lt; have := (hT1.below kk).lt; omega)).alloc _) (hP6.row.alloc _) (by decide) hgrow),
          fun i hi => by
            rcases Nat.lt_or_eq_of_le (Nat.le_of_lt_succ hi) with h | h
            · exact HLE.out i h
            · rw [h]; exact HL.out,
          (hT6.alloc _).grown hgrow (by intro e; cases e; omega), (kk6.alloc hsz _).grown hgrow (by simp; omega) (fun b e => by cases e; omega), by omega⟩
        case measure => show 40 - lenOf v' < 40 - (M + 1); rw [hln]; omega
      · have hd : decide (s ≤ 0) = false := decide_eq_false (by omega)
        have HL := Lib.hid hL
        have HLE := Lib.hid hle
        clear hL hle
        go_wp2
        go_region_held3 (fun w' => w'.cell? ⟨w1.heap.size, 0, none⟩ = some (.slice A n c) ∧ w'.cell? ⟨g, M, none⟩ = some (ps M))
          (exact hst.out _ kk)
          ((go_at_call 62; refine (hcs.out _ kk).mono ?_; rintro e w5 ⟨rfl, hk5⟩; replace kk := kk.trans' hk5))
        obtain ⟨t0, t1⟩ := hst.out _ kk
        go_wp2_with fail
        refine (backS_any _ _ _ _).mono ?_
        rintro e w6 ⟨rfl, rfl⟩
        go_wp2_with fail
        have kw5 := hkr.trans' kk
        have hP5 := hP.below kk
        have hT5 := hT1.below kk
        have hrow : Row w5 (some ⟨g, 0, none⟩) (M + 1) ps := fun _ => by
          obtain ⟨g', cap', e', hbg', hg', -, -, hcell'⟩ := hP5.open_ (by omega)
          cases e'
          exact ⟨g, 0, rfl, hg', fun j hj => by rw [Nat.zero_add]; exact hcell' j hj⟩
        have ho1 := own2 w5 (.cells #[.int .u32 1] 48) 3 [.int .i64 0]
        have hO1 := (((Own.new w5 48 (u32s [1])).alloc (.cells #[.int .i64 0] 3)).alloc (.cells #[.slice (some ⟨w5.heap.size, 0, none⟩) 1 1] 22)).alloc (.cells #[.slice (some ⟨g, 0, none⟩) (M + 1) cap] 76)
        have hN := (ho1.alloc (.cells #[.slice (some ⟨w5.heap.size, 0, none⟩) 1 1] 22)).alloc (.cells #[.slice (some ⟨g, 0, none⟩) (M + 1) cap] 76)
        have hH := (own3 w5 (.cells #[.int .u32 1] 48) (.cells #[.int .i64 0] 3) 22 [.slice (some ⟨w5.heap.size, 0, none⟩) 1 1]).alloc (.cells #[.slice (some ⟨g, 0, none⟩) (M + 1) cap] 76)
        have hS := Own.new (((w5.alloc (.cells #[.int .u32 1] 48)).alloc (.cells #[.int .i64 0] 3)).alloc (.cells #[.slice (some ⟨w5.heap.size, 0, none⟩) 1 1] 22)) 76 [.slice (some ⟨g, 0, none⟩) (M + 1) cap]
        rw [World.size_alloc, World.size_alloc, World.size_alloc] at hS
        have hK := (keep3 w5 (.cells #[.int .u32 1] 48) (.cells #[.int .i64 0] 3) (.cells #[.slice (some ⟨w5.heap.size, 0, none⟩) 1 1] 22)).alloc (by simp; omega) (.cells #[.slice (some ⟨g, 0, none⟩) (M + 1) cap] 76)
        have hg5 : g < w5.heap.size := Nat.lt_of_lt_of_le hg kk.size
        refine (wpIn_wide (n := 4)).1 ?_
        apply wpIn_range_idx (N := M + 1) rfl (by omega) (gf := 90) (lb := #[.pointer (some ⟨w5.heap.size + 1 + 1 + 1, 0, none⟩)]) rfl trivial (enters_of Tryd.func90 (by kernel_rfl) rfl)
          (backS_seq Fence.wide _ trivial rfl (by omega) (w5.heap.size + 1 + 1 + 1) w5.heap.size (M + 1) cap (some ⟨g, 0, none⟩) ps (by omega) _ hS (hrow.below hK) (fun b o e _ => by cases e; exact hg5)) BackKp.t (BackKp.b (by simp; omega) (by simp)) (Below.refl _ _) (fun _ => rfl)
          (fun r W => ∃ (k : Nat) (x : Value), Own W (w5.heap.size + 1) 3 [.int .i64 (k : Nat)] ∧ Own W (w5.heap.size + 1 + 1) 22 [x] ∧ U32 W x (dig (2 ^ k)) ∧ 2 ^ k ≤ m ∧ m < 2 ^ (k + 2 ^ (M + 1 - r)) ∧ Own W (w5.heap.size + 1 + 1 + 1) 76 [.slice (some ⟨g, 0, none⟩) (M + 1) cap] ∧ Keeps w5 W) (fun _ _ _ => False)
          (fun k A B row hs hg hr => by
            obtain ⟨k, x, i1, i2, i3, i4, i5, i6, i7⟩ := hs
            exact ⟨k, x, i1.nc hg (fun r e => (hr r e).2), i2.nc hg (fun r e => (hr r e).2), i3.nc hg (fun r e => (hr r e).2), i4, i5, i6.nc hg (fun r e => (hr r e).2), ownFrom_below (β := Nat) (Nat.le_refl _) (by simp; omega) k A B row i7 hg hr⟩)
          (fun _ _ _ _ _ hs _ _ => hs)
          ⟨0, _, hN, hH, by rw [show dig (2 ^ 0) = [1] from dig_small (by decide) (by decide)]; exact own_u32 hO1 (by decide), by have := H0.out; omega, by
            have := HL.out
            have h2 : 2 ^ 2 ^ M ≤ 2 ^ (0 + 2 ^ (M + 1 - 0)) := Nat.pow_le_pow_right (by omega) (by rw [Nat.sub_zero, Nat.pow_succ]; omega)
            omega, hS, hK⟩
        case hassign =>
          intro l x W K hK
          unfold backEncS
          gi_wp2
          exact hK
        case hbody =>
          rintro l r W ⟨k, x, i1, i2, i3, i4, i5, i6, i7⟩ hk
          have hkb : k < 3000000 := by
            have h1 := dig_lt m
            have h2 : 1000000000 ^ (dig m).length ≤ (2 ^ 30) ^ (dig m).length := Nat.pow_le_pow_left (by omega) _
            rw [← Nat.pow_mul] at h2
            have h3 : 2 ^ k < 2 ^ (30 * (dig m).length) := by omega
            have h4 := (Nat.pow_lt_pow_iff_right (by omega)).1 h3
            have := HE.out
            omega
          have hx1 : (dig (2 ^ k)).length ≤ 100000 := by have := dig_length_mono i4; have := HE.out; omega
          obtain ⟨q, hq⟩ : ∃ q, M - r = q := ⟨_, rfl⟩
          have hqM : q < M + 1 := by omega
          rw [show M + 1 - r = q + 1 by omega] at i5
          have hpl := dig_len_pow q (by omega)
          have hu9 := U32.of_own (hP5.el q hqM)
          have hms := hum.below (kk.trans' i7)
          obtain ⟨s9, hs9⟩ : ∃ s, (((2 ^ k * 2 ^ 2 ^ q : Nat) : Int) - (m : Nat)).sign = s := ⟨_, rfl⟩
          have hL9 := le_sign (2 ^ k * 2 ^ 2 ^ q) m
          rw [hs9] at hL9
          have hcm9 := Lib.hid (fun W' (z : Value) (hz : U32 W' z (dig (2 ^ k * 2 ^ 2 ^ q))) (kz : Keeps W W') => compare_s hz (hms.below kz) (Nat.le_trans (dig_length_mul _ _) (by omega)) (by have := HE.out; omega) hs9)
          clear hs9
          rw [← Nat.pow_add] at hL9
          have i8 := hT5.below i7
          have c0 := i2.c0
          have c1 := i8.c0
          have H4 := Lib.hid i4
          have H5 := Lib.hid i5
          have HQ := Lib.hid hq
          clear i4 i5 hq
          rw [HQ.out]
          gi_wp2_with fail
          refine ⟨trivial, ?_⟩
          refine (CallsIn.inRound l (callsIn_wide.2 (times_any _ _ (2 ^ k) (2 ^ 2 ^ q) _ i3 (hu9.below i7) (by omega) (by omega)))).mono ?_
          rintro e W6 ⟨v6, rfl, hv6, hk6⟩
          have j1 := i1.below hk6
          have j2 := i2.below hk6
          have j3 := i3.below hk6
          have j6 := i6.below hk6
          have j7 := i7.trans' hk6
          have j8 := i8.below hk6
          have c2 := j8.c0
          have hu6 := U32.of_own hv6
          obtain ⟨A6, n6, c6, rfl, -⟩ := hu6.open_
          gi_wp2_with fail
          refine ⟨trivial, ?_⟩
          refine (CallsIn.inRound l (callsIn_wide.2 (hcm9.out _ _ hu6 hk6))).mono ?_
          rintro e W7 ⟨rfl, hk7⟩
          replace hu6 := hu6.below hk7
          replace j1 := j1.below hk7
          replace j2 := j2.below hk7
          replace j3 := j3.below hk7
          replace j6 := j6.below hk7
          replace j7 := j7.trans' hk7
          have kf := hk6.trans' hk7
          clear c2 c1 c0 j8 i8 hcm9
          have d0 := j1.c0
          have d1 := j1.frozen 0
          have d2 := j2.c0
          have d3 := j2.frozen 0
          rw [← Nat.pow_add] at hu6
          rcases hL9 with ⟨hL9, hs⟩ | ⟨hL9, hs⟩
          · have hd9 : decide (s9 ≤ 0) = true := decide_eq_true hs
            have H9 := Lib.hid hL9
            clear hL9
            have hs9 := shl_in k q hkb (by omega)
            have hnu := j3.noU
            have HF : KeepsFrom ((((w5.alloc (.cells #[.int .u32 1] 48)).alloc (.cells #[.int .i64 0] 3)).alloc (.cells #[.slice (some ⟨w5.heap.size, 0, none⟩) 1 1] 22)).alloc (.cells #[.slice (some ⟨g, 0, none⟩) (M + 1) cap] 76)).heap.size W (((W7.setCell ⟨w5.heap.size + 1, 0, none⟩ (.int .i64 (IntKind.i64.wrap (↑k + IntKind.i64.wrap (2 ^ q))))).setCell ⟨w5.heap.size + 1 + 1, 0, none⟩ (.slice A6 n6 c6)).drew) ∧
                BackKp w5.heap.size (w5.heap.size + 1 + 1 + 1) W (((W7.setCell ⟨w5.heap.size + 1, 0, none⟩ (.int .i64 (IntKind.i64.wrap (↑k + IntKind.i64.wrap (2 ^ q))))).setCell ⟨w5.heap.size + 1 + 1, 0, none⟩ (.slice A6 n6 c6)).drew) ∧ ∃ (k' : Nat) (x' : Value), Own (((W7.setCell ⟨w5.heap.size + 1, 0, none⟩ (.int .i64 (IntKind.i64.wrap (↑k + IntKind.i64.wrap (2 ^ q))))).setCell ⟨w5.heap.size + 1 + 1, 0, none⟩ (.slice A6 n6 c6)).drew) (w5.heap.size + 1) 3 [.int .i64 (k' : Nat)] ∧ Own (((W7.setCell ⟨w5.heap.size + 1, 0, none⟩ (.int .i64 (IntKind.i64.wrap (↑k + IntKind.i64.wrap (2 ^ q))))).setCell ⟨w5.heap.size + 1 + 1, 0, none⟩ (.slice A6 n6 c6)).drew) (w5.heap.size + 1 + 1) 22 [x'] ∧ U32 (((W7.setCell ⟨w5.heap.size + 1, 0, none⟩ (.int .i64 (IntKind.i64.wrap (↑k + IntKind.i64.wrap (2 ^ q))))).setCell ⟨w5.heap.size + 1 + 1, 0, none⟩ (.slice A6 n6 c6)).drew) x' (dig (2 ^ k')) ∧ 2 ^ k' ≤ m ∧ m < 2 ^ (k' + 2 ^ (M + 1 - (r + 1))) ∧ Own (((W7.setCell ⟨w5.heap.size + 1, 0, none⟩ (.int .i64 (IntKind.i64.wrap (↑k + IntKind.i64.wrap (2 ^ q))))).setCell ⟨w5.heap.size + 1 + 1, 0, none⟩ (.slice A6 n6 c6)).drew) (w5.heap.size + 1 + 1 + 1) 76 [.slice (some ⟨g, 0, none⟩) (M + 1) cap] ∧ Keeps w5 (((W7.setCell ⟨w5.heap.size + 1, 0, none⟩ (.int .i64 (IntKind.i64.wrap (↑k + IntKind.i64.wrap (2 ^ q))))).setCell ⟨w5.heap.size + 1 + 1, 0, none⟩ (.slice A6 n6 c6)).drew) := by
              obtain ⟨g1, g2, g3, g4, g5, g6, g7⟩ := two_stores (B := ((((w5.alloc (.cells #[.int .u32 1] 48)).alloc (.cells #[.int .i64 0] 3)).alloc (.cells #[.slice (some ⟨w5.heap.size, 0, none⟩) 1 1] 22)).alloc (.cells #[.slice (some ⟨g, 0, none⟩) (M + 1) cap] 76)).heap.size) (n₀ := w5.heap.size) (.int .i64 (IntKind.i64.wrap (↑k + IntKind.i64.wrap (2 ^ q)))) (.slice A6 n6 c6) kf j1 j2 j6 i6 hu6 rfl hnu (by omega) (by omega) i7.size (by omega) (by omega) (by omega) j7 (by omega) (by omega)
              refine ⟨g1, g2, k + 2 ^ q, .slice A6 n6 c6, by rw [← hs9]; exact g3, g4, g5, H9.out, ?_, g6, g7⟩
              rw [show M + 1 - (r + 1) = q by have := HQ.out; omega]
              have h5 := H5.out
              rwa [Nat.pow_succ, show k + 2 ^ q * 2 = k + 2 ^ q + 2 ^ q by omega] at h5
            have HG := Lib.hid HF
            clear HF hs9 hnu
            gi_wp2_with fail
            gi_region
            all_goals
              gi_wp2_with fail
              exact HG.out
          · have hd9 : decide (s9 ≤ 0) = false := decide_eq_false (by omega)
            have H9 := Lib.hid hL9
            clear hL9
            gi_wp2_with fail
            refine ⟨⟨kf.size, fun i o _ hi _ => (kf.block i (Array.getElem?_eq_some_iff.1 hi).1).trans hi⟩, ⟨kf.mono i7.size, kf.block _ i6.lt⟩, k, x, j1, j2, j3, H4.out, ?_, j6, j7⟩
            rw [show M + 1 - (r + 1) = q by have := HQ.out; omega]
            exact H9.out
        case hdone =>
          rintro D W hD ⟨k, x, i1, i2, i3, i4, i5, i6, i7⟩ hDf
          have hlg := log2_is i4 (by rw [show k + 1 = k + 2 ^ (M + 1 - (M + 1)) by simp]; exact i5)
          have HLG := Lib.hid hlg
          clear hlg i4 i5
          have c0 := i1.c0
          simp only [World.size_alloc] at hD
          go_wp2
          refine ⟨by simp, .inl ⟨_, _, rfl, run_takeDeferred hDf, ?_⟩⟩
          refine ⟨_, results_tmp rfl _ _ _, ?_, (((hk2.trans' kw5).trans' i7)).trans (belowK_b (w := w) (Nat.le_refl _) W D _ _ (by have := i7.size; have := (hk2.trans' kw5).size; omega) hDf rfl rfl)⟩
          rw [HLG.out]; rfl
        case hstop =>
          rintro D c k W _ _ h _
          exact h.elim
end Go.Proofs.YthgbgoidnnfapaaDoor
