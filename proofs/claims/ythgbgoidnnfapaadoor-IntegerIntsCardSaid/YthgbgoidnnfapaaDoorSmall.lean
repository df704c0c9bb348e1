/- The walk of Small. -/
import Derived.Test.YthgbgoidnnfapaaDoorOf
import Derived.Test.YthgbgoidnnfapaaDoorBack
namespace Go.Proofs.YthgbgoidnnfapaaDoor
open Go.RowKit Go.Shelf
attribute [local go_sem] Oper.semAt_some

/-- what Small answers -/
def smallV (z : Int) : Value := if -9223372036854775808 ≤ z ∧ z ≤ 9223372036854775807 then .tuple #[.int .i64 z, .bool true] else .tuple #[.int .i64 0, .bool false]
theorem smallV_in {z : Int} (h : -9223372036854775808 ≤ z ∧ z ≤ 9223372036854775807) : smallV z = .tuple #[.int .i64 z, .bool true] := if_pos h
theorem smallV_out {z : Int} (h : ¬ (-9223372036854775808 ≤ z ∧ z ≤ 9223372036854775807)) : smallV z = .tuple #[.int .i64 0, .bool false] := if_neg h
def top63 : Nat := 9223372036854775808
theorem small_ok (N d : Nat) (_hd : d < 1000000000) (h : N * 1000000000 + d ≤ top63) : decide (((9223372036854775808 : Int) - (d : Nat)) / 1000000000 < ((N : Nat) : Int)) = false := by
  unfold top63 at h; exact decide_eq_false (by omega)
theorem small_over (N d : Nat) (_hd : d < 1000000000) (h : ¬ N * 1000000000 + d ≤ top63) : decide (((9223372036854775808 : Int) - (d : Nat)) / 1000000000 < ((N : Nat) : Int)) = true := by
  unfold top63 at h; exact decide_eq_true (by omega)
theorem small_bd (N d : Nat) (h : N * 1000000000 + d ≤ top63) : ((N : Nat) : Int) ≤ 9223372036 := by unfold top63 at h; omega

theorem small_neg (m : Nat) (h : m ≤ top63) : wrap64 (IntKind.u64.wrap (-(m : Int))) = -(m : Int) := by
  unfold top63 at h; unfold wrap64; rw [IntKind.wrap_u64]; omega

set_option maxRecDepth 100000 in
set_option maxHeartbeats 400000 in
theorem small_long (neg : Bool) (xs : List Nat) (V : Value) (w : World) (h : IntArg w V neg xs) (hm : xs.length ≤ 1000000) (h3 : 3 < (dig (mag neg xs)).length) :
    Calls Tryd.prog 14 #[V] w fun e w' => e = .returned (.tuple #[.int .i64 0, .bool false]) ∧ Keeps w w' := by
  obtain ⟨v, rfl, hv⟩ := h
  have hml := mag_length neg xs
  have hkk := keep3 w (.cells #[.bool neg, v] 24) (.cells #[.int .i64 0] 3) (.cells #[.bool false] 4)
  have hG := Lib.hid (groups_any neg xs (.agg #[.bool neg, v]) _ ⟨v, rfl, hv.below hkk⟩ hm)
  have hX := ((Own.new w 24 [.bool neg, v]).alloc (.cells #[.int .i64 0] 3)).alloc (.cells #[.bool false] 4)
  have hP := (own2 w (.cells #[.bool neg, v] 24) 3 [.int .i64 0]).alloc (.cells #[.bool false] 4)
  have hQ := own3 w (.cells #[.bool neg, v] 24) (.cells #[.int .i64 0] 3) 4 [.bool false]
  have HC := Lib.hid (show cnt neg xs = sgn neg (mag neg xs) from rfl)
  generalize mag neg xs = m at *
  go_enter Tryd.func14, Tryd.ntmps14
  go_wp2_with fail
  refine hG.out.mono ?_
  rintro e w1 ⟨v1, rfl, hv1, hk1⟩
  obtain ⟨A, n, c, rfl, e1, -, -, -, hr1⟩ := hv1.open_
  have h3' : (3 : Int) < n := by omega
  have HE := Lib.hid e1
  clear e1
  have hP1 := hP.below hk1
  have hQ1 := hQ.below hk1
  have p0 := hP1.c0
  have p1 := hP1.frozen 0
  have q0 := hQ1.c0
  have q1 := hQ1.frozen 0
  have hk2 := hkk.trans' hk1
  go_wp2
  have hP2 := (hP1.set 0 (.int .i64 0)).far (p := ⟨w.heap.size + 1 + 1, 0, none⟩) (by simp) (.bool false)
  have hQ2 := (hQ1.far (p := ⟨w.heap.size + 1, 0, none⟩) (by simp) (.int .i64 0)).set 0 (.bool false)
  refine bodyPost_ret (v := .tuple #[.int .i64 0, .bool false]) (by simp [results, Tryd.results14, go_sem, hP2.cell 0, hQ2.cell 0]) rfl ?_
  exact ⟨rfl, (hk2.set (by simp) _).set (by simp; omega) _⟩

set_option maxRecDepth 100000 in
set_option maxHeartbeats 1000000 in
theorem small_short (neg : Bool) (xs : List Nat) (V : Value) (w : World) (h : IntArg w V neg xs) (hm : xs.length ≤ 1000000) (h3 : (dig (mag neg xs)).length ≤ 3) :
    Calls Tryd.prog 14 #[V] w fun e w' => e = .returned (smallV (cnt neg xs)) ∧ Keeps w w' := by
  obtain ⟨v, rfl, hv⟩ := h
  have hml := mag_length neg xs
  have hkk := keep3 w (.cells #[.bool neg, v] 24) (.cells #[.int .i64 0] 3) (.cells #[.bool false] 4)
  have hG := Lib.hid (groups_any neg xs (.agg #[.bool neg, v]) _ ⟨v, rfl, hv.below hkk⟩ hm)
  have hX := ((Own.new w 24 [.bool neg, v]).alloc (.cells #[.int .i64 0] 3)).alloc (.cells #[.bool false] 4)
  have hP := (own2 w (.cells #[.bool neg, v] 24) 3 [.int .i64 0]).alloc (.cells #[.bool false] 4)
  have hQ := own3 w (.cells #[.bool neg, v] 24) (.cells #[.int .i64 0] 3) 4 [.bool false]
  have HC := Lib.hid (show cnt neg xs = sgn neg (mag neg xs) from rfl)
  refine (callsIn_wide (n := 4)).1 ?_
  refine callsIn_of_wp_marks Tryd.func14 rfl trivial ?_ rfl
  simp only [Tryd.ntmps14, List.size_toArray, List.length_cons, List.length_nil, Nat.reduceAdd, Nat.reduceSub, Array.replicate_succ, Array.replicate_zero, List.push_toArray, List.append_toArray, List.nil_append, List.cons_append]
  generalize mag neg xs = m at *
  gi_wp2_with fail
  refine ⟨trivial, ?_⟩
  refine (callsIn_wide.2 hG.out).mono ?_
  rintro e w1 ⟨v1, rfl, hv1, hk1⟩
  obtain ⟨A, n, c, rfl, e1, -, -, -, hr1⟩ := hv1.open_
  have h3' : (n : Int) ≤ 3 := by omega
  have hX1 := hX.below hk1
  have hP1 := hP.below hk1
  have hQ1 := hQ.below hk1
  have hk2 := hkk.trans' hk1
  have hsz : w.heap.size + 1 + 1 < w1.heap.size := hQ1.lt
  have HE := Lib.hid e1
  clear e1
  gi_wp2_with (refine ⟨trivial, ?_⟩; refine (callsIn_wide.2 (back_any A n c _)).mono ?_; rintro e w' ⟨rfl, rfl⟩)
  have hN := (Own.new w1 50 [.int .u64 0]).alloc (.cells #[.slice A n c] 22)
  have hS := own2 w1 (.cells #[.int .u64 0] 50) 22 [.slice A n c]
  have hK := keep2 w1 (.cells #[.int .u64 0] 50) (.cells #[.slice A n c] 22)
  have hX2 := hX1.below hK
  have hP2 := hP1.below hK
  have hQ2 := hQ1.below hK
  have hk3 := hk2.trans' hK
  have hlt : ∀ b o, A = some ⟨b, o, none⟩ → 0 < n → b < w1.heap.size := fun b o e hp => hr1.lt e hp
  apply wpIn_range_idx (N := n) rfl (by omega) (gf := 83) (lb := #[.pointer (some ⟨w1.heap.size + 1, 0, none⟩)]) rfl trivial (enters_of Tryd.func83 (by kernel_rfl) rfl)
    (back_seq Fence.wide _ trivial rfl (by omega) (w1.heap.size + 1) w1.heap.size n c A (dig m) (by omega) _ hS (hr1.below hK) hlt) BackKp.t (BackKp.b (by simp; omega) (by simp)) (Below.refl _ _) (fun _ => rfl)
    (fun k W => val ((dig m).drop (n - k)) ≤ top63 ∧ Own W w1.heap.size 50 [.int .u64 (val ((dig m).drop (n - k)) : Nat)] ∧ Own W (w1.heap.size + 1) 22 [.slice A n c] ∧ Own W w.heap.size 24 [.bool neg, v] ∧ Own W (w.heap.size + 1) 3 [.int .i64 0] ∧ Own W (w.heap.size + 1 + 1) 4 [.bool false] ∧ Keeps w W)
    (fun c k W => c = .ret ∧ top63 < m ∧ Own W (w.heap.size + 1) 3 [.int .i64 0] ∧ Own W (w.heap.size + 1 + 1) 4 [.bool false] ∧ Keeps w W)
    (fun k A B row hs hg hr => ⟨hs.1, hs.2.1.nc hg (fun r e => (hr r e).2), hs.2.2.1.nc hg (fun r e => (hr r e).2), hs.2.2.2.1.nc hg (fun r e => (hr r e).2), hs.2.2.2.2.1.nc hg (fun r e => (hr r e).2), hs.2.2.2.2.2.1.nc hg (fun r e => (hr r e).2), ownFrom_below (β := Nat) (Nat.le_refl _) (by simp; omega) k A B row hs.2.2.2.2.2.2 hg hr⟩)
    (fun c k A B row hs hg hr => ⟨hs.1, hs.2.1, hs.2.2.1.nc hg (fun r e => (hr r e).2), hs.2.2.2.1.nc hg (fun r e => (hr r e).2), ownFrom_below (β := Nat) (Nat.le_refl _) (by simp; omega) k A B row hs.2.2.2.2 hg hr⟩)
    ⟨by rw [List.drop_of_length_le (by rw [HE.out]; omega)]; simp [val], by rw [List.drop_of_length_le (by rw [HE.out]; omega)]; simpa [val] using hN, hS, hX2, hP2, hQ2, hk3⟩
  case hassign =>
    intro l x W K hK
    unfold backEnc
    gi_wp2
    exact hK
  case hbody =>
    rintro l k W ⟨h0, h1, h2, h4, h5, h6, h7⟩ hk
    have hdv : val ((dig m).drop (n - (k + 1))) = ix (dig m) (n - 1 - k) + 1000000000 * val ((dig m).drop (n - k)) := by
      rw [val_drop (dig m) (n - (k + 1)) (by rw [HE.out]; omega), show n - (k + 1) = n - 1 - k by omega, show n - 1 - k + 1 = n - k by omega]
    have hxb : ((ix (dig m) (n - 1 - k) : Nat) : Int) < 1000000000 := by have := (AllB.dig m).ix (n - 1 - k); omega
    have hle : val ((dig m).drop (n - (k + 1))) ≤ m := by
      have := val_split (dig m) (n - (k + 1)) (by rw [HE.out]; omega)
      rw [val_dig] at this
      have h2 := Nat.le_mul_of_pos_left (val ((dig m).drop (n - (k + 1)))) (show 0 < 1000000000 ^ (n - (k + 1)) by exact Nat.pow_pos (by omega))
      omega
    have HD := Lib.hid hdv
    have HL := Lib.hid hle
    have H0 := Lib.hid h0
    clear hdv hle h0
    have c0 := h1.c0
    have f0 := h1.frozen 0
    have p0 := h5.c0
    have p1 := h5.frozen 0
    have q0 := h6.c0
    have q1 := h6.frozen 0
    by_cases hs : val ((dig m).drop (n - k)) * 1000000000 + ix (dig m) (n - 1 - k) ≤ top63
    · have hd1 := small_ok _ _ (by omega) hs
      have hd2 := small_bd _ _ hs
      have HS := Lib.hid hs
      clear hs
      gi_wp2
      refine ⟨(KeepsOthers.setCell _ _ _).from _, ⟨(Below.refl _ W).setCell (p := ⟨w1.heap.size, 0, none⟩) (Nat.le_refl _) _, Below.heap_setCell _ _ _ _ (by simp)⟩, ?_, ?_, h2.far (by simp) _, h4.far (by simp; omega) _, h5.far (by simp; omega) _, h6.far (by simp; omega) _, h7.set (by simp; omega) _⟩
      · have := HD.out; have := HS.out; omega
      · have := h1.set 0 (.int .u64 (val ((dig m).drop (n - (k + 1))) : Nat))
        rw [show ((val (List.drop (n - k) (dig m)) : Nat) : Int) * 1000000000 + ((ix (dig m) (n - 1 - k) : Nat) : Int) = ((val ((dig m).drop (n - (k + 1))) : Nat) : Int) by have := HD.out; omega]
        exact this
    · have hd1 := small_over _ _ (by omega) hs
      have HS := Lib.hid hs
      clear hs
      gi_wp2
      exact ⟨((KeepsOthers.setCell _ _ _).from _).trans ((KeepsOthers.setCell _ _ _).from _), rfl, by have := HD.out; have := HS.out; have := HL.out; omega, (h5.set 0 (.int .i64 0)).far (by simp) _, (h6.far (by simp) _).set 0 (.bool false), (h7.set (by simp) _).set (by simp; omega) _⟩
  case hdone =>
    rintro D W hD ⟨h0, h1, h2, h4, h5, h6, h7⟩ hDf
    rw [Nat.sub_self, List.drop_zero, val_dig] at h0 h1
    have c0 := h1.c0
    have x0 := h4.c0
    have p0 := h5.c0
    have p1 := h5.frozen 0
    have q0 := h6.c0
    have q1 := h6.frozen 0
    have H0 := Lib.hid h0
    clear h0
    simp only [World.size_alloc] at hD
    rcases Nat.eq_zero_or_pos n with hn0 | hn0
    · subst hn0
      obtain rfl : m = 0 := dig_length_zero.1 HE.out
      gi_wp2
      have h5a := (h5.set 0 (.int .i64 (0))).far (p := ⟨w.heap.size + 1 + 1, 0, none⟩) (by simp) (.bool true)
      have h6a := (h6.far (p := ⟨w.heap.size + 1, 0, none⟩) (by simp) (.int .i64 (0))).set 0 (.bool true)
      have hDa : ((W.setCell ⟨w.heap.size + 1, 0, none⟩ (.int .i64 (0))).setCell ⟨w.heap.size + 1 + 1, 0, none⟩ (.bool true)).heap[D]? = some (.deferred (some [])) := (Below.heap_setCell _ _ _ _ (by simp; omega)).trans ((Below.heap_setCell _ _ _ _ (by simp; omega)).trans hDf)
      refine ⟨by simp, .inl ⟨_, _, rfl, run_takeDeferred hDa, ?_⟩⟩
      have h5n := h5a.nc (grownBy_putObj' _ D (.deferred none)) (fun r e => by cases e; exact ⟨_, hDa, rfl⟩)
      have h6n := h6a.nc (grownBy_putObj' _ D (.deferred none)) (fun r e => by cases e; exact ⟨_, hDa, rfl⟩)
      refine ⟨.tuple #[.int .i64 (0), .bool true], by simp [results, Tryd.results14, go_sem, h5n.c0, h6n.c0], ?_, ((h7.set (by simp) _).set (by simp; omega) _).trans (belowK_b (w := w) (Nat.le_refl _) _ D _ _ (by omega) hDa rfl rfl)⟩
      rw [HC.out, sgn_zero, smallV_in (by omega)]
    · have hn1 : (0 : Int) < n := by omega
      cases neg with
      | true =>
        have HW := Lib.hid (small_neg m H0.out)
        gi_wp2
        rw [HW.out]
        have h5a := (h5.set 0 (.int .i64 (-(m : Int)))).far (p := ⟨w.heap.size + 1 + 1, 0, none⟩) (by simp) (.bool true)
        have h6a := (h6.far (p := ⟨w.heap.size + 1, 0, none⟩) (by simp) (.int .i64 (-(m : Int)))).set 0 (.bool true)
        have hDa : ((W.setCell ⟨w.heap.size + 1, 0, none⟩ (.int .i64 (-(m : Int)))).setCell ⟨w.heap.size + 1 + 1, 0, none⟩ (.bool true)).heap[D]? = some (.deferred (some [])) := (Below.heap_setCell _ _ _ _ (by simp; omega)).trans ((Below.heap_setCell _ _ _ _ (by simp; omega)).trans hDf)
        refine ⟨by simp, .inl ⟨_, _, rfl, run_takeDeferred hDa, ?_⟩⟩
        have h5n := h5a.nc (grownBy_putObj' _ D (.deferred none)) (fun r e => by cases e; exact ⟨_, hDa, rfl⟩)
        have h6n := h6a.nc (grownBy_putObj' _ D (.deferred none)) (fun r e => by cases e; exact ⟨_, hDa, rfl⟩)
        refine ⟨.tuple #[.int .i64 (-(m : Int)), .bool true], by simp [results, Tryd.results14, go_sem, h5n.c0, h6n.c0], ?_, ((h7.set (by simp) _).set (by simp; omega) _).trans (belowK_b (w := w) (Nat.le_refl _) _ D _ _ (by omega) hDa rfl rfl)⟩
        rw [HC.out, show sgn true m = -(m : Int) from rfl, smallV_in (by have := H0.out; unfold top63 at this; omega)]
      | false =>
        by_cases ht : m = top63
        · have ht2 : (((m : Nat) : Int) == 9223372036854775808) = true := by subst ht; rfl
          have HT := Lib.hid ht
          clear ht
          gi_wp2
          have h5a := (h5.set 0 (.int .i64 (0))).far (p := ⟨w.heap.size + 1 + 1, 0, none⟩) (by simp) (.bool false)
          have h6a := (h6.far (p := ⟨w.heap.size + 1, 0, none⟩) (by simp) (.int .i64 (0))).set 0 (.bool false)
          have hDa : ((W.setCell ⟨w.heap.size + 1, 0, none⟩ (.int .i64 (0))).setCell ⟨w.heap.size + 1 + 1, 0, none⟩ (.bool false)).heap[D]? = some (.deferred (some [])) := (Below.heap_setCell _ _ _ _ (by simp; omega)).trans ((Below.heap_setCell _ _ _ _ (by simp; omega)).trans hDf)
          refine ⟨by simp, .inl ⟨_, _, rfl, run_takeDeferred hDa, ?_⟩⟩
          have h5n := h5a.nc (grownBy_putObj' _ D (.deferred none)) (fun r e => by cases e; exact ⟨_, hDa, rfl⟩)
          have h6n := h6a.nc (grownBy_putObj' _ D (.deferred none)) (fun r e => by cases e; exact ⟨_, hDa, rfl⟩)
          refine ⟨.tuple #[.int .i64 (0), .bool false], by simp [results, Tryd.results14, go_sem, h5n.c0, h6n.c0], ?_, ((h7.set (by simp) _).set (by simp; omega) _).trans (belowK_b (w := w) (Nat.le_refl _) _ D _ _ (by omega) hDa rfl rfl)⟩
          rw [HC.out, show sgn false m = (m : Int) from rfl, smallV_out (by have := HT.out; unfold top63 at this; omega)]
        · have ht2 : (((m : Nat) : Int) == 9223372036854775808) = false := by unfold top63 at ht; simp; omega
          have HW := Lib.hid (show wrap64 (m : Int) = (m : Int) by have := H0.out; unfold top63 at this ht; exact IntWalk.wrap64_in _ (by omega))
          have HT := Lib.hid ht
          clear ht
          gi_wp2
          rw [HW.out]
          have h5a := (h5.set 0 (.int .i64 ((m : Int)))).far (p := ⟨w.heap.size + 1 + 1, 0, none⟩) (by simp) (.bool true)
          have h6a := (h6.far (p := ⟨w.heap.size + 1, 0, none⟩) (by simp) (.int .i64 ((m : Int)))).set 0 (.bool true)
          have hDa : ((W.setCell ⟨w.heap.size + 1, 0, none⟩ (.int .i64 ((m : Int)))).setCell ⟨w.heap.size + 1 + 1, 0, none⟩ (.bool true)).heap[D]? = some (.deferred (some [])) := (Below.heap_setCell _ _ _ _ (by simp; omega)).trans ((Below.heap_setCell _ _ _ _ (by simp; omega)).trans hDf)
          refine ⟨by simp, .inl ⟨_, _, rfl, run_takeDeferred hDa, ?_⟩⟩
          have h5n := h5a.nc (grownBy_putObj' _ D (.deferred none)) (fun r e => by cases e; exact ⟨_, hDa, rfl⟩)
          have h6n := h6a.nc (grownBy_putObj' _ D (.deferred none)) (fun r e => by cases e; exact ⟨_, hDa, rfl⟩)
          refine ⟨.tuple #[.int .i64 ((m : Int)), .bool true], by simp [results, Tryd.results14, go_sem, h5n.c0, h6n.c0], ?_, ((h7.set (by simp) _).set (by simp; omega) _).trans (belowK_b (w := w) (Nat.le_refl _) _ D _ _ (by omega) hDa rfl rfl)⟩
          rw [HC.out, show sgn false m = (m : Int) from rfl, smallV_in (by have := H0.out; have := HT.out; unfold top63 at *; omega)]
  case hstop =>
    rintro D c k W hD _ ⟨rfl, ht, h5, h6, h7⟩ hDf
    simp only [World.size_alloc] at hD
    have HT := Lib.hid ht
    clear ht
    gi_wp2
    refine ⟨by simp, .inl ⟨_, _, rfl, run_takeDeferred hDf, ?_⟩⟩
    have h5n := h5.nc (grownBy_putObj' _ D (.deferred none)) (fun r e => by cases e; exact ⟨_, hDf, rfl⟩)
    have h6n := h6.nc (grownBy_putObj' _ D (.deferred none)) (fun r e => by cases e; exact ⟨_, hDf, rfl⟩)
    refine ⟨.tuple #[.int .i64 0, .bool false], by simp [results, Tryd.results14, go_sem, h5n.c0, h6n.c0], ?_, h7.trans (belowK_b (w := w) (Nat.le_refl _) _ D _ _ (by omega) hDf rfl rfl)⟩
    rw [HC.out, smallV_out (by have := HT.out; unfold top63 at this; unfold sgn; split <;> omega)]

theorem small_any (neg : Bool) (xs : List Nat) (V : Value) (w : World) (h : IntArg w V neg xs) (hm : xs.length ≤ 1000000) :
    Calls Tryd.prog 14 #[V] w fun e w' => e = .returned (smallV (cnt neg xs)) ∧ Keeps w w' := by
  rcases Nat.lt_or_ge 3 (dig (mag neg xs)).length with h3 | h3
  · rw [smallV_out]
    · exact small_long neg xs V w h hm h3
    · have := dig_ge (n := mag neg xs) (by intro e; rw [e, dig_zero] at h3; simp at h3)
      have h4 : 1000000000 ^ 3 ≤ 1000000000 ^ ((dig (mag neg xs)).length - 1) := Nat.pow_le_pow_right (by omega) (by omega)
      unfold cnt sgn
      split <;> omega
  · exact small_short neg xs V w h hm h3
end Go.Proofs.YthgbgoidnnfapaaDoor
