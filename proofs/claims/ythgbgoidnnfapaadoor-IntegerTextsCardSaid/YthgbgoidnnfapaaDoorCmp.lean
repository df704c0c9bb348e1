/- The walks of cmp.Compare and compare. -/
import Derived.Test.YthgbgoidnnfapaaDoorBack
namespace Go.Proofs.YthgbgoidnnfapaaDoor
open Go.RowKit Go.Shelf
attribute [local go_sem] Oper.semAt_some

theorem sub_sign (x y : Int) : (x < y ∧ (x - y).sign = -1) ∨ (x = y ∧ (x - y).sign = 0) ∨ (y < x ∧ (x - y).sign = 1) := by
  rcases Int.lt_trichotomy x y with h | h | h
  · exact .inl ⟨h, Int.sign_eq_neg_one_of_neg (by omega)⟩
  · exact .inr (.inl ⟨h, by subst h; simp⟩)
  · exact .inr (.inr ⟨h, Int.sign_eq_one_of_pos (by omega)⟩)

theorem nan_int (x : Int) (w : World) : Calls Tryd.prog 84 #[.int .i64 x] w fun e w' => e = .returned (.bool false) ∧ w = w' := by
  have h : (x != x) = false := by simp
  go_enter Tryd.func84, Tryd.ntmps84
  go_wp2
  go_ret
  exact ⟨rfl, rfl⟩
theorem nan_u32 (x : Int) (w : World) : Calls Tryd.prog 97 #[.int .u32 x] w fun e w' => e = .returned (.bool false) ∧ w = w' := by
  have h : (x != x) = false := by simp
  go_enter Tryd.func97, Tryd.ntmps97
  go_wp2
  go_ret
  exact ⟨rfl, rfl⟩
set_option maxHeartbeats 400000 in
theorem cmp_int (x y : Int) (w : World) : Calls Tryd.prog 61 #[.int .i64 x, .int .i64 y] w fun e w' => e = .returned (.int .i64 (x - y).sign) ∧ w = w' := by
  rcases sub_sign x y with ⟨h, hs⟩ | ⟨h, hs⟩ | ⟨h, hs⟩
  · have HS := Lib.hid hs
    clear hs
    have h1 : decide (x < y) = true := decide_eq_true h
    go_enter Tryd.func61, Tryd.ntmps61
    go_wp2_with fail
    refine (nan_int x _).mono ?_
    rintro e w1 ⟨rfl, rfl⟩
    go_wp2_with fail
    refine (nan_int y _).mono ?_
    rintro e w1 ⟨rfl, rfl⟩
    go_wp2
    go_ret
    exact ⟨ret_int HS.out, rfl⟩
  · have HS := Lib.hid hs
    clear hs
    subst h
    have h1 : decide (x < x) = false := by simp
    go_enter Tryd.func61, Tryd.ntmps61
    go_wp2_with fail
    refine (nan_int x _).mono ?_
    rintro e w1 ⟨rfl, rfl⟩
    go_wp2_with fail
    refine (nan_int x _).mono ?_
    rintro e w1 ⟨rfl, rfl⟩
    go_wp2
    go_ret
    exact ⟨ret_int HS.out, rfl⟩
  · have HS := Lib.hid hs
    clear hs
    have h1 : decide (x < y) = false := by simp; omega
    have h2 : decide (y < x) = true := decide_eq_true h
    go_enter Tryd.func61, Tryd.ntmps61
    go_wp2_with fail
    refine (nan_int x _).mono ?_
    rintro e w1 ⟨rfl, rfl⟩
    go_wp2_with fail
    refine (nan_int y _).mono ?_
    rintro e w1 ⟨rfl, rfl⟩
    go_wp2
    go_ret
    exact ⟨ret_int HS.out, rfl⟩
set_option maxHeartbeats 400000 in
theorem cmp_u32 (x y : Int) (w : World) : Calls Tryd.prog 85 #[.int .u32 x, .int .u32 y] w fun e w' => e = .returned (.int .i64 (x - y).sign) ∧ w = w' := by
  rcases sub_sign x y with ⟨h, hs⟩ | ⟨h, hs⟩ | ⟨h, hs⟩
  · have HS := Lib.hid hs
    clear hs
    have h1 : decide (x < y) = true := decide_eq_true h
    go_enter Tryd.func85, Tryd.ntmps85
    go_wp2_with fail
    refine (nan_u32 x _).mono ?_
    rintro e w1 ⟨rfl, rfl⟩
    go_wp2_with fail
    refine (nan_u32 y _).mono ?_
    rintro e w1 ⟨rfl, rfl⟩
    go_wp2
    go_ret
    exact ⟨ret_int HS.out, rfl⟩
  · have HS := Lib.hid hs
    clear hs
    subst h
    have h1 : decide (x < x) = false := by simp
    go_enter Tryd.func85, Tryd.ntmps85
    go_wp2_with fail
    refine (nan_u32 x _).mono ?_
    rintro e w1 ⟨rfl, rfl⟩
    go_wp2_with fail
    refine (nan_u32 x _).mono ?_
    rintro e w1 ⟨rfl, rfl⟩
    go_wp2
    go_ret
    exact ⟨ret_int HS.out, rfl⟩
  · have HS := Lib.hid hs
    clear hs
    have h1 : decide (x < y) = false := by simp; omega
    have h2 : decide (y < x) = true := decide_eq_true h
    go_enter Tryd.func85, Tryd.ntmps85
    go_wp2_with fail
    refine (nan_u32 x _).mono ?_
    rintro e w1 ⟨rfl, rfl⟩
    go_wp2_with fail
    refine (nan_u32 y _).mono ?_
    rintro e w1 ⟨rfl, rfl⟩
    go_wp2
    go_ret
    exact ⟨ret_int HS.out, rfl⟩

set_option maxRecDepth 100000 in
set_option maxHeartbeats 400000 in
theorem compare_len (A D : Option Addr) (n m c d : Nat) (w : World) (hne : n ≠ m) (_hn : n ≤ 1000000000) (_hm : m ≤ 1000000000) :
    Calls Tryd.prog 62 #[.slice A n c, .slice D m d] w fun e w' => e = .returned (.int .i64 ((n : Int) - m).sign) ∧ Keeps w w' := by
  have h1 : ((n : Int) != m) = true := by rw [bne_iff_ne]; omega
  have hR := own2 w (.cells #[.slice D m d] 22) 3 [.int .i64 0]
  have r0 := hR.c0
  have f0 := hR.frozen 0
  go_enter Tryd.func62, Tryd.ntmps62
  go_wp2_with fail
  refine (cmp_int n m _).mono ?_
  rintro e w1 ⟨rfl, rfl⟩
  go_wp2
  refine bodyPost_ret (v := .int .i64 ((n : Int) - m).sign) (by simp [results, Tryd.results62, go_sem]) rfl ?_
  exact ⟨rfl, keep2 _ _ _⟩

set_option maxRecDepth 100000 in
set_option maxHeartbeats 1000000 in
theorem compare_in (A D : Option Addr) (n c d : Nat) (a b : Nat) (w : World) (e : (dig a).length = n) (e' : (dig b).length = n) (h : Row w A n (u32 (dig a))) (h' : Row w D n (u32 (dig b))) (hn : n ≤ 1000000000) :
    Calls Tryd.prog 62 #[.slice A n c, .slice D n d] w fun e w' => e = .returned (.int .i64 ((a : Int) - b).sign) ∧ Keeps w w' := by
  have h1 : ((n : Int) != n) = false := by simp
  refine (callsIn_wide (n := 4)).1 ?_
  have hlt : ∀ b o, A = some ⟨b, o, none⟩ → 0 < n → b < w.heap.size := fun b o e hp => h.lt e hp
  refine callsIn_of_wp_marks Tryd.func62 rfl trivial ?_ rfl
  simp only [Tryd.ntmps62, List.size_toArray, List.length_cons, List.length_nil, Nat.reduceAdd, Nat.reduceSub, Array.replicate_succ, Array.replicate_zero, List.push_toArray, List.append_toArray, List.nil_append, List.cons_append]
  gi_wp2_with (refine ⟨trivial, ?_⟩; refine (callsIn_wide.2 (back_any A n c _)).mono ?_; rintro e w' ⟨rfl, rfl⟩)
  have hB := ((Own.new w 22 [.slice D n d]).alloc (.cells #[.int .i64 0] 3)).alloc (.cells #[.slice A n c] 22)
  have hR := (own2 w (.cells #[.slice D n d] 22) 3 [.int .i64 0]).alloc (.cells #[.slice A n c] 22)
  have hS := own2 (w.alloc (.cells #[.slice D n d] 22)) (.cells #[.int .i64 0] 3) 22 [.slice A n c]
  rw [World.size_alloc] at hS
  have hK := (keep2 w (.cells #[.slice D n d] 22) (.cells #[.int .i64 0] 3)).alloc (by simp; omega) (.cells #[.slice A n c] 22)
  have HE := Lib.hid e
  have HE' := Lib.hid e'
  clear e e'
  apply wpIn_range_idx (N := n) rfl (by omega) (gf := 83) (lb := #[.pointer (some ⟨w.heap.size + 1 + 1, 0, none⟩)]) rfl trivial (enters_of Tryd.func83 (by kernel_rfl) rfl)
    (back_seq Fence.wide _ trivial rfl (by omega) (w.heap.size + 1 + 1) w.heap.size n c A (dig a) (by omega) _ hS (h.below hK) hlt) BackKp.t (BackKp.b (by simp; omega) (by simp)) (Below.refl _ _) (fun _ => rfl)
    (fun k W => (dig a).drop (n - k) = (dig b).drop (n - k) ∧ Own W w.heap.size 22 [.slice D n d] ∧ Own W (w.heap.size + 1) 3 [.int .i64 0] ∧ Own W (w.heap.size + 1 + 1) 22 [.slice A n c] ∧ Keeps w W)
    (fun c k W => c = .ret ∧ Own W (w.heap.size + 1) 3 [.int .i64 ((a : Int) - b).sign] ∧ Keeps w W)
    (fun k A B row hs hg hr => ⟨hs.1, hs.2.1.nc hg (fun r e => (hr r e).2), hs.2.2.1.nc hg (fun r e => (hr r e).2), hs.2.2.2.1.nc hg (fun r e => (hr r e).2), ownFrom_below (β := Nat) (Nat.le_refl _) (by simp; omega) k A B row hs.2.2.2.2 hg hr⟩)
    (fun c k A B row hs hg hr => ⟨hs.1, hs.2.1.nc hg (fun r e => (hr r e).2), ownFrom_below (β := Nat) (Nat.le_refl _) (by simp; omega) k A B row hs.2.2 hg hr⟩)
    ⟨by rw [List.drop_of_length_le (by rw [HE.out]; omega), List.drop_of_length_le (by rw [HE'.out]; omega)], hB, hR, hS, hK⟩
  case hassign =>
    intro l x W K hK
    unfold backEnc
    gi_wp2
    exact hK
  case hbody =>
    rintro l k W ⟨hd, h2, h3, h4, h5⟩ hk
    obtain ⟨q, hq⟩ : ∃ q, n - 1 - k = q := ⟨_, rfl⟩
    rw [hq]
    rw [show n - k = q + 1 by omega] at hd
    have HD := Lib.hid hd
    have hqn : q < n := by omega
    have HQ := Lib.hid hq
    clear hd hq
    obtain ⟨bb, oo, rfl, hbb, hcell⟩ := (h'.below h5) (by omega)
    have hx : W.cell? ⟨bb, oo + q, none⟩ = some (.int .u32 (ix (dig b) q : Nat)) := hcell q hqn
    clear hcell
    have c2 := h2.c0
    have c3 := h3.c0
    have f3 := h3.frozen 0
    by_cases hne : ix (dig a) q = ix (dig b) q
    · have HN := Lib.hid hne
      have hbn : (((ix (dig a) q : Nat) : Int) != ((ix (dig b) q : Nat) : Int)) = false := by simp [hne]
      clear hne
      gi_wp2
      refine ⟨KeepsFrom.refl _ _, ⟨Below.refl _ _, rfl⟩, ?_, h2, h3, h4, h5⟩
      rw [show n - (k + 1) = q by have := HQ.out; omega, drop_cons (dig a) q (by rw [HE.out]; exact hqn), drop_cons (dig b) q (by rw [HE'.out]; exact hqn), HN.out, HD.out]
    · have hs := dig_cmp_at a b q (HE.out.trans HE'.out.symm) (by rw [HE.out]; exact hqn) HD.out hne
      have hbn : (((ix (dig a) q : Nat) : Int) != ((ix (dig b) q : Nat) : Int)) = true := by rw [bne_iff_ne]; omega
      have HS := Lib.hid hs
      clear hne hs
      gi_wp2_with (refine ⟨trivial, ?_⟩; refine (CallsIn.inRound l (callsIn_wide.2 (cmp_u32 _ _ _))).mono ?_; rintro e w' ⟨rfl, rfl⟩)
      refine ⟨(KeepsOthers.setCell _ _ _).from _, rfl, ?_, h5.set (by simp) _⟩
      rw [HS.out]
      exact h3.set 0 _
  case hdone =>
    rintro D W hD ⟨hd, h2, h3, h4, h5⟩ hDf
    have c3 := h3.c0
    have f3 := h3.frozen 0
    rw [Nat.sub_self, List.drop_zero, List.drop_zero] at hd
    have he := dig_inj hd
    clear hd
    gi_wp2
    have h3' := h3.set 0 (.int .i64 0)
    have hDf' : (W.setCell ⟨w.heap.size + 1, 0, none⟩ (.int .i64 0)).heap[D]? = some (.deferred (some [])) := (Below.heap_setCell _ _ _ _ (by simp at hD; simp; omega)).trans hDf
    refine ⟨by simp, .inl ⟨_, _, rfl, run_takeDeferred hDf', ?_⟩⟩
    have h3n := h3'.nc (grownBy_putObj' _ D (.deferred none)) (fun r e => by cases e; exact ⟨_, hDf', rfl⟩)
    refine ⟨.int .i64 0, by simp [results, Tryd.results62, go_sem, h3n.c0], ?_, (h5.set (by simp) _).trans (belowK_b (w := w) (Nat.le_refl _) _ D _ _ (by simp at hD; omega) hDf' rfl rfl)⟩
    subst he
    simp
  case hstop =>
    rintro D c k W hD _ ⟨rfl, h3, h5⟩ hDf
    gi_wp2
    refine ⟨by simp, .inl ⟨_, _, rfl, run_takeDeferred hDf, ?_⟩⟩
    have h3n := h3.nc (grownBy_putObj' _ D (.deferred none)) (fun r e => by cases e; exact ⟨_, hDf, rfl⟩)
    exact ⟨.int .i64 ((a : Int) - b).sign, by simp [results, Tryd.results62, go_sem, h3n.c0], rfl, h5.trans (belowK_b (w := w) (Nat.le_refl _) W D _ _ (by simp at hD; omega) hDf rfl rfl)⟩

theorem compare_any (v1 v2 : Value) (a b : Nat) (w : World) (h1 : U32 w v1 (dig a)) (h2 : U32 w v2 (dig b)) (hm1 : (dig a).length ≤ 1000000000) (hm2 : (dig b).length ≤ 1000000000) :
    Calls Tryd.prog 62 #[v1, v2] w fun e w' => e = .returned (.int .i64 ((a : Int) - b).sign) ∧ Keeps w w' := by
  obtain ⟨A, n, c, rfl, e1, -, -, -, r1⟩ := h1.open_
  obtain ⟨D, m, d, rfl, e2, -, -, -, r2⟩ := h2.open_
  by_cases hl : n = m
  · subst hl
    exact compare_in A D n c d a b w e1 e2 r1 r2 (by omega)
  · refine (compare_len A D n m c d w hl (by omega) (by omega)).mono ?_
    rintro e w' ⟨rfl, hk⟩
    refine ⟨ret_int ?_, hk⟩
    rcases Nat.lt_or_gt_of_ne hl with h | h
    · have := dig_lt_of_length (a := a) (b := b) (by omega)
      rw [Int.sign_eq_neg_one_of_neg (by omega), Int.sign_eq_neg_one_of_neg (by omega)]
    · have := dig_lt_of_length (a := b) (b := a) (by omega)
      rw [Int.sign_eq_one_of_pos (by omega), Int.sign_eq_one_of_pos (by omega)]
end Go.Proofs.YthgbgoidnnfapaaDoor
