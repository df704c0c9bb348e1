/- slices.Backward of a magnitude: the iterator's contract; the walk of word. -/
import Derived.Test.YthgbgoidnnfapaaDoorRange
import Derived.Test.YthgbgoidnnfapaaDoorIntE
namespace Go.Proofs.YthgbgoidnnfapaaDoor
open Go.RowKit Go.Shelf
attribute [local go_sem] Oper.semAt_some

/-- what round number k of slices.Backward hands over -/
def backEnc (xs : List Nat) (n k : Nat) : Array Value := #[.int .i64 ((n - 1 - k : Nat) : Int), .int .u32 (ix xs (n - 1 - k) : Nat)]
/-- what a round keeps: all below n₀, and the iterator's box -/
def BackKp (n₀ Bs : Nat) (W W' : World) : Prop := Below n₀ W W' ∧ W'.heap[Bs]? = W.heap[Bs]?
theorem BackKp.t {n₀ Bs : Nat} {A B C : World} (h : BackKp n₀ Bs A B) (k : BackKp n₀ Bs B C) : BackKp n₀ Bs A C := ⟨h.1.trans k.1, k.2.trans h.2⟩
theorem BackKp.b {n₀ Bs : Nat} {w : World} (hn : n₀ ≤ w.heap.size) (hb : Bs < w.heap.size) (W : World) (l : Nat) (o o' : Obj) (hl : w.heap.size ≤ l) (h : W.heap[l]? = some o) (hc : o.isCells = false) (hw : o.isWalk = false) : BackKp n₀ Bs W (W.putObj l o') :=
  ⟨belowK_b hn W l o o' hl h hc hw, World.putObj_heap_other (by omega)⟩

theorem back_any (A : Option Addr) (n c : Nat) (w : World) :
    Calls Tryd.prog 53 #[.slice A n c] w fun e w' => e = .returned (.func (.func 83) #[] #[.pointer (some ⟨w.heap.size, 0, none⟩)]) ∧ w' = w.alloc (.cells #[.slice A n c] 22) := by
  go_enter Tryd.func53, Tryd.ntmps53
  go_wp2
  go_ret
  exact ⟨rfl, rfl⟩

set_option maxRecDepth 100000 in
set_option maxHeartbeats 1000000 in
theorem back_seq (F : Fence) (m : Nat) (hF : F.fn 83) (hro : F.round = none) (hm : 1 ≤ m) (Bs n₀ n c : Nat) (A : Option Addr) (xs : List Nat) (hn : n ≤ 1000000000) (w : World)
    (hBs : Own w Bs 22 [.slice A n c]) (hr : Row w A n (u32 xs)) (hlt : ∀ b o, A = some ⟨b, o, none⟩ → 0 < n → b < n₀) :
    SeqIdx F m Tryd.prog 83 #[.pointer (some ⟨Bs, 0, none⟩)] (backEnc xs n) (BackKp n₀ Bs) n w := by
  intro l J Jx W hW hJ hJx hY h0
  have hBW := hBs.below hW
  have hrW := hr.below hW
  have b0 := hBW.c0
  refine callsIn_of_wp Tryd.func83 rfl hF ?_ hro
  simp only [Tryd.ntmps83, List.size_toArray, List.length_cons, List.length_nil, Nat.reduceAdd, Nat.reduceSub, Array.replicate_succ, Array.replicate_zero, List.push_toArray, List.append_toArray, List.nil_append, List.cons_append]
  gi_wp2
  gi_loopw [3] (fun i wr => ∃ k : Nat, k ≤ n ∧ i = .int .i64 ((n : Int) - 1 - (k : Nat)) ∧ J k wr ∧ BackKp n₀ Bs W wr)
    (fun i _ => (intOf i + 1).toNat)
  case atStart => exact ⟨0, Nat.zero_le _, by go_num, h0, Below.refl _ _, rfl⟩
  case round =>
    obtain ⟨k, hk, rfl, hJs, hnx⟩ := hrel
    have hOwn : Own wr Bs 22 [.slice A n c] := hnx.2.trans hBW
    have c0 := hOwn.c0
    by_cases hlt' : k < n
    · obtain ⟨b, o, rfl, hb, hcell⟩ := hrW (by omega)
      have hcx : wr.cell? ⟨b, o + (n - 1 - k), none⟩ = some (.int .u32 (ix xs (n - 1 - k) : Nat)) := (hnx.1.cell (p := ⟨b, o + (n - 1 - k), none⟩) (hlt b o rfl (by omega))).trans (hcell (n - 1 - k) (by omega))
      clear hcell
      obtain ⟨fn, tmps, assign, body, hy, hR⟩ := hY k wr hJs hlt'
      unfold backEnc at hy
      have e : (n : Int) - 1 - (k : Int) = ((n - 1 - k : Nat) : Int) := by omega
      rw [e]
      clear e
      obtain ⟨q, hq⟩ : ∃ q, n - 1 - k = q := ⟨_, rfl⟩
      rw [hq] at hy hcx ⊢
      have hqn : q < n := by omega
      have HQ := Lib.hid hq
      clear hq
      gi_wp2
      refine hR.mono ?_
      rintro e W3 (⟨rfl, hJ3, hk3⟩ | ⟨rfl, hJx3⟩)
      · gi_wp2
        go_roundw
        case rel => exact ⟨k + 1, by omega, by have := HQ.out; congr 1; omega, hJ3, hnx.t hk3⟩
        case measure => have := HQ.out; simp [intOf]
      · gi_wp2
        refine bodyPost_ret (results_none rfl _ _ _) rfl ?_
        exact ⟨⟨_, rfl⟩, .inr ⟨k + 1, by omega, hJx3⟩⟩
    · obtain rfl : k = n := by omega
      gi_wp2
      go_end0
      exact ⟨⟨_, rfl⟩, .inl hJs⟩

/-- word: a magnitude of at most two groups -/
theorem val_drop_all (xs : List Nat) : val (xs.drop xs.length) = 0 := by simp [val]

set_option maxRecDepth 100000 in
set_option maxHeartbeats 1000000 in
theorem word_in (A : Option Addr) (n c : Nat) (xs : List Nat) (w : World) (e : xs.length = n) (h : Row w A n (u32 xs)) (ha : AllB xs) (hn : n ≤ 2) :
    Calls Tryd.prog 77 #[.slice A n c] w fun e w' => e = .returned (.tuple #[.int .u64 (val xs : Nat), .bool true]) ∧ Keeps w w' := by
  refine (callsIn_wide (n := 4)).1 ?_
  have hlt : ∀ b o, A = some ⟨b, o, none⟩ → 0 < n → b < w.heap.size := fun b o e hp => h.lt e hp
  refine callsIn_of_wp_marks Tryd.func77 rfl trivial ?_ rfl
  simp only [Tryd.ntmps77, List.size_toArray, List.length_cons, List.length_nil, Nat.reduceAdd, Nat.reduceSub, Array.replicate_succ, Array.replicate_zero, List.push_toArray, List.append_toArray, List.nil_append, List.cons_append]
  gi_wp2_with (refine ⟨trivial, ?_⟩; refine (callsIn_wide.2 (back_any A n c _)).mono ?_; rintro e w' ⟨rfl, rfl⟩)
  have hN := (Own.new w 50 [.int .u64 0]).alloc (.cells #[.slice A n c] 22)
  have hS := own2 w (.cells #[.int .u64 0] 50) 22 [.slice A n c]
  have hK := keep2 w (.cells #[.int .u64 0] 50) (.cells #[.slice A n c] 22)
  apply wpIn_range_idx (N := n) rfl (by omega) (gf := 83) (lb := #[.pointer (some ⟨w.heap.size + 1, 0, none⟩)]) rfl trivial (enters_of Tryd.func83 (by kernel_rfl) rfl)
    (back_seq Fence.wide _ trivial rfl (by omega) (w.heap.size + 1) w.heap.size n c A xs (by omega) _ hS (h.below hK) hlt) BackKp.t (BackKp.b (by simp; omega) (by simp)) (Below.refl _ _) (fun _ => rfl)
    (fun k W => Own W w.heap.size 50 [.int .u64 (val (xs.drop (n - k)) : Nat)] ∧ Own W (w.heap.size + 1) 22 [.slice A n c] ∧ Keeps w W) (fun _ _ _ => False)
    (fun k A B row hs hg hr => ⟨hs.1.nc hg (fun r e => (hr r e).2), hs.2.1.nc hg (fun r e => (hr r e).2), ownFrom_below (β := Nat) (Nat.le_refl _) (by simp; omega) k A B row hs.2.2 hg hr⟩)
    (fun _ _ _ _ _ hs _ _ => hs)
    ⟨by subst e; simpa [val] using hN, hS, hK⟩
  case hassign =>
    intro l x W K hK
    unfold backEnc
    gi_wp2
    exact hK
  case hbody =>
    rintro l k W ⟨h1, h2, h3⟩ hk
    have hdv : val (xs.drop (n - (k + 1))) = ix xs (n - 1 - k) + 1000000000 * val (xs.drop (n - k)) := by
      rw [val_drop xs (n - (k + 1)) (by omega), show n - (k + 1) = n - 1 - k by omega, show n - 1 - k + 1 = n - k by omega]
    have hvb : ((val (xs.drop (n - k)) : Nat) : Int) < 1000000000 := by
      have h1 := val_lt (ha.drop (n - k))
      have h2 : (xs.drop (n - k)).length ≤ 1 := by rw [List.length_drop]; omega
      have h3 : 1000000000 ^ (xs.drop (n - k)).length ≤ 1000000000 ^ 1 := Nat.pow_le_pow_right (by omega) h2
      omega
    have hxb : ((ix xs (n - 1 - k) : Nat) : Int) < 1000000000 := by have := ha.ix (n - 1 - k); omega
    have HD := Lib.hid hdv
    clear hdv
    have c0 := h1.c0
    have f0 := h1.frozen 0
    gi_wp2
    refine ⟨(KeepsOthers.setCell _ _ _).from _, ⟨(Below.refl _ W).setCell (p := ⟨w.heap.size, 0, none⟩) (Nat.le_refl _) _, Below.heap_setCell _ _ _ _ (by simp)⟩, ?_, h2.far (by simp) _, h3.set (Nat.le_refl _) _⟩
    have := h1.set 0 (.int .u64 (val (xs.drop (n - (k + 1))) : Nat))
    rw [show ((val (List.drop (n - k) xs) : Nat) : Int) * 1000000000 + ((ix xs (n - 1 - k) : Nat) : Int) = ((val (xs.drop (n - (k + 1))) : Nat) : Int) by have := HD.out; omega]
    exact this
  case hdone =>
    rintro D W hD ⟨h1, h2, h3⟩ hDf
    have c0 := h1.c0
    gi_wp2
    refine ⟨by simp, .inl ⟨_, _, rfl, run_takeDeferred hDf, ?_⟩⟩
    refine ⟨_, results_tmp2 rfl _ _ _, ?_, h3.trans (belowK_b (w := w) (Nat.le_refl _) W D _ _ (by simp at hD; omega) hDf rfl rfl)⟩
    simp
  case hstop =>
    rintro D c k W _ _ h _
    exact h.elim

set_option maxRecDepth 100000 in
set_option maxHeartbeats 400000 in
theorem word_long (A : Option Addr) (n c : Nat) (w : World) (hn : 2 < n) (hm : n ≤ 1000000000) :
    Calls Tryd.prog 77 #[.slice A n c] w fun e w' => e = .returned (.tuple #[.int .u64 0, .bool false]) ∧ w = w' := by
  go_enter Tryd.func77, Tryd.ntmps77
  go_wp2
  go_ret2
  exact ⟨rfl, rfl⟩
/-- word, of a magnitude -/
def wordV (m : Nat) : Value := if m < 1000000000000000000 then .tuple #[.int .u64 (m : Nat), .bool true] else .tuple #[.int .u64 0, .bool false]
theorem word_any (v : Value) (m : Nat) (w : World) (h : U32 w v (dig m)) (hm : (dig m).length ≤ 1000000) :
    Calls Tryd.prog 77 #[v] w fun e w' => e = .returned (wordV m) ∧ Keeps w w' := by
  obtain ⟨A, n, c, rfl, e, hc, _, h0, hr⟩ := h.open_
  by_cases hs : m < 1000000000000000000
  · have : (dig m).length ≤ 2 := dig_length_le (by omega)
    have := word_in A n c (dig m) w e hr (AllB.dig m) (by omega)
    rw [val_dig] at this
    unfold wordV
    rw [if_pos hs]
    exact this
  · have hl : 2 < n := by
      rcases Nat.lt_or_ge 2 n with h | h
      · exact h
      · have := dig_lt m
        have h3 : 1000000000 ^ (dig m).length ≤ 1000000000 ^ 2 := Nat.pow_le_pow_right (by omega) (by omega)
        omega
    unfold wordV
    rw [if_neg hs]
    exact (word_long A n c w hl (by omega)).mono fun _ _ ⟨a, b⟩ => ⟨a, by subst b; exact Below.refl _ _⟩
end Go.Proofs.YthgbgoidnnfapaaDoor
