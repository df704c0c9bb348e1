/- The corners of a raster, plainly; there are few. No program in sight. -/
import Derived.Test.YtecibfncnaccjaaTPeak
import Derived.Test.YtecibfncnaccjaaTStab
namespace Go.Proofs.Ytecibfncnaccjaa

def cornP (s : List Int) (W x y : Nat) : Cn :=
  (64 * (x : Int) + 32 + offI (vI s ((y * W + x : Nat) - 1)) (vI s (y * W + x : Nat)) (vI s ((y * W + x : Nat) + 1)), 64 * (y : Int) + 32 + offI (vI s ((y * W + x : Nat) - W)) (vI s (y * W + x : Nat)) (vI s ((y * W + x : Nat) + W)), vI s (y * W + x : Nat))
def isC (W H : Nat) (s : List Int) (thr : Int) (k : Nat) : Bool := inI W H (k % W) (k / W) && peakP s W thr k
def candN (W H : Nat) (s : List Int) (thr : Int) (n : Nat) : List Cn := ((List.range n).filter (isC W H s thr)).map fun k => cornP s W (k % W) (k / W)
theorem candN_succ {W H x y : Nat} (s : List Int) (thr : Int) (hx : x < W) (hi : inI W H x y = true) : candN W H s thr (y * W + x + 1) = candN W H s thr (y * W + x) ++ if peakP s W thr (y * W + x) then [cornP s W x y] else [] := by
  unfold candN
  rw [List.range_succ, List.filter_append, List.map_append]
  congr 1
  have h : isC W H s thr (y * W + x) = peakP s W thr (y * W + x) := by
    unfold isC
    rw [idx_mod hx, idx_div hx, hi, Bool.true_and]
  cases hp : peakP s W thr (y * W + x) with
  | false => simp [h, hp]
  | true => simp [h, hp, idx_mod hx, idx_div hx]
theorem candN_skip {W H : Nat} (s : List Int) (thr : Int) {n k : Nat} (hW : 0 < W) (hnk : n ≤ k) (h : ∀ x y, x < W → y < H → inI W H x y = true → ¬ (n ≤ y * W + x ∧ y * W + x < k)) : candN W H s thr n = candN W H s thr k := by
  unfold candN
  obtain ⟨d, rfl⟩ : ∃ d, k = n + d := ⟨k - n, by omega⟩
  rw [List.range_add, List.filter_append, List.map_append]
  have : ((List.range d).map (n + ·)).filter (isC W H s thr) = [] := by
    rw [List.filter_eq_nil_iff]
    intro a ha hc
    obtain ⟨b, hb, rfl⟩ := List.mem_map.1 ha
    have hb := List.mem_range.1 hb
    unfold isC at hc
    rw [Bool.and_eq_true] at hc
    have h1 : 2 ≤ (n + b) % W ∧ (n + b) % W + 2 < W ∧ 2 ≤ (n + b) / W ∧ (n + b) / W + 2 < H := of_decide_eq_true hc.1
    have h2 : (n + b) / W * W + (n + b) % W = n + b := by rw [Nat.mul_comm]; exact Nat.div_add_mod _ _
    exact h _ _ (by omega) (by omega) hc.1 (by omega)
  rw [this, List.map_nil, List.append_nil]
theorem candN_zero {W H : Nat} (s : List Int) (thr : Int) (hW : 0 < W) : candN W H s thr (2 * W + 2) = [] := by
  rw [← candN_skip s thr hW (Nat.zero_le _) fun x y hx hy hin => ?_]
  · rfl
  · have h1 : 2 ≤ x ∧ x + 2 < W ∧ 2 ≤ y ∧ y + 2 < H := of_decide_eq_true hin
    have := row_le (W := W) h1.2.2.1
    omega
theorem candN_row {W H x y : Nat} (s : List Int) (thr : Int) (hW : 0 < W) (hx : 2 ≤ x) (hw : W ≤ x + 2) (hw2 : x ≤ W + 2) : candN W H s thr (y * W + x) = candN W H s thr ((y + 1) * W + 2) := by
  rw [show (y + 1) * W + 2 = y * W + x + (W + 2 - x) by rw [Nat.add_mul]; omega]
  refine candN_skip s thr hW (by omega) fun i j hi hj hin => ?_
  have h1 : 2 ≤ i ∧ i + 2 < W ∧ 2 ≤ j ∧ j + 2 < H := of_decide_eq_true hin
  rcases Nat.lt_trichotomy j y with h | h | h
  · have := row_le (W := W) (show j + 1 ≤ y by omega)
    rw [Nat.add_mul, Nat.one_mul] at this
    omega
  · subst h
    omega
  · have := row_le (W := W) (show y + 1 ≤ j by omega)
    rw [Nat.add_mul, Nat.one_mul] at this
    omega
theorem candN_end {W H y : Nat} (s : List Int) (thr : Int) (hW : 0 < W) (hh : H ≤ y + 2) : candN W H s thr (y * W + 2) = candN W H s thr (max (y * W + 2) (W * H)) := by
  refine candN_skip s thr hW (Nat.le_max_left _ _) fun i j hi hj hin => ?_
  have h1 : 2 ≤ i ∧ i + 2 < W ∧ 2 ≤ j ∧ j + 2 < H := of_decide_eq_true hin
  have := row_le (W := W) (show j + 1 ≤ y by omega)
  rw [Nat.add_mul, Nat.one_mul] at this
  omega
theorem candN_all {W H n : Nat} (s : List Int) (thr : Int) (hW : 0 < W) (hn : W * H ≤ n) : candN W H s thr n = candN W H s thr (W * H) := by
  refine (candN_skip s thr hW hn fun i j hi hj hin => ?_).symm
  have := idx_lt hi hj
  omega
/-- few places -/
theorem nodup_bd : ∀ (N : Nat) (l : List Nat), l.Nodup → (∀ x ∈ l, x < N) → l.length ≤ N
  | 0, l, _, h => by
    cases l with
    | nil => exact Nat.le_refl _
    | cons a r => exact absurd (h a List.mem_cons_self) (by omega)
  | N + 1, l, hd, h => by
    have h1 := nodup_bd N (l.erase N) (hd.erase N) (fun x hx => by
      have h2 := (hd.mem_erase_iff).1 hx
      have := h x h2.2
      omega)
    by_cases hN : N ∈ l
    · have h3 := List.length_erase_of_mem hN
      omega
    · rw [List.erase_of_not_mem hN] at h1
      omega
theorem peak_dir {s : List Int} {W : Nat} {thr : Int} {k : Nat} (h : peakP s W thr k = true) {d : Int} (hd : d ∈ dl W) : dirB s k d = true := by
  unfold peakP at h
  rw [Bool.and_eq_true] at h
  exact List.all_eq_true.1 h.2 d hd
theorem not_both {s : List Int} {W : Nat} {thr : Int} {k1 k2 : Nat} (h1 : peakP s W thr k1 = true) (h2 : peakP s W thr k2 = true) {d : Int} (hd : d ∈ dl W) (he : (k2 : Int) + d = k1) : False := by
  have a := peak_dir h1 hd
  have b := peak_dir h2 hd
  unfold dirB at a b
  rw [show (k1 : Int) - d = k2 by omega] at a
  rw [he] at b
  simp at a b
  omega
theorem few_places : ∀ W, W < 31 → ∀ H, H < 31 → W * H ≤ 150 → (W - 3) / 2 * ((H - 3) / 2) ≤ 20 := by decide +kernel
theorem candN_few {W H n : Nat} (s : List Int) (thr : Int) (hWH : W * H ≤ 150) : (candN W H s thr n).length ≤ 20 := by
  unfold candN
  rw [List.length_map]
  obtain ⟨A, hA⟩ : ∃ A, (W - 3) / 2 = A := ⟨_, rfl⟩
  obtain ⟨B, hB⟩ : ∃ B, (H - 3) / 2 = B := ⟨_, rfl⟩
  obtain ⟨P, hP⟩ : ∃ P, (List.range n).filter (isC W H s thr) = P := ⟨_, rfl⟩
  rw [hP]
  have hmem : ∀ k ∈ P, (2 ≤ k % W ∧ k % W + 2 < W ∧ 2 ≤ k / W ∧ k / W + 2 < H) ∧ peakP s W thr k = true := fun k hk => by
    rw [← hP] at hk
    have h1 := (List.mem_filter.1 hk).2
    unfold isC at h1
    rw [Bool.and_eq_true] at h1
    exact ⟨of_decide_eq_true h1.1, h1.2⟩
  have hnd : (P.map fun k => (k % W / 2 - 1) + (k / W / 2 - 1) * A).Nodup := by
    rw [List.Nodup, List.pairwise_map]
    have hs : P.Pairwise (· < ·) := by
      rw [← hP]
      exact List.Pairwise.filter _ List.pairwise_lt_range
    refine List.Pairwise.imp_of_mem (fun {a b} ha hb hab => ?_) hs
    intro e
    obtain ⟨h1, p1⟩ := hmem a ha
    obtain ⟨h2, p2⟩ := hmem b hb
    have ea : a / W * W + a % W = a := by rw [Nat.mul_comm]; exact Nat.div_add_mod _ _
    have eb : b / W * W + b % W = b := by rw [Nat.mul_comm]; exact Nat.div_add_mod _ _
    have hi := idx_inj (W := A) (x := b % W / 2 - 1) (y := b / W / 2 - 1) (i := a % W / 2 - 1) (j := a / W / 2 - 1) (by omega) (by omega) (by omega)
    generalize a % W = x1 at *
    generalize b % W = x2 at *
    generalize a / W = y1 at *
    generalize b / W = y2 at *
    have hyy : y2 = y1 ∨ y2 = y1 + 1 ∨ y1 = y2 + 1 := by omega
    rcases hyy with rfl | rfl | rfl
    · exact not_both p1 p2 (d := -1) (by simp [dl]) (by omega)
    · rw [Nat.add_mul, Nat.one_mul] at eb
      have hxx : x2 = x1 ∨ x2 = x1 + 1 ∨ x1 = x2 + 1 := by omega
      rcases hxx with rfl | rfl | rfl
      · exact not_both p1 p2 (d := -(W : Int)) (by simp [dl]) (by omega)
      · exact not_both p1 p2 (d := -(W : Int) - 1) (by simp [dl]) (by omega)
      · exact not_both p1 p2 (d := -(W : Int) + 1) (by simp [dl]) (by omega)
    · rw [Nat.add_mul, Nat.one_mul] at ea
      omega
  have hlt : ∀ v ∈ (P.map fun k => (k % W / 2 - 1) + (k / W / 2 - 1) * A), v < A * B := fun v hv => by
    obtain ⟨k, hk, rfl⟩ := List.mem_map.1 hv
    obtain ⟨h1, -⟩ := hmem k hk
    have := idx_lt (W := A) (H := B) (x := k % W / 2 - 1) (y := k / W / 2 - 1) (by omega) (by omega)
    omega
  have h := nodup_bd (A * B) _ hnd hlt
  rw [List.length_map] at h
  cases hP0 : P with
  | nil => simp
  | cons k r =>
    have h1 := (hmem k (by rw [hP0]; exact List.mem_cons_self)).1
    have hW5 : 5 ≤ W := by omega
    have hH5 : 5 ≤ H := by omega
    have hWb : W < 31 := by
      rcases Nat.lt_or_ge W 31 with h | h
      · exact h
      · have := Nat.mul_le_mul h hH5
        omega
    have hHb : H < 31 := by
      rcases Nat.lt_or_ge H 31 with h | h
      · exact h
      · have := Nat.mul_le_mul hW5 h
        omega
    have := few_places W hWb H hHb hWH
    rw [hA, hB] at this
    rw [← hP0]
    omega
/-- a list of corners that is handed back -/
def CRow (w : World) (A : Option Addr) (l : List Cn) : Prop := 0 < l.length → ∃ g rest, A = some ⟨g, 0, none⟩ ∧ RowC w g l rest
/-- what Find hands back -/
def findP (W H : Nat) (px : List Int) (thr : Int) : List Cn := let l := candN W H (scoL W H px) thr (W * H); srt l.length l
end Go.Proofs.Ytecibfncnaccjaa
