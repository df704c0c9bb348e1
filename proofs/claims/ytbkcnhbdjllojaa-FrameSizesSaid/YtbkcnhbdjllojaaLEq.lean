/- Rows of ints compared by slices.Equal; plain laws of residuals and of the best parameter. -/
import Derived.Test.YtbkcnhbdjllojaaKno
namespace Go.Proofs.Ytbkcnhbdjllojaa
open Go.RowKit Go.Shelf

theorem equalI_any {w : World} {A B : Option Addr} {xs ys : List Int} {n m c d : Nat} (hA : IRow w A xs) (hB : IRow w B ys) (hn : n = xs.length) (hm : m = ys.length) (hl : xs.length ≤ maxLen) (hl' : ys.length ≤ maxLen) :
    Calls Try.prog 25 #[.slice A n c, .slice B m d] w fun e w' => e = .returned (.bool (decide (xs = ys))) ∧ Keeps w w' := by
  subst hn hm
  simp only [maxLen] at hl hl'
  by_cases h0 : xs.length = 0
  · obtain rfl := List.length_eq_zero_iff.1 h0
    refine (Try.slices_Equal_int_empty A B c ys.length d w (by omega)).mono ?_
    rintro e w' ⟨rfl, rfl⟩
    refine ⟨?_, Below.refl _ _⟩
    congr 2
    cases ys <;> simp
  · by_cases h1 : xs.length = ys.length
    · obtain ⟨b1, o1, rfl, -, c1⟩ := hA (by omega)
      obtain ⟨b2, o2, rfl, -, c2⟩ := hB (by omega)
      refine (Try.slices_Equal_int b1 o1 xs.length c b2 o2 ys.length d xs ys w (Nat.le_refl _) (Nat.le_refl _) (by omega) (by omega) c1 c2).mono ?_
      rintro e w' ⟨rfl, q, rfl⟩
      refine ⟨?_, below_drewN (Below.refl _ _) q⟩
      congr 2
      rw [List.take_length, List.take_length]
      by_cases h : xs = ys
      · subst h; simp
      · simp [h]
    · refine (Try.slices_Equal_int_lens A B xs.length c ys.length d w h1).mono ?_
      rintro e w' ⟨rfl, rfl⟩
      refine ⟨?_, Below.refl _ _⟩
      congr 2
      exact (decide_eq_false fun h => h1 (by rw [h])).symm
theorem fold_unf {v m : Int} (h0 : 0 ≤ v) (h1 : v ≤ m) : foldI (unfI v % (m + 1)) (m + 1) = v := by
  unfold unfI
  split
  · rename_i h
    rw [Int.emod_eq_of_lt (by omega) (by omega), foldI, if_pos (by omega), if_pos (by omega)]
    omega
  · rename_i h
    by_cases hv : v = 0
    · subst hv
      simp [foldI]
      omega
    · have : -(v / 2) % (m + 1) = m + 1 - v / 2 := by
        rw [← Int.add_emod_right, Int.emod_eq_of_lt (by omega) (by omega)]
        omega
      rw [this, foldI, if_neg (by omega)]
      omega
theorem restU_take (W : Nat) (m : Int) (l : List Int) : ∀ (k j : Nat), j ≤ k → (restU W m l k).take j = restU W m l j
  | 0, j, h => by
    obtain rfl : j = 0 := by omega
    rfl
  | k + 1, j, h => by
    by_cases e : j = k + 1
    · subst e
      exact List.take_of_length_le (by rw [restU_length]; exact Nat.le_refl _)
    · rw [restU, List.take_append_of_le_length (by rw [restU_length]; omega)]
      exact restU_take W m l k j (by omega)
theorem resI_rest {l : List Int} {W : Nat} {m : Int} (hW : 1 ≤ W) (hg : Grey m l) (hm : 0 ≤ m) : resI (restI W m l) W m = l := by
  apply List.ext_getElem
  · rw [resI_length, restI, restU_length]
  · intro j h1 h2
    have hlen : (restI W m l).length = l.length := restU_length W m l l.length
    have ht : (restI W m l).take (j + 1) = restU W m l j ++ [restAt W m (restU W m l j) (l.getD j 0)] := restU_take W m l l.length (j + 1) (by omega)
    have hg1 : (restI W m l).getD j 0 = restAt W m (restU W m l j) (l.getD j 0) := by
      have h3 : ((restI W m l).take (j + 1)).getD j 0 = (restI W m l).getD j 0 := by
        simp [List.getD]
      rw [← h3, ht]
      simp [List.getD, restU_length]
    have hp : predI (restI W m l) W j = predI (restU W m l j) W j := by
      rw [← predI_take hW, restI, restU_take W m l l.length j (by omega)]
    have hlj : l.getD j 0 = l[j] := by simp [List.getD, h2]
    have hv := hg.get hm j
    have hr : restAt W m (restU W m l j) (l.getD j 0) = (predI (restU W m l j) W j + unfI (l.getD j 0)) % (m + 1) := by rw [restAt, restU_length]
    simp only [resI, List.getElem_map, List.getElem_range]
    rw [resAt, hg1, hr, hp, ← hlj]
    have hx : ((predI (restU W m l j) W j + unfI (l.getD j 0)) % (m + 1) - predI (restU W m l j) W j + (m + 1)) % (m + 1) = unfI (l.getD j 0) % (m + 1) := by
      rw [Int.add_emod_right, Int.emod_sub_emod]
      congr 1
      omega
    rw [hx]
    exact fold_unf hv.1 hv.2
theorem bestU_min (l : List Int) : ∀ (n k : Nat), k < n → totI l (bestU l n) ≤ totI l k
  | 0, _, h => by omega
  | n + 1, k, h => by
    rw [bestU]
    split
    · rename_i h1
      by_cases e : k = n
      · subst e; exact Int.le_refl _
      · have := bestU_min l n k (by omega)
        omega
    · rename_i h1
      by_cases e : k = n
      · subst e; omega
      · exact bestU_min l n k (by omega)
end Go.Proofs.Ytbkcnhbdjllojaa
