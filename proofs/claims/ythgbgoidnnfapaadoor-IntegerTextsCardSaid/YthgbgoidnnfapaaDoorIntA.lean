/- The walks of the magnitudes' small functions. -/
import Derived.Test.YthgbgoidnnfapaaDoorMem
import Derived.Test.YthgbgoidnnfapaaDoorProg
namespace Go.Proofs.YthgbgoidnnfapaaDoor
open Go.RowKit

theorem ret_slice {A : Option Addr} {n m c : Nat} (h : n = m) : Ending.returned (.slice A n c) = .returned (.slice A m c) := by rw [h]

set_option maxHeartbeats 400000 in
theorem trim_any (A : Option Addr) (c : Nat) (xs : List Nat) (w : World) (h : Row w A xs.length (u32 xs)) (hc : xs.length ≤ c) (hm : c ≤ maxLen) :
    Calls Tryd.prog 82 #[.slice A xs.length c] w fun e w' => e = .returned (.slice A (trimL xs).length c) ∧ w = w' := by
  unfold maxLen at hm
  go_enter Tryd.func82, Tryd.ntmps82
  go_wp2
  go_loop [0] (fun g => ∃ k : Nat, k ≤ xs.length ∧ trimL (xs.take k) = trimL xs ∧ g = .slice A k c) (fun g => lenOf g)
  case atStart => exact ⟨_, Nat.le_refl _, by simp, rfl⟩
  case round =>
    obtain ⟨k, hk, ht, rfl⟩ := hrel
    have HT := Lib.hid ht
    clear ht
    rcases Nat.eq_zero_or_pos k with rfl | hpos
    · go_wp2
      go_ret
      exact ⟨by rw [← HT.out]; simp [trimL], rfl⟩
    · obtain ⟨j, rfl⟩ : ∃ j, k = j + 1 := ⟨k - 1, by omega⟩
      obtain ⟨b, o, rfl, hb, hcell⟩ := h (by omega)
      have hx : w.cell? ⟨b, o + j, none⟩ = some (.int .u32 (ix xs j : Nat)) := hcell j (by omega)
      have hts := take_snoc xs j (by omega)
      clear hcell
      by_cases hz : ix xs j = 0
      · have HZ := Lib.hid hz
        rw [hz] at hx
        clear hz
        have HS := Lib.hid hts
        clear hts
        go_wp2
        go_round
        case rel => exact ⟨j, by omega, by rw [← HT.out, HS.out, HZ.out, trimL_snoc_zero], rfl⟩
        case measure => simp [lenOf]
      · have hb2 : (((ix xs j : Nat) : Int) == 0) = false := by simpa using hz
        have HS := Lib.hid hts
        clear hts
        go_wp2
        go_ret
        exact ⟨ret_slice (by rw [← HT.out, HS.out, trimL_snoc _ _ hz]; simp; omega), rfl⟩

theorem at_any (A : Option Addr) (c : Nat) (xs : List Nat) (i : Nat) (w : World) (h : Row w A xs.length (u32 xs)) (hm : xs.length ≤ 1000000000) (hi : i ≤ 1000000000) :
    Calls Tryd.prog 92 #[.slice A xs.length c, .int .i64 (i : Nat)] w fun e w' => e = .returned (.int .u32 (ix xs i : Nat)) ∧ w = w' := by
  by_cases hlt : i < xs.length
  · obtain ⟨b, o, rfl, hb, hcell⟩ := h (by omega)
    have hx : w.cell? ⟨b, o + i, none⟩ = some (.int .u32 (ix xs i : Nat)) := hcell i hlt
    go_enter Tryd.func92, Tryd.ntmps92
    go_wp2
    go_ret
    exact ⟨rfl, rfl⟩
  · have HZ := Lib.hid (ix_past xs i (by omega))
    go_enter Tryd.func92, Tryd.ntmps92
    go_wp2
    go_ret
    exact ⟨by rw [HZ.out]; rfl, rfl⟩

/-- trim, with the length as a variable of its own -/
theorem trim_n (A : Option Addr) (n c : Nat) (xs : List Nat) (w : World) (e : xs.length = n) (h : Row w A n (u32 xs)) (hc : n ≤ c) (hm : c ≤ maxLen) :
    Calls Tryd.prog 82 #[.slice A n c] w fun e w' => e = .returned (.slice A (trimL xs).length c) ∧ w = w' := by
  subst e
  exact trim_any A c xs w h hc hm
theorem at_n (A : Option Addr) (n c : Nat) (xs : List Nat) (i : Nat) (w : World) (e : xs.length = n) (h : Row w A n (u32 xs)) (hm : n ≤ 1000000000) (hi : i ≤ 1000000000) :
    Calls Tryd.prog 92 #[.slice A n c, .int .i64 (i : Nat)] w fun e w' => e = .returned (.int .u32 (ix xs i : Nat)) ∧ w = w' := by
  subst e
  exact at_any A c xs i w h hm hi
end Go.Proofs.YthgbgoidnnfapaaDoor
