/- Keys and values of entries: the program's tests and the document's. -/
import Derived.Test.YtbkcnhbdjllojaaHeap
import Derived.Test.YtbkcnhbdjllojaaProg
import Derived.Shelf.Abstract
import Derived.Shelf.RegionOpen
import Derived.Deep.DeepCutAuto
import Derived.Deep.LoopGhost
namespace Go.Proofs.Ytbkcnhbdjllojaa
open Go.RowKit Go.Shelf

/-- may this byte stand at this place of a key? -/
def gdK (j : Nat) (c : UInt8) : Bool :=
  (decide (97 ≤ c.toNat) && decide (c.toNat ≤ 122)) || (decide (j ≠ 0) && ((decide (48 ≤ c.toNat) && decide (c.toNat ≤ 57)) || decide (c.toNat = 95)))
def keyB (s : ByteArray) : Bool := decide (1 ≤ s.size ∧ s.size ≤ 24 ∧ ∀ j, (h : j < s.size) → gdK j s[j] = true)
def valC (s : ByteArray) : Int := if 120 < s.size then 9 else if ∀ j, (h : j < s.size) → 32 ≤ s[j].toNat ∧ s[j].toNat ≤ 126 then 0 else 8

theorem keyB_short {s : ByteArray} (h : s.size < 1 ∨ 24 < s.size) : keyB s = false := decide_eq_false (by omega)
theorem keyB_no {s : ByteArray} {k : Nat} (h : k < s.size) (hg : gdK k s[k] = false) : keyB s = false :=
  decide_eq_false fun ⟨_, _, h3⟩ => by rw [h3 k h] at hg; cases hg
theorem keyB_yes {s : ByteArray} (h1 : 1 ≤ s.size) (h2 : s.size ≤ 24) (h : ∀ j, (hj : j < s.size) → gdK j s[j] = true) : keyB s = true := decide_eq_true ⟨h1, h2, h⟩

theorem valC_long {s : ByteArray} (h : 120 < s.size) : valC s = 9 := if_pos h
theorem valC_no {s : ByteArray} {k : Nat} (h0 : s.size ≤ 120) (h : k < s.size) (hg : ¬ (32 ≤ s[k].toNat ∧ s[k].toNat ≤ 126)) : valC s = 8 := by
  rw [valC, if_neg (by omega), if_neg fun h3 => hg (h3 k h)]
theorem valC_yes {s : ByteArray} (h0 : s.size ≤ 120) (h : ∀ j, (hj : j < s.size) → 32 ≤ s[j].toNat ∧ s[j].toNat ≤ 126) : valC s = 0 := by
  rw [valC, if_neg (by omega), if_pos h]
theorem all_snoc {s : ByteArray} {k : Nat} {p : Nat → UInt8 → Prop} (h : ∀ j, j < k → (hj : j < s.size) → p j s[j]) (hk : k < s.size) (hp : p k s[k]) : ∀ j, j < k + 1 → (hj : j < s.size) → p j s[j] := fun j h1 hj => by
  by_cases e : j = k
  · subst e; exact hp
  · exact h j (by omega) hj

theorem cl_key (c : Nat) : c < 48 ∨ (48 ≤ c ∧ c ≤ 57) ∨ (57 < c ∧ c < 95) ∨ c = 95 ∨ c = 96 ∨ (97 ≤ c ∧ c ≤ 122) ∨ 122 < c := by omega
set_option maxRecDepth 100000 in
set_option maxHeartbeats 1000000 in
theorem isKey_any (s : ByteArray) (w : World) (hs : s.size ≤ 1000000) : Calls Try.prog 49 #[.string s] w fun e w' => e = .returned (.bool (keyB s)) ∧ w' = w := by
  have hsI : (s.size : Int) ≤ 1000000 := by omega
  by_cases h0 : s.size < 1 ∨ 24 < s.size
  · have HF := Lib.hid (keyB_short h0)
    go_enter Try.func49, Try.ntmps49
    go_wp2
    all_goals (go_ret; exact ⟨by rw [HF.out]; rfl, rfl⟩)
  · go_enter Try.func49, Try.ntmps49
    go_wp2
    go_loop [16] (fun i => ∃ k : Nat, k ≤ s.size ∧ i = .int .i64 (k : Nat) ∧ Hid (∀ j, j < k → (hj : j < s.size) → gdK j s[j] = true)) (fun i => s.size - (intOf i).toNat)
    case atStart => exact ⟨0, by omega, rfl, Lib.hid (fun j h => absurd h (by omega))⟩
    case round =>
      obtain ⟨k, hk, rfl, HA⟩ := hrel
      by_cases hlt : k < s.size
      · rcases Nat.eq_zero_or_pos k with rfl | hk0
        · rcases cl_key s[0].toNat with h | ⟨h, h'⟩ | ⟨h, h'⟩ | h | h | ⟨h, h'⟩ | h
          · have e0 : decide ((97 : Int) ≤ s[0].toNat) = false := by simp; omega
            have n0 : ¬ ((97 : Int) ≤ s[0].toNat) := by omega
            have e1 : decide ((s[0].toNat : Int) ≤ 122) = true := by simp; omega
            have n1 : (s[0].toNat : Int) ≤ 122 := by omega
            have e2 : decide ((s[0].toNat : Int) < 48) = true := by simp; omega
            have n2 : (s[0].toNat : Int) < 48 := by omega
            have e3 : decide ((57 : Int) < s[0].toNat) = false := by simp; omega
            have n3 : ¬ ((57 : Int) < s[0].toNat) := by omega
            have e4 : ((s[0].toNat : Int) != 95) = true := by simp; omega
            have HF := Lib.hid (keyB_no hlt (by simp [gdK]; omega))
            clear h
            go_wp2
            go_ret
            exact ⟨by rw [HF.out]; rfl, rfl⟩
          · have e0 : decide ((97 : Int) ≤ s[0].toNat) = false := by simp; omega
            have n0 : ¬ ((97 : Int) ≤ s[0].toNat) := by omega
            have e1 : decide ((s[0].toNat : Int) ≤ 122) = true := by simp; omega
            have n1 : (s[0].toNat : Int) ≤ 122 := by omega
            have e2 : decide ((s[0].toNat : Int) < 48) = false := by simp; omega
            have n2 : ¬ ((s[0].toNat : Int) < 48) := by omega
            have e3 : decide ((57 : Int) < s[0].toNat) = false := by simp; omega
            have n3 : ¬ ((57 : Int) < s[0].toNat) := by omega
            have e4 : ((s[0].toNat : Int) != 95) = true := by simp; omega
            have HF := Lib.hid (keyB_no hlt (by simp [gdK]; omega))
            clear h h'
            go_wp2
            go_ret
            exact ⟨by rw [HF.out]; rfl, rfl⟩
          · have e0 : decide ((97 : Int) ≤ s[0].toNat) = false := by simp; omega
            have n0 : ¬ ((97 : Int) ≤ s[0].toNat) := by omega
            have e1 : decide ((s[0].toNat : Int) ≤ 122) = true := by simp; omega
            have n1 : (s[0].toNat : Int) ≤ 122 := by omega
            have e2 : decide ((s[0].toNat : Int) < 48) = false := by simp; omega
            have n2 : ¬ ((s[0].toNat : Int) < 48) := by omega
            have e3 : decide ((57 : Int) < s[0].toNat) = true := by simp; omega
            have n3 : (57 : Int) < s[0].toNat := by omega
            have e4 : ((s[0].toNat : Int) != 95) = true := by simp; omega
            have HF := Lib.hid (keyB_no hlt (by simp [gdK]; omega))
            clear h h'
            go_wp2
            go_ret
            exact ⟨by rw [HF.out]; rfl, rfl⟩
          · have e0 : decide ((97 : Int) ≤ s[0].toNat) = false := by simp; omega
            have n0 : ¬ ((97 : Int) ≤ s[0].toNat) := by omega
            have e1 : decide ((s[0].toNat : Int) ≤ 122) = true := by simp; omega
            have n1 : (s[0].toNat : Int) ≤ 122 := by omega
            have e2 : decide ((s[0].toNat : Int) < 48) = false := by simp; omega
            have n2 : ¬ ((s[0].toNat : Int) < 48) := by omega
            have e3 : decide ((57 : Int) < s[0].toNat) = true := by simp; omega
            have n3 : (57 : Int) < s[0].toNat := by omega
            have e4 : ((s[0].toNat : Int) != 95) = false := by simp; omega
            have HF := Lib.hid (keyB_no hlt (by simp [gdK]; omega))
            clear h
            go_wp2
            go_ret
            exact ⟨by rw [HF.out]; rfl, rfl⟩
          · have e0 : decide ((97 : Int) ≤ s[0].toNat) = false := by simp; omega
            have n0 : ¬ ((97 : Int) ≤ s[0].toNat) := by omega
            have e1 : decide ((s[0].toNat : Int) ≤ 122) = true := by simp; omega
            have n1 : (s[0].toNat : Int) ≤ 122 := by omega
            have e2 : decide ((s[0].toNat : Int) < 48) = false := by simp; omega
            have n2 : ¬ ((s[0].toNat : Int) < 48) := by omega
            have e3 : decide ((57 : Int) < s[0].toNat) = true := by simp; omega
            have n3 : (57 : Int) < s[0].toNat := by omega
            have e4 : ((s[0].toNat : Int) != 95) = true := by simp; omega
            have HF := Lib.hid (keyB_no hlt (by simp [gdK]; omega))
            clear h
            go_wp2
            go_ret
            exact ⟨by rw [HF.out]; rfl, rfl⟩
          · have e0 : decide ((97 : Int) ≤ s[0].toNat) = true := by simp; omega
            have n0 : (97 : Int) ≤ s[0].toNat := by omega
            have e1 : decide ((s[0].toNat : Int) ≤ 122) = true := by simp; omega
            have n1 : (s[0].toNat : Int) ≤ 122 := by omega
            have e2 : decide ((s[0].toNat : Int) < 48) = false := by simp; omega
            have n2 : ¬ ((s[0].toNat : Int) < 48) := by omega
            have e3 : decide ((57 : Int) < s[0].toNat) = true := by simp; omega
            have n3 : (57 : Int) < s[0].toNat := by omega
            have e4 : ((s[0].toNat : Int) != 95) = true := by simp; omega
            have HT := Lib.hid (all_snoc (p := fun j c => gdK j c = true) HA.out hlt (by simp [gdK]; omega))
            clear h h'
            go_wp2
            go_round
            case rel => exact ⟨_, hlt, by go_num, HT⟩
            case measure => simp [intOf]; omega
          · have e0 : decide ((97 : Int) ≤ s[0].toNat) = true := by simp; omega
            have n0 : (97 : Int) ≤ s[0].toNat := by omega
            have e1 : decide ((s[0].toNat : Int) ≤ 122) = false := by simp; omega
            have n1 : ¬ ((s[0].toNat : Int) ≤ 122) := by omega
            have e2 : decide ((s[0].toNat : Int) < 48) = false := by simp; omega
            have n2 : ¬ ((s[0].toNat : Int) < 48) := by omega
            have e3 : decide ((57 : Int) < s[0].toNat) = true := by simp; omega
            have n3 : (57 : Int) < s[0].toNat := by omega
            have e4 : ((s[0].toNat : Int) != 95) = true := by simp; omega
            have HF := Lib.hid (keyB_no hlt (by simp [gdK]; omega))
            clear h
            go_wp2
            go_ret
            exact ⟨by rw [HF.out]; rfl, rfl⟩
        · rcases cl_key s[k].toNat with h | ⟨h, h'⟩ | ⟨h, h'⟩ | h | h | ⟨h, h'⟩ | h
          · have e0 : decide ((97 : Int) ≤ s[k].toNat) = false := by simp; omega
            have n0 : ¬ ((97 : Int) ≤ s[k].toNat) := by omega
            have e1 : decide ((s[k].toNat : Int) ≤ 122) = true := by simp; omega
            have n1 : (s[k].toNat : Int) ≤ 122 := by omega
            have e2 : decide ((s[k].toNat : Int) < 48) = true := by simp; omega
            have n2 : (s[k].toNat : Int) < 48 := by omega
            have e3 : decide ((57 : Int) < s[k].toNat) = false := by simp; omega
            have n3 : ¬ ((57 : Int) < s[k].toNat) := by omega
            have e4 : ((s[k].toNat : Int) != 95) = true := by simp; omega
            have z0 : ((k : Int) == 0) = false := by simp; omega
            have HF := Lib.hid (keyB_no hlt (by simp [gdK]; omega))
            clear h
            go_wp2
            go_ret
            exact ⟨by rw [HF.out]; rfl, rfl⟩
          · have e0 : decide ((97 : Int) ≤ s[k].toNat) = false := by simp; omega
            have n0 : ¬ ((97 : Int) ≤ s[k].toNat) := by omega
            have e1 : decide ((s[k].toNat : Int) ≤ 122) = true := by simp; omega
            have n1 : (s[k].toNat : Int) ≤ 122 := by omega
            have e2 : decide ((s[k].toNat : Int) < 48) = false := by simp; omega
            have n2 : ¬ ((s[k].toNat : Int) < 48) := by omega
            have e3 : decide ((57 : Int) < s[k].toNat) = false := by simp; omega
            have n3 : ¬ ((57 : Int) < s[k].toNat) := by omega
            have e4 : ((s[k].toNat : Int) != 95) = true := by simp; omega
            have z0 : ((k : Int) == 0) = false := by simp; omega
            have HT := Lib.hid (all_snoc (p := fun j c => gdK j c = true) HA.out hlt (by simp [gdK]; omega))
            clear h h'
            go_wp2
            go_round
            case rel => exact ⟨_, hlt, by go_num, HT⟩
            case measure => simp [intOf]; omega
          · have e0 : decide ((97 : Int) ≤ s[k].toNat) = false := by simp; omega
            have n0 : ¬ ((97 : Int) ≤ s[k].toNat) := by omega
            have e1 : decide ((s[k].toNat : Int) ≤ 122) = true := by simp; omega
            have n1 : (s[k].toNat : Int) ≤ 122 := by omega
            have e2 : decide ((s[k].toNat : Int) < 48) = false := by simp; omega
            have n2 : ¬ ((s[k].toNat : Int) < 48) := by omega
            have e3 : decide ((57 : Int) < s[k].toNat) = true := by simp; omega
            have n3 : (57 : Int) < s[k].toNat := by omega
            have e4 : ((s[k].toNat : Int) != 95) = true := by simp; omega
            have z0 : ((k : Int) == 0) = false := by simp; omega
            have HF := Lib.hid (keyB_no hlt (by simp [gdK]; omega))
            clear h h'
            go_wp2
            go_ret
            exact ⟨by rw [HF.out]; rfl, rfl⟩
          · have e0 : decide ((97 : Int) ≤ s[k].toNat) = false := by simp; omega
            have n0 : ¬ ((97 : Int) ≤ s[k].toNat) := by omega
            have e1 : decide ((s[k].toNat : Int) ≤ 122) = true := by simp; omega
            have n1 : (s[k].toNat : Int) ≤ 122 := by omega
            have e2 : decide ((s[k].toNat : Int) < 48) = false := by simp; omega
            have n2 : ¬ ((s[k].toNat : Int) < 48) := by omega
            have e3 : decide ((57 : Int) < s[k].toNat) = true := by simp; omega
            have n3 : (57 : Int) < s[k].toNat := by omega
            have e4 : ((s[k].toNat : Int) != 95) = false := by simp; omega
            have z0 : ((k : Int) == 0) = false := by simp; omega
            have HT := Lib.hid (all_snoc (p := fun j c => gdK j c = true) HA.out hlt (by simp [gdK]; omega))
            clear h
            go_wp2
            go_round
            case rel => exact ⟨_, hlt, by go_num, HT⟩
            case measure => simp [intOf]; omega
          · have e0 : decide ((97 : Int) ≤ s[k].toNat) = false := by simp; omega
            have n0 : ¬ ((97 : Int) ≤ s[k].toNat) := by omega
            have e1 : decide ((s[k].toNat : Int) ≤ 122) = true := by simp; omega
            have n1 : (s[k].toNat : Int) ≤ 122 := by omega
            have e2 : decide ((s[k].toNat : Int) < 48) = false := by simp; omega
            have n2 : ¬ ((s[k].toNat : Int) < 48) := by omega
            have e3 : decide ((57 : Int) < s[k].toNat) = true := by simp; omega
            have n3 : (57 : Int) < s[k].toNat := by omega
            have e4 : ((s[k].toNat : Int) != 95) = true := by simp; omega
            have z0 : ((k : Int) == 0) = false := by simp; omega
            have HF := Lib.hid (keyB_no hlt (by simp [gdK]; omega))
            clear h
            go_wp2
            go_ret
            exact ⟨by rw [HF.out]; rfl, rfl⟩
          · have e0 : decide ((97 : Int) ≤ s[k].toNat) = true := by simp; omega
            have n0 : (97 : Int) ≤ s[k].toNat := by omega
            have e1 : decide ((s[k].toNat : Int) ≤ 122) = true := by simp; omega
            have n1 : (s[k].toNat : Int) ≤ 122 := by omega
            have e2 : decide ((s[k].toNat : Int) < 48) = false := by simp; omega
            have n2 : ¬ ((s[k].toNat : Int) < 48) := by omega
            have e3 : decide ((57 : Int) < s[k].toNat) = true := by simp; omega
            have n3 : (57 : Int) < s[k].toNat := by omega
            have e4 : ((s[k].toNat : Int) != 95) = true := by simp; omega
            have z0 : ((k : Int) == 0) = false := by simp; omega
            have HT := Lib.hid (all_snoc (p := fun j c => gdK j c = true) HA.out hlt (by simp [gdK]; omega))
            clear h h'
            go_wp2
            go_round
            case rel => exact ⟨_, hlt, by go_num, HT⟩
            case measure => simp [intOf]; omega
          · have e0 : decide ((97 : Int) ≤ s[k].toNat) = true := by simp; omega
            have n0 : (97 : Int) ≤ s[k].toNat := by omega
            have e1 : decide ((s[k].toNat : Int) ≤ 122) = false := by simp; omega
            have n1 : ¬ ((s[k].toNat : Int) ≤ 122) := by omega
            have e2 : decide ((s[k].toNat : Int) < 48) = false := by simp; omega
            have n2 : ¬ ((s[k].toNat : Int) < 48) := by omega
            have e3 : decide ((57 : Int) < s[k].toNat) = true := by simp; omega
            have n3 : (57 : Int) < s[k].toNat := by omega
            have e4 : ((s[k].toNat : Int) != 95) = true := by simp; omega
            have z0 : ((k : Int) == 0) = false := by simp; omega
            have HF := Lib.hid (keyB_no hlt (by simp [gdK]; omega))
            clear h
            go_wp2
            go_ret
            exact ⟨by rw [HF.out]; rfl, rfl⟩
      · obtain rfl : k = s.size := by omega
        have HF := Lib.hid (keyB_yes (by omega) (by omega) fun j hj => HA.out j hj hj)
        go_wp2
        go_ret
        exact ⟨by rw [HF.out]; rfl, rfl⟩
set_option maxRecDepth 100000 in
set_option maxHeartbeats 1000000 in
theorem keyed_any (s : ByteArray) (w : World) (hs : s.size ≤ 1000000) : Calls Try.prog 45 #[.string s] w fun e w' => e = .returned (.bool (keyB s)) ∧ w' = w := by
  have hsI : (s.size : Int) ≤ 1000000 := by omega
  by_cases h0 : s.size < 1 ∨ 24 < s.size
  · have HF := Lib.hid (keyB_short h0)
    go_enter Try.func45, Try.ntmps45
    go_wp2
    all_goals (go_ret; exact ⟨by rw [HF.out]; rfl, rfl⟩)
  · go_enter Try.func45, Try.ntmps45
    go_wp2
    go_loop [15] (fun i => ∃ k : Nat, k ≤ s.size ∧ i = .int .i64 (k : Nat) ∧ Hid (∀ j, j < k → (hj : j < s.size) → gdK j s[j] = true)) (fun i => s.size - (intOf i).toNat)
    case atStart => exact ⟨0, by omega, rfl, Lib.hid (fun j h => absurd h (by omega))⟩
    case round =>
      obtain ⟨k, hk, rfl, HA⟩ := hrel
      by_cases hlt : k < s.size
      · rcases Nat.eq_zero_or_pos k with rfl | hk0
        · rcases cl_key s[0].toNat with h | ⟨h, h'⟩ | ⟨h, h'⟩ | h | h | ⟨h, h'⟩ | h
          · have e0 : decide ((97 : Int) ≤ s[0].toNat) = false := by simp; omega
            have n0 : ¬ ((97 : Int) ≤ s[0].toNat) := by omega
            have e1 : decide ((s[0].toNat : Int) ≤ 122) = true := by simp; omega
            have n1 : (s[0].toNat : Int) ≤ 122 := by omega
            have e2 : decide ((s[0].toNat : Int) < 48) = true := by simp; omega
            have n2 : (s[0].toNat : Int) < 48 := by omega
            have e3 : decide ((57 : Int) < s[0].toNat) = false := by simp; omega
            have n3 : ¬ ((57 : Int) < s[0].toNat) := by omega
            have e4 : ((s[0].toNat : Int) != 95) = true := by simp; omega
            have HF := Lib.hid (keyB_no hlt (by simp [gdK]; omega))
            clear h
            go_wp2
            go_ret
            exact ⟨by rw [HF.out]; rfl, rfl⟩
          · have e0 : decide ((97 : Int) ≤ s[0].toNat) = false := by simp; omega
            have n0 : ¬ ((97 : Int) ≤ s[0].toNat) := by omega
            have e1 : decide ((s[0].toNat : Int) ≤ 122) = true := by simp; omega
            have n1 : (s[0].toNat : Int) ≤ 122 := by omega
            have e2 : decide ((s[0].toNat : Int) < 48) = false := by simp; omega
            have n2 : ¬ ((s[0].toNat : Int) < 48) := by omega
            have e3 : decide ((57 : Int) < s[0].toNat) = false := by simp; omega
            have n3 : ¬ ((57 : Int) < s[0].toNat) := by omega
            have e4 : ((s[0].toNat : Int) != 95) = true := by simp; omega
            have HF := Lib.hid (keyB_no hlt (by simp [gdK]; omega))
            clear h h'
            go_wp2
            go_ret
            exact ⟨by rw [HF.out]; rfl, rfl⟩
          · have e0 : decide ((97 : Int) ≤ s[0].toNat) = false := by simp; omega
            have n0 : ¬ ((97 : Int) ≤ s[0].toNat) := by omega
            have e1 : decide ((s[0].toNat : Int) ≤ 122) = true := by simp; omega
            have n1 : (s[0].toNat : Int) ≤ 122 := by omega
            have e2 : decide ((s[0].toNat : Int) < 48) = false := by simp; omega
            have n2 : ¬ ((s[0].toNat : Int) < 48) := by omega
            have e3 : decide ((57 : Int) < s[0].toNat) = true := by simp; omega
            have n3 : (57 : Int) < s[0].toNat := by omega
            have e4 : ((s[0].toNat : Int) != 95) = true := by simp; omega
            have HF := Lib.hid (keyB_no hlt (by simp [gdK]; omega))
            clear h h'
            go_wp2
            go_ret
            exact ⟨by rw [HF.out]; rfl, rfl⟩
          · have e0 : decide ((97 : Int) ≤ s[0].toNat) = false := by simp; omega
            have n0 : ¬ ((97 : Int) ≤ s[0].toNat) := by omega
            have e1 : decide ((s[0].toNat : Int) ≤ 122) = true := by simp; omega
            have n1 : (s[0].toNat : Int) ≤ 122 := by omega
            have e2 : decide ((s[0].toNat : Int) < 48) = false := by simp; omega
            have n2 : ¬ ((s[0].toNat : Int) < 48) := by omega
            have e3 : decide ((57 : Int) < s[0].toNat) = true := by simp; omega
            have n3 : (57 : Int) < s[0].toNat := by omega
            have e4 : ((s[0].toNat : Int) != 95) = false := by simp; omega
            have HF := Lib.hid (keyB_no hlt (by simp [gdK]; omega))
            clear h
            go_wp2
            go_ret
            exact ⟨by rw [HF.out]; rfl, rfl⟩
          · have e0 : decide ((97 : Int) ≤ s[0].toNat) = false := by simp; omega
            have n0 : ¬ ((97 : Int) ≤ s[0].toNat) := by omega
            have e1 : decide ((s[0].toNat : Int) ≤ 122) = true := by simp; omega
            have n1 : (s[0].toNat : Int) ≤ 122 := by omega
            have e2 : decide ((s[0].toNat : Int) < 48) = false := by simp; omega
            have n2 : ¬ ((s[0].toNat : Int) < 48) := by omega
            have e3 : decide ((57 : Int) < s[0].toNat) = true := by simp; omega
            have n3 : (57 : Int) < s[0].toNat := by omega
            have e4 : ((s[0].toNat : Int) != 95) = true := by simp; omega
            have HF := Lib.hid (keyB_no hlt (by simp [gdK]; omega))
            clear h
            go_wp2
            go_ret
            exact ⟨by rw [HF.out]; rfl, rfl⟩
          · have e0 : decide ((97 : Int) ≤ s[0].toNat) = true := by simp; omega
            have n0 : (97 : Int) ≤ s[0].toNat := by omega
            have e1 : decide ((s[0].toNat : Int) ≤ 122) = true := by simp; omega
            have n1 : (s[0].toNat : Int) ≤ 122 := by omega
            have e2 : decide ((s[0].toNat : Int) < 48) = false := by simp; omega
            have n2 : ¬ ((s[0].toNat : Int) < 48) := by omega
            have e3 : decide ((57 : Int) < s[0].toNat) = true := by simp; omega
            have n3 : (57 : Int) < s[0].toNat := by omega
            have e4 : ((s[0].toNat : Int) != 95) = true := by simp; omega
            have HT := Lib.hid (all_snoc (p := fun j c => gdK j c = true) HA.out hlt (by simp [gdK]; omega))
            clear h h'
            go_wp2
            go_round
            case rel => exact ⟨_, hlt, by go_num, HT⟩
            case measure => simp [intOf]; omega
          · have e0 : decide ((97 : Int) ≤ s[0].toNat) = true := by simp; omega
            have n0 : (97 : Int) ≤ s[0].toNat := by omega
            have e1 : decide ((s[0].toNat : Int) ≤ 122) = false := by simp; omega
            have n1 : ¬ ((s[0].toNat : Int) ≤ 122) := by omega
            have e2 : decide ((s[0].toNat : Int) < 48) = false := by simp; omega
            have n2 : ¬ ((s[0].toNat : Int) < 48) := by omega
            have e3 : decide ((57 : Int) < s[0].toNat) = true := by simp; omega
            have n3 : (57 : Int) < s[0].toNat := by omega
            have e4 : ((s[0].toNat : Int) != 95) = true := by simp; omega
            have HF := Lib.hid (keyB_no hlt (by simp [gdK]; omega))
            clear h
            go_wp2
            go_ret
            exact ⟨by rw [HF.out]; rfl, rfl⟩
        · rcases cl_key s[k].toNat with h | ⟨h, h'⟩ | ⟨h, h'⟩ | h | h | ⟨h, h'⟩ | h
          · have e0 : decide ((97 : Int) ≤ s[k].toNat) = false := by simp; omega
            have n0 : ¬ ((97 : Int) ≤ s[k].toNat) := by omega
            have e1 : decide ((s[k].toNat : Int) ≤ 122) = true := by simp; omega
            have n1 : (s[k].toNat : Int) ≤ 122 := by omega
            have e2 : decide ((s[k].toNat : Int) < 48) = true := by simp; omega
            have n2 : (s[k].toNat : Int) < 48 := by omega
            have e3 : decide ((57 : Int) < s[k].toNat) = false := by simp; omega
            have n3 : ¬ ((57 : Int) < s[k].toNat) := by omega
            have e4 : ((s[k].toNat : Int) != 95) = true := by simp; omega
            have z0 : ((k : Int) == 0) = false := by simp; omega
            have HF := Lib.hid (keyB_no hlt (by simp [gdK]; omega))
            clear h
            go_wp2
            go_ret
            exact ⟨by rw [HF.out]; rfl, rfl⟩
          · have e0 : decide ((97 : Int) ≤ s[k].toNat) = false := by simp; omega
            have n0 : ¬ ((97 : Int) ≤ s[k].toNat) := by omega
            have e1 : decide ((s[k].toNat : Int) ≤ 122) = true := by simp; omega
            have n1 : (s[k].toNat : Int) ≤ 122 := by omega
            have e2 : decide ((s[k].toNat : Int) < 48) = false := by simp; omega
            have n2 : ¬ ((s[k].toNat : Int) < 48) := by omega
            have e3 : decide ((57 : Int) < s[k].toNat) = false := by simp; omega
            have n3 : ¬ ((57 : Int) < s[k].toNat) := by omega
            have e4 : ((s[k].toNat : Int) != 95) = true := by simp; omega
            have z0 : ((k : Int) == 0) = false := by simp; omega
            have HT := Lib.hid (all_snoc (p := fun j c => gdK j c = true) HA.out hlt (by simp [gdK]; omega))
            clear h h'
            go_wp2
            go_round
            case rel => exact ⟨_, hlt, by go_num, HT⟩
            case measure => simp [intOf]; omega
          · have e0 : decide ((97 : Int) ≤ s[k].toNat) = false := by simp; omega
            have n0 : ¬ ((97 : Int) ≤ s[k].toNat) := by omega
            have e1 : decide ((s[k].toNat : Int) ≤ 122) = true := by simp; omega
            have n1 : (s[k].toNat : Int) ≤ 122 := by omega
            have e2 : decide ((s[k].toNat : Int) < 48) = false := by simp; omega
            have n2 : ¬ ((s[k].toNat : Int) < 48) := by omega
            have e3 : decide ((57 : Int) < s[k].toNat) = true := by simp; omega
            have n3 : (57 : Int) < s[k].toNat := by omega
            have e4 : ((s[k].toNat : Int) != 95) = true := by simp; omega
            have z0 : ((k : Int) == 0) = false := by simp; omega
            have HF := Lib.hid (keyB_no hlt (by simp [gdK]; omega))
            clear h h'
            go_wp2
            go_ret
            exact ⟨by rw [HF.out]; rfl, rfl⟩
          · have e0 : decide ((97 : Int) ≤ s[k].toNat) = false := by simp; omega
            have n0 : ¬ ((97 : Int) ≤ s[k].toNat) := by omega
            have e1 : decide ((s[k].toNat : Int) ≤ 122) = true := by simp; omega
            have n1 : (s[k].toNat : Int) ≤ 122 := by omega
            have e2 : decide ((s[k].toNat : Int) < 48) = false := by simp; omega
            have n2 : ¬ ((s[k].toNat : Int) < 48) := by omega
            have e3 : decide ((57 : Int) < s[k].toNat) = true := by simp; omega
            have n3 : (57 : Int) < s[k].toNat := by omega
            have e4 : ((s[k].toNat : Int) != 95) = false := by simp; omega
            have z0 : ((k : Int) == 0) = false := by simp; omega
            have HT := Lib.hid (all_snoc (p := fun j c => gdK j c = true) HA.out hlt (by simp [gdK]; omega))
            clear h
            go_wp2
            go_round
            case rel => exact ⟨_, hlt, by go_num, HT⟩
            case measure => simp [intOf]; omega
          · have e0 : decide ((97 : Int) ≤ s[k].toNat) = false := by simp; omega
            have n0 : ¬ ((97 : Int) ≤ s[k].toNat) := by omega
            have e1 : decide ((s[k].toNat : Int) ≤ 122) = true := by simp; omega
            have n1 : (s[k].toNat : Int) ≤ 122 := by omega
            have e2 : decide ((s[k].toNat : Int) < 48) = false := by simp; omega
            have n2 : ¬ ((s[k].toNat : Int) < 48) := by omega
            have e3 : decide ((57 : Int) < s[k].toNat) = true := by simp; omega
            have n3 : (57 : Int) < s[k].toNat := by omega
            have e4 : ((s[k].toNat : Int) != 95) = true := by simp; omega
            have z0 : ((k : Int) == 0) = false := by simp; omega
            have HF := Lib.hid (keyB_no hlt (by simp [gdK]; omega))
            clear h
            go_wp2
            go_ret
            exact ⟨by rw [HF.out]; rfl, rfl⟩
          · have e0 : decide ((97 : Int) ≤ s[k].toNat) = true := by simp; omega
            have n0 : (97 : Int) ≤ s[k].toNat := by omega
            have e1 : decide ((s[k].toNat : Int) ≤ 122) = true := by simp; omega
            have n1 : (s[k].toNat : Int) ≤ 122 := by omega
            have e2 : decide ((s[k].toNat : Int) < 48) = false := by simp; omega
            have n2 : ¬ ((s[k].toNat : Int) < 48) := by omega
            have e3 : decide ((57 : Int) < s[k].toNat) = true := by simp; omega
            have n3 : (57 : Int) < s[k].toNat := by omega
            have e4 : ((s[k].toNat : Int) != 95) = true := by simp; omega
            have z0 : ((k : Int) == 0) = false := by simp; omega
            have HT := Lib.hid (all_snoc (p := fun j c => gdK j c = true) HA.out hlt (by simp [gdK]; omega))
            clear h h'
            go_wp2
            go_round
            case rel => exact ⟨_, hlt, by go_num, HT⟩
            case measure => simp [intOf]; omega
          · have e0 : decide ((97 : Int) ≤ s[k].toNat) = true := by simp; omega
            have n0 : (97 : Int) ≤ s[k].toNat := by omega
            have e1 : decide ((s[k].toNat : Int) ≤ 122) = false := by simp; omega
            have n1 : ¬ ((s[k].toNat : Int) ≤ 122) := by omega
            have e2 : decide ((s[k].toNat : Int) < 48) = false := by simp; omega
            have n2 : ¬ ((s[k].toNat : Int) < 48) := by omega
            have e3 : decide ((57 : Int) < s[k].toNat) = true := by simp; omega
            have n3 : (57 : Int) < s[k].toNat := by omega
            have e4 : ((s[k].toNat : Int) != 95) = true := by simp; omega
            have z0 : ((k : Int) == 0) = false := by simp; omega
            have HF := Lib.hid (keyB_no hlt (by simp [gdK]; omega))
            clear h
            go_wp2
            go_ret
            exact ⟨by rw [HF.out]; rfl, rfl⟩
      · obtain rfl : k = s.size := by omega
        have HF := Lib.hid (keyB_yes (by omega) (by omega) fun j hj => HA.out j hj hj)
        go_wp2
        go_ret
        exact ⟨by rw [HF.out]; rfl, rfl⟩

set_option maxRecDepth 100000 in
set_option maxHeartbeats 1000000 in
theorem checkText_any (s : ByteArray) (w : World) (hs : s.size ≤ 1000000) : Calls Try.prog 50 #[.string s] w fun e w' => e = .returned (.int .i64 (valC s)) ∧ w' = w := by
  have hsI : (s.size : Int) ≤ 1000000 := by omega
  by_cases h0 : 120 < s.size
  · have HF := Lib.hid (valC_long h0)
    go_enter Try.func50, Try.ntmps50
    go_wp2
    go_ret
    exact ⟨by rw [HF.out]; rfl, rfl⟩
  · go_enter Try.func50, Try.ntmps50
    go_wp2
    go_loop [9] (fun i => ∃ k : Nat, k ≤ s.size ∧ i = .int .i64 (k : Nat) ∧ Hid (∀ j, j < k → (hj : j < s.size) → 32 ≤ s[j].toNat ∧ s[j].toNat ≤ 126)) (fun i => s.size - (intOf i).toNat)
    case atStart => exact ⟨0, by omega, rfl, Lib.hid (fun j h => absurd h (by omega))⟩
    case round =>
      obtain ⟨k, hk, rfl, HA⟩ := hrel
      by_cases hlt : k < s.size
      · have hub : s[k].toNat < 256 := s[k].toNat_lt
        have hcl : s[k].toNat < 32 ∨ 126 < s[k].toNat ∨ (32 ≤ s[k].toNat ∧ s[k].toNat ≤ 126) := by omega
        rcases hcl with h | h | ⟨h, h'⟩
        all_goals go_wp2
        all_goals first
          | (go_ret; exact ⟨by rw [valC_no (by omega) hlt (by omega)]; rfl, rfl⟩)
          | (go_round
             case rel => exact ⟨_, hlt, by go_num, Lib.hid (all_snoc (p := fun _ c => 32 ≤ c.toNat ∧ c.toNat ≤ 126) HA.out hlt ⟨h, h'⟩)⟩
             case measure => simp [intOf]; omega)
      · obtain rfl : k = s.size := by omega
        have HF := Lib.hid (valC_yes (by omega) fun j hj => HA.out j hj hj)
        go_wp2
        go_ret
        exact ⟨by rw [HF.out]; rfl, rfl⟩
set_option maxRecDepth 100000 in
set_option maxHeartbeats 1000000 in
theorem valued_any (s : ByteArray) (w : World) (hs : s.size ≤ 1000000) : Calls Try.prog 46 #[.string s] w fun e w' => e = .returned (.int .i64 (valC s)) ∧ w' = w := by
  have hsI : (s.size : Int) ≤ 1000000 := by omega
  by_cases h0 : 120 < s.size
  · have HF := Lib.hid (valC_long h0)
    go_enter Try.func46, Try.ntmps46
    go_wp2
    go_ret
    exact ⟨by rw [HF.out]; rfl, rfl⟩
  · go_enter Try.func46, Try.ntmps46
    go_wp2
    go_loop [9] (fun i => ∃ k : Nat, k ≤ s.size ∧ i = .int .i64 (k : Nat) ∧ Hid (∀ j, j < k → (hj : j < s.size) → 32 ≤ s[j].toNat ∧ s[j].toNat ≤ 126)) (fun i => s.size - (intOf i).toNat)
    case atStart => exact ⟨0, by omega, rfl, Lib.hid (fun j h => absurd h (by omega))⟩
    case round =>
      obtain ⟨k, hk, rfl, HA⟩ := hrel
      by_cases hlt : k < s.size
      · have hub : s[k].toNat < 256 := s[k].toNat_lt
        have hcl : s[k].toNat < 32 ∨ 126 < s[k].toNat ∨ (32 ≤ s[k].toNat ∧ s[k].toNat ≤ 126) := by omega
        rcases hcl with h | h | ⟨h, h'⟩
        all_goals go_wp2
        all_goals first
          | (go_ret; exact ⟨by rw [valC_no (by omega) hlt (by omega)]; rfl, rfl⟩)
          | (go_round
             case rel => exact ⟨_, hlt, by go_num, Lib.hid (all_snoc (p := fun _ c => 32 ≤ c.toNat ∧ c.toNat ≤ 126) HA.out hlt ⟨h, h'⟩)⟩
             case measure => simp [intOf]; omega)
      · obtain rfl : k = s.size := by omega
        have HF := Lib.hid (valC_yes (by omega) fun j hj => HA.out j hj hj)
        go_wp2
        go_ret
        exact ⟨by rw [HF.out]; rfl, rfl⟩
end Go.Proofs.Ytbkcnhbdjllojaa
