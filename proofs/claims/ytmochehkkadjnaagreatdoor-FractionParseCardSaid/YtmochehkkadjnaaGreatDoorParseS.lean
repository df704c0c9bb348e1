/- Texts of integers: what Text writes, what Parse reads. -/
import Derived.Test.YtmochehkkadjnaaGreatDoorParse
import Derived.Test.YtmochehkkadjnaaGreatDoorMgNums
namespace Go.Proofs.YtmochehkkadjnaaGreatDoor
open Go.RowKit Go.Shelf

def ParseGives (z c : Int) (w : World) (e : Ending) (w' : World) : Prop := ∃ Q, e = .returned (.tuple #[Q, .int .i64 c]) ∧ IntRep w' Q z ∧ Keeps w w'
theorem parse_s {s : ByteArray} {z c : Int} (w : World) (hs : s.size ≤ 9223372036854775807) (hz : parseZ s.data.toList = z) (hc : parseC s.data.toList = c) : Calls Tryz.prog 125 #[.string s] w (ParseGives z c w) := by
  subst hz hc; exact parse_any s w hs
theorem rparse_s {s : ByteArray} {z c : Int} (w : World) (hs : s.size ≤ 9223372036854775807) (hz : parseZ s.data.toList = z) (hc : parseC s.data.toList = c) : Calls Tryz.prog 132 #[.string s] w (ParseGives z c w) := by
  subst hz hc; exact rparse_any s w hs
theorem pow_230 (n : Nat) (h : n ≤ 2000) : 10 ^ n ≤ 1000000000 ^ 230 := by
  obtain ⟨k, hk⟩ : ∃ k, k = 230 := ⟨_, rfl⟩
  rw [← hk, show (1000000000 : Nat) = 10 ^ 9 from rfl, ← Nat.pow_mul]
  exact Nat.pow_le_pow_right (by omega) (by omega)
theorem parse_len (l : List UInt8) : lenI (parseZ l) ≤ 230 := by
  by_cases h : parseC l = 0
  · have hz : parseZ l = (if negOf l then -(valD (bodyOf l) : Int) else (valD (bodyOf l) : Int)) := if_pos h
    unfold parseC at h
    split at h
    · omega
    · split at h
      · omega
      · split at h
        · omega
        · rename_i hall
          split at h
          · omega
          · rename_i hlen
            have hv := valD_lt (bodyOf l) (by simpa using hall)
            unfold lenI
            have ha : (parseZ l).natAbs = valD (bodyOf l) := by rw [hz]; split <;> omega
            rw [ha]
            refine dig_length_le (Nat.lt_of_lt_of_le hv ?_)
            exact pow_230 _ (by omega)
  · rw [parseZ_err rfl h]; simp [lenI, dig_zero]
end Go.Proofs.YtmochehkkadjnaaGreatDoor
