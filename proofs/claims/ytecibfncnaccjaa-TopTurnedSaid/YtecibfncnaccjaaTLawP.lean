/- A raster turned several times: plain. -/
import Derived.Test.YtecibfncnaccjaaTFind
import Derived.Test.YtecibfncnaccjaaTAwk
namespace Go.Proofs.Ytecibfncnaccjaa
open Go.RowKit Go.Shelf
def dimT (W H : Nat) : Nat → Nat × Nat
  | 0 => (W, H)
  | k + 1 => ((dimT W H k).2, (dimT W H k).1)
def pixT (W H : Nat) (px : List Int) : Nat → List Int
  | 0 => px
  | k + 1 => turnL (dimT W H k).1 (dimT W H k).2 (pixT W H px k)
theorem rasT {W H : Nat} {m : Int} {px : List Int} (h : rasC W H m px = 0) : ∀ k, rasC (dimT W H k).1 (dimT W H k).2 m (pixT W H px k) = 0
  | 0 => h
  | k + 1 => rasC_turn (rasT h k)
theorem lenT {W H : Nat} {px : List Int} (hl : px.length = W * H) : ∀ k, (pixT W H px k).length = px.length ∧ (dimT W H k).1 * (dimT W H k).2 = W * H
  | 0 => ⟨rfl, rfl⟩
  | k + 1 => by
    obtain ⟨h1, h2⟩ := lenT hl k
    have h3 : (dimT W H k).2 * (dimT W H k).1 = W * H := by rw [Nat.mul_comm, h2]
    exact ⟨by rw [pixT, turnL, madeL_length, h3, hl], h3⟩
theorem pixT4 {W H : Nat} {px : List Int} (hl : px.length = W * H) : pixT W H px 4 = px := turn4 hl
/-- the raster in box b, turned k times -/
def BoxT (b W H : Nat) (m : Int) (px : List Int) (k : Nat) (u : World) : Prop :=
  ∃ A c, Own u b 24 [.int .i64 ((dimT W H k).1 : Nat), .int .i64 ((dimT W H k).2 : Nat), .int .i64 m, .slice A px.length c] ∧ IRow u A (pixT W H px k)
theorem CRow.below {w w' : World} {A : Option Addr} {l : List Cn} (h : CRow w A l) (hk : Keeps w w') : CRow w' A l := fun hp => by
  obtain ⟨g, rest, e, hr⟩ := h hp
  exact ⟨g, rest, e, Own.below hr hk⟩
theorem wh_pos {W H m : Int} {px : List Int} (h : rasC W H m px = 0) : 1 ≤ W ∧ 1 ≤ H := by
  unfold rasC at h
  split at h
  · rename_i h1
    omega
  · cases h
end Go.Proofs.Ytecibfncnaccjaa
