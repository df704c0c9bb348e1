/- Encode: the walk. -/
import Derived.Test.YtbkcnhbdjllojaaFile
import Derived.Test.YtbkcnhbdjllojaaResD
namespace Go.Proofs.Ytbkcnhbdjllojaa
open Go.RowKit Go.Shelf
attribute [local go_sem] Oper.semAt_some

abbrev frmV (A : Option Addr) (n c : Nat) (W H m : Int) (B : Option Addr) (k d : Nat) : Value := .agg #[.slice A n c, .int .i64 W, .int .i64 H, .int .i64 m, .slice B k d]
set_option maxRecDepth 100000 in
set_option maxHeartbeats 1000000 in
theorem encode_no {w : World} {A B : Option Addr} {c d : Nat} {es : List Ent} {px : List Int} (he : EntR w A es) (hr : IRow w B px) (hs : EntS es) (W H m : Int) (hl : px.length ≤ maxLen) (hel : es.length ≤ maxLen) (hc : frmC es W H m px ≠ 0) :
    Calls Try.prog 17 #[frmV A es.length c W H m B px.length d] w fun e w' => e = .returned (.tuple #[.slice none 0 0, .int .i64 (frmC es W H m px)]) ∧ Keeps w w' := by
  obtain ⟨W0, hW0⟩ : ∃ W0, w.alloc (.cells #[.slice A es.length c, .int .i64 W, .int .i64 H, .int .i64 m, .slice B px.length d] 27) = W0 := ⟨_, rfl⟩
  have hb : Own W0 w.heap.size 27 [.slice A es.length c, .int .i64 W, .int .i64 H, .int .i64 m, .slice B px.length d] := hW0 ▸ Own.new w _ _
  have l0 : W0.cell? ⟨w.heap.size, 0, none⟩ = some (.slice A es.length c) := hb.cell 0
  have l1 : W0.cell? ⟨w.heap.size, 1, none⟩ = some (.int .i64 W) := hb.cell 1
  have l2 : W0.cell? ⟨w.heap.size, 2, none⟩ = some (.int .i64 H) := hb.cell 2
  have l3 : W0.cell? ⟨w.heap.size, 3, none⟩ = some (.int .i64 m) := hb.cell 3
  have l4 : W0.cell? ⟨w.heap.size, 4, none⟩ = some (.slice B px.length d) := hb.cell 4
  have hk0 : Keeps w W0 := hW0 ▸ (Below.refl _ _).alloc (Nat.le_refl _) _
  have HC := Lib.hid (fcheck_any (c := c) (d := d) (he.below hk0) (hr.below hk0) hs W H m hl hel)
  obtain ⟨r, hrr⟩ : ∃ r, frmC es W H m px = r := ⟨_, rfl⟩
  rw [hrr] at HC hc ⊢
  have hne : (r != 0) = true := by simpa using hc
  clear hrr he hr hs hc
  go_enter Try.func17, Try.ntmps17
  go_wp2_with fail
  refine HC.out.mono ?_
  rintro e w1 ⟨rfl, hk1⟩
  go_wp2
  go_ret2
  exact ⟨rfl, hk0.trans' hk1⟩
end Go.Proofs.Ytbkcnhbdjllojaa
