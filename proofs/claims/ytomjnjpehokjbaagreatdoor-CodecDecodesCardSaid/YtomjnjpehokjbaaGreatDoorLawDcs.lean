/- CodecDecodes: the walk. -/
import Derived.Test.YtomjnjpehokjbaaGreatDoorRDcd
import Derived.Test.YtomjnjpehokjbaaGreatDoorKnoW
namespace Go.Proofs.YtomjnjpehokjbaaGreatDoor
open Go.RowKit Go.Shelf
/-- what either Decode hands back -/
def decQ (xs : List UInt8) : Int × Tr := if 65536 < xs.length then (9, Tr.mk 0 false [] [] []) else match decT xs with | none => (8, Tr.mk 0 false [] [] []) | some v => (0, v)
theorem zero_val (w : World) : ValC anyB 70000 w (Tr.mk 0 false [] [] []) [.int .i64 0, .bool false, .slice none 0 0, .slice none 0 0, .slice none 0 0] :=
  ValC.make ⟨by simp, by simp, by simp⟩ U32.nil SlK.nil ⟨by simp, by simp [maxLen], fun _ => rfl⟩ ElsC.nil
theorem decPost_q {xs : List UInt8} {w w' : World} {e : Ending} (h : DecPost xs w e w') : Keeps w w' ∧ ∃ cs, e = .returned (.tuple #[.agg cs.toArray, .int .i64 (decQ xs).1]) ∧ ValC anyB 70000 w' (decQ xs).2 cs := by
  obtain ⟨hk, h1, h2⟩ := h
  refine ⟨hk, ?_⟩
  unfold decQ
  by_cases hl : 65536 < xs.length
  · rw [if_pos hl]
    exact ⟨_, h1 hl, zero_val w'⟩
  · rw [if_neg hl]
    obtain ⟨h3, h4⟩ := h2 (by omega)
    cases hd : decT xs with
    | none => exact ⟨_, h3 hd, zero_val w'⟩
    | some v => exact h4 v hd
set_option maxRecDepth 100000 in
set_option maxHeartbeats 4000000 in
theorem codecDecodes_any {w : World} {A : Option Addr} {c : Nat} {xs : List UInt8} (hb : Byt w A c xs) (hl : xs.length ≤ 9223372036854775807) (he : EnvB w.heap.size w) :
    Calls Tryz.prog 3 #[.slice A xs.length c] w fun e w' => e = .returned (.bool true) ∧ Keeps w w' := by
  have hlI : (xs.length : Int) ≤ 9223372036854775807 := by omega
  have HK := Lib.hid (known_any he)
  have HB := Lib.hid hb
  have HE := Lib.hid he
  clear he hb
  by_cases h1 : 600 < xs.length ∧ xs.length ≤ 65536
  · have t1 : decide ((600 : Int) < (xs.length : Int)) = true := decide_eq_true (by omega)
    have t2 : decide ((xs.length : Int) ≤ 65536) = true := decide_eq_true (by omega)
    have hlI2 : (xs.length : Int) ≤ 65536 := by omega
    have hlI3 : (600 : Int) < (xs.length : Int) := by omega
    clear h1 hl
    go_enter Tryz.func3, Tryz.ntmps3
    go_wp2_with fail
    refine HK.out.mono ?_
    rintro e w1 ⟨rfl, hk1⟩
    go_wp2
    go_ret
    exact ⟨rfl, hk1⟩
  · have H1 : Hid (xs.length ≤ 600 ∨ 65536 < xs.length) := Lib.hid (by omega)
    have hor : xs.length ≤ 600 ∨ 65536 < xs.length := by omega
    have t1 : (decide ((600 : Int) < (xs.length : Int)) = false) ∨ (decide ((600 : Int) < (xs.length : Int)) = true ∧ decide ((xs.length : Int) ≤ 65536) = false) := by
      rcases hor with h | h
      · exact .inl (decide_eq_false (by omega))
      · exact .inr ⟨decide_eq_true (by omega), decide_eq_false (by omega)⟩
    clear h1 hor hl
    rcases t1 with t1 | ⟨t1, t2⟩
    all_goals
      go_enter Tryz.func3, Tryz.ntmps3
      go_wp2_with fail
      refine HK.out.mono ?_
      rintro e w1 ⟨rfl, hk1⟩
      have HD := Lib.hid (decode_any (HB.out.keep hk1) ((HE.out.keep (hk1.mono (Nat.le_refl _))).mono hk1.size))
      go_wp2_with fail
      refine HD.out.mono ?_
      intro e w2 hd
      obtain ⟨hk2, cs, rfl, hv⟩ := decPost_q hd
      obtain ⟨k1, z1, A1, n1, c1, B1, m1, d1, D1, l1, e1, rfl⟩ := hv.form
      obtain ⟨W3, hW3⟩ : ∃ W3, w2.alloc (.cells #[.int .i64 k1, .bool z1, .slice A1 n1 c1, .slice B1 m1 d1, .slice D1 l1 e1] 30) = W3 := ⟨_, rfl⟩
      have hk3 : Keeps w2 W3 := hW3 ▸ box2 w2 _
      have b3 : Own W3 w2.heap.size 30 [.int .i64 k1, .bool z1, .slice A1 n1 c1, .slice B1 m1 d1, .slice D1 l1 e1] := hW3 ▸ Own.new w2 _ _
      have hk13 := (hk1.trans' hk2).trans' hk3
      have HV := Lib.hid (hv.keep hk3)
      have HRD := Lib.hid (rdecode_any (HB.out.keep hk13) H1.out)
      obtain ⟨q, hq⟩ : ∃ q, (decQ xs).1 = q := ⟨_, rfl⟩
      have HQ := Lib.hid hq
      rw [hq]
      clear hd hv hq
      go_wp2_with fail
      refine HRD.out.mono ?_
      intro e w4 hd
      obtain ⟨hk4, cs, rfl, hv⟩ := decPost_q hd
      obtain ⟨k2, z2, A2, n2, c2, B2, m2, d2, D2, l2, e2, rfl⟩ := hv.form
      obtain ⟨W5, hW5⟩ : ∃ W5, w4.alloc (.cells #[.int .i64 k2, .bool z2, .slice A2 n2 c2, .slice B2 m2 d2, .slice D2 l2 e2] 30) = W5 := ⟨_, rfl⟩
      have hk5 : Keeps w4 W5 := hW5 ▸ box2 w4 _
      have b5 : Own W5 w4.heap.size 30 [.int .i64 k2, .bool z2, .slice A2 n2 c2, .slice B2 m2 d2, .slice D2 l2 e2] := hW5 ▸ Own.new w4 _ _
      have hk15 := (hk13.trans' hk4).trans' hk5
      have a5 := b3.below (hk4.trans' hk5)
      have HRQ := Lib.hid (requal_any (N := 70000) (by decide) _ _ _ _ W5 (HV.out.keep (hk4.trans' hk5)) (hv.keep hk5))
      rw [eqB_refl] at HRQ
      rw [HQ.out]
      clear hd hv b3
      have x0 := a5.cell 0
      have x1 := a5.cell 1
      have x2 := a5.cell 2
      have x3 := a5.cell 3
      have x4 := a5.cell 4
      simp only [List.getElem?_cons_zero, List.getElem?_cons_succ] at x0 x1 x2 x3 x4
      have y0 := b5.cell 0
      have y1 := b5.cell 1
      have y2 := b5.cell 2
      have y3 := b5.cell 3
      have y4 := b5.cell 4
      simp only [List.getElem?_cons_zero, List.getElem?_cons_succ] at y0 y1 y2 y3 y4
      go_wp2_with fail
      refine HRQ.out.mono ?_
      rintro e w6 ⟨rfl, hk6⟩
      go_wp2
      go_ret
      exact ⟨by first | done | rfl | simp, hk15.trans' hk6⟩
end Go.Proofs.YtomjnjpehokjbaaGreatDoor
