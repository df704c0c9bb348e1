/- slices.IndexFunc and ContainsFunc of values: the walks. codec.valid: the walk. slices.Equal of rows of uint32: the walk. codec.Equal of values: the walk. -/
import Derived.Test.YtomjnjpehokjbaaGreatDoorMgTr
import Derived.Test.YtomjnjpehokjbaaGreatDoorMgIntA
import Derived.Shelf.RegionOpen
import Derived.Deep.QuietTactic
import Derived.BigQuiet
import Derived.Test.YtomjnjpehokjbaaGreatDoorMgBytes
namespace Go.Proofs.YtomjnjpehokjbaaGreatDoor
open Go.RowKit

/-- what a function value says of the elements -/
def SaysV (P : Program) (g : Nat) (lb : Array Value) (p : Tr → Bool) (N : Nat) (l : List Tr) (w : World) : Prop := ∀ u, Keeps w u → ∀ x ∈ l, ∀ cs, ValC anyB N u x cs → Calls P g (#[.agg cs.toArray] ++ lb) u fun e u' => e = .returned (.bool (p x)) ∧ Keeps u u'
def FoundV (b : Bool) (w : World) (e : Ending) (w' : World) : Prop := ∃ r : Int, e = .returned (.int .i64 r) ∧ decide (0 ≤ r) = b ∧ Keeps w w'
set_option maxRecDepth 100000 in
set_option maxHeartbeats 1000000 in
theorem indexV_any {w : World} {L : Option Addr} {c N : Nat} {l : List Tr} (hE : ElsC anyB N w L l) (hl : l.length ≤ maxLen) (g : Nat) (lb : Array Value) (he : ∀ args w, (callFunc g args).run Tryz.prog w = .ok (.enter g args) w) (p : Tr → Bool) (hp : SaysV Tryz.prog g lb p N l w) :
    Calls Tryz.prog 67 #[.slice L l.length c, .func (.func g) #[] lb] w (FoundV (l.any p) w) := by
  have hlI : (l.length : Int) ≤ 9223372036854775807 := by unfold maxLen at hl; omega
  have HP : Hid (SaysV Tryz.prog g lb p N l w) := Lib.hid hp
  have HE := Lib.hid hE
  clear hE hp hl
  go_enter Tryz.func67, Tryz.ntmps67
  go_wp2
  go_loopw [8] (fun i wr => ∃ k : Nat, k ≤ l.length ∧ i = .int .i64 (k : Nat) ∧ Hid ((l.take k).any p = false) ∧ Keeps w wr) (fun i _ => l.length - (intOf i).toNat)
  case atStart => exact ⟨0, Nat.zero_le _, rfl, Lib.hid (by simp), Below.refl _ _⟩
  case round =>
    obtain ⟨j, hj, rfl, HN, hk⟩ := hrel
    by_cases hlt : j < l.length
    · have hjI : (j : Int) < l.length := by omega
      obtain ⟨x, hx⟩ : ∃ x, l[j]? = some x := ⟨_, List.getElem?_eq_getElem hlt⟩
      obtain ⟨b, o, c0, c1, c2, c3, c4, rfl, -, hb, ⟨g0, g1, g2, g3, g4⟩, hv⟩ := HE.out.below hk j x hx
      have HS := Lib.hid (HP.out wr hk x (List.mem_of_getElem? hx) _ hv)
      have HX := Lib.hid hx
      clear hx hv
      go_wp2_with fail
      refine HS.out.mono ?_
      rintro e w1 ⟨rfl, hk1⟩
      cases hq : p x with
      | true =>
        have HK : Hid (l.any p = true) := Lib.hid (List.any_eq_true.2 ⟨x, List.mem_of_getElem? HX.out, hq⟩)
        clear hq
        go_wp2
        go_ret
        exact ⟨_, rfl, by rw [HK.out]; simp, hk.trans' hk1⟩
      | false =>
        have HT : Hid ((l.take (j + 1)).any p = false) := Lib.hid (by
          have hx := (List.getElem?_eq_some_iff.1 HX.out).2
          rw [List.take_succ_eq_append_getElem hlt, List.any_append, HN.out, hx]
          simp [hq])
        clear hq
        go_wp2
        go_roundw
        case rel => exact ⟨j + 1, by omega, by go_num, HT, hk.trans' hk1⟩
        case measure => simp [intOf]; omega
    · obtain rfl : j = l.length := by omega
      go_wp2
      go_ret
      exact ⟨_, rfl, by have := HN.out; rw [List.take_length] at this; rw [this]; rfl, hk⟩
set_option maxRecDepth 100000 in
theorem containsV_any {w : World} {L : Option Addr} {c N : Nat} {l : List Tr} (hE : ElsC anyB N w L l) (hl : l.length ≤ maxLen) (g : Nat) (lb : Array Value) (he : ∀ args w, (callFunc g args).run Tryz.prog w = .ok (.enter g args) w) (p : Tr → Bool) (hp : SaysV Tryz.prog g lb p N l w) :
    Calls Tryz.prog 36 #[.slice L l.length c, .func (.func g) #[] lb] w fun e w' => e = .returned (.bool (l.any p)) ∧ Keeps w w' := by
  have hI := Lib.hid (indexV_any (c := c) hE hl g lb he p hp)
  clear hE hp
  go_enter Tryz.func36, Tryz.ntmps36
  go_wp2_with fail
  refine hI.out.mono ?_
  rintro e w1 ⟨r, rfl, hr, hk⟩
  have HR := Lib.hid hr
  clear hr
  go_wp2
  go_ret
  exact ⟨by rw [← HR.out]; rfl, hk⟩
end Go.Proofs.YtomjnjpehokjbaaGreatDoor

namespace Go.Proofs.YtomjnjpehokjbaaGreatDoor
open Go.RowKit

theorem entVld1 : ∀ args w, (callFunc 66 args).run Tryz.prog w = .ok (.enter 66 args) w := fun args w => by
  have h1 : ¬ (Tryz.f66.name = "runtime.NumGoroutine") := by decide +kernel
  have h2 : ¬ (Tryz.f66.body = none) := fun h => by
    have h3 : Tryz.f66.body.isSome = true := by kernel_rfl
    rw [h] at h3
    cases h3
  simp [callFunc, go_sem, Tryz.func66, h1, h2]
theorem vld0 (d : Nat) (n : Bool) (g : List Nat) (x : List UInt8) (l : List Tr) : vldD d (.mk 0 n g x l) = (decide (x.length = 0) && decide (l.length = 0) && validB n g) := by cases d <;> simp [vldD]
theorem vld1 (d : Nat) (n : Bool) (g : List Nat) (x : List UInt8) (l : List Tr) : vldD d (.mk 1 n g x l) = (noInt n g && decide (l.length = 0)) := by cases d <;> simp [vldD]
theorem vld2z (n : Bool) (g : List Nat) (x : List UInt8) (l : List Tr) : vldD 0 (.mk 2 n g x l) = false := by simp [vldD]
theorem vld2s (d : Nat) (n : Bool) (g : List Nat) (x : List UInt8) (l : List Tr) : vldD (d + 1) (.mk 2 n g x l) = (noInt n g && decide (x.length = 0) && l.all (vldD d)) := by simp [vldD]
theorem vldx (d : Nat) {k : Int} (h0 : k ≠ 0) (h1 : k ≠ 1) (h2 : k ≠ 2) (n : Bool) (g : List Nat) (x : List UInt8) (l : List Tr) : vldD d (.mk k n g x l) = false := by cases d <;> simp [vldD, h0, h1, h2]
theorem SlK.row {ok : Nat → Prop} {w : World} {A : Option Addr} {n m c : Nat} {f : Nat → Value} (h : SlK ok w (.slice A m c) n f) : Row w A n f := by
  obtain ⟨A', c', e, -, -, -, hr, -⟩ := h
  cases e
  exact hr
/-- what valid hands back -/
def VldAt (d : Nat) : Prop := ∀ (t : Tr) (cs : List Value) (w : World), ValC anyB 800000 w t cs → Calls Tryz.prog 35 #[.agg cs.toArray, .int .i64 (d : Nat)] w fun e w' => e = .returned (.bool (vldD d t)) ∧ Keeps w w'
set_option maxRecDepth 100000 in
theorem says_vld {w : World} {B : Nat} {e : Nat} {N : Nat} {l : List Tr} (IH : VldAt e) (he : e ≤ 8) (hN : N ≤ 800000) (hb : w.cell? ⟨B, 0, none⟩ = some (.int .i64 ((e : Int) + 1))) (hlt : B < w.heap.size) :
    SaysV Tryz.prog 66 #[.pointer (some ⟨B, 0, none⟩)] (fun x => !vldD e x) N l w := fun u hk x _ cs hv => by
  show Calls Tryz.prog 66 #[.agg cs.toArray, .pointer (some ⟨B, 0, none⟩)] u _
  obtain ⟨c0, c1, c2, c3, c4, rfl⟩ := list5 hv.size
  obtain ⟨W1, hW1⟩ : ∃ W1, u.alloc (.cells #[c0, c1, c2, c3, c4] 30) = W1 := ⟨_, rfl⟩
  have g1 : Own W1 u.heap.size 30 [c0, c1, c2, c3, c4] := hW1 ▸ Own.new u _ _
  have hk1 : Keeps u W1 := hW1 ▸ (Below.refl _ _).alloc (Nat.le_refl _) _
  have p0 : W1.cell? ⟨B, 0, none⟩ = some (.int .i64 ((e : Int) + 1)) := ((hk.trans' hk1).cell (p := ⟨B, 0, none⟩) hlt).trans hb
  have x0 := g1.cell 0
  have x1 := g1.cell 1
  have x2 := g1.cell 2
  have x3 := g1.cell 3
  have x4 := g1.cell 4
  simp only [List.getElem?_cons_zero, List.getElem?_cons_succ] at x0 x1 x2 x3 x4
  have HV := Lib.hid (IH x [c0, c1, c2, c3, c4] W1 ((hv.keep hk1).le hN))
  have heI : (e : Int) ≤ 8 := by omega
  clear hb IH hv g1
  go_enter Tryz.func66, Tryz.ntmps66
  go_wp2_with fail
  refine HV.out.mono ?_
  rintro e2 w1 ⟨rfl, hk2⟩
  go_wp2
  go_ret
  exact ⟨rfl, hk1.trans' hk2⟩
set_option maxRecDepth 100000 in
set_option maxHeartbeats 1000000 in
theorem vvalid_step (d : Nat) (hd : d ≤ 8) (IH : ∀ e, d = e + 1 → VldAt e) : VldAt d := by
  intro t cs w hv
  obtain ⟨k, n, g, x, l⟩ := t
  obtain ⟨A, n1, c1, B, n2, c2, L, c, rfl, hb, ⟨rfl, hG⟩, ⟨rfl, hT⟩, hc, hE⟩ := hv.open_
  obtain ⟨hbg, hbx, hbl⟩ := hb
  have hb : True := trivial
  have hgI : (g.length : Int) ≤ 800000 := by omega
  have hxI : (x.length : Int) ≤ 800000 := by omega
  have hlI : (l.length : Int) ≤ 800000 := by omega
  have hdI : (d : Int) ≤ 8 := by omega
  obtain ⟨W2, hW2⟩ : ∃ W2, (w.alloc (.cells #[.int .i64 k, .bool n, .slice A g.length c1, .slice B x.length c2, .slice L l.length c] 30)).alloc (.cells #[.int .i64 (d : Nat)] 3) = W2 := ⟨_, rfl⟩
  have hk2 : Keeps w W2 := hW2 ▸ keep2 w _ _
  have g1 : Own W2 w.heap.size 30 [.int .i64 k, .bool n, .slice A g.length c1, .slice B x.length c2, .slice L l.length c] := hW2 ▸ (Own.new w _ _).alloc _
  have g2 : Own W2 (w.heap.size + 1) 3 [.int .i64 (d : Nat)] := hW2 ▸ own2 w _ _ _
  have x0 := g1.cell 0
  have x1 := g1.cell 1
  have x2 := g1.cell 2
  have x3 := g1.cell 3
  have x4 := g1.cell 4
  have x5 := g2.cell 0
  simp only [List.getElem?_cons_zero, List.getElem?_cons_succ] at x0 x1 x2 x3 x4 x5
  -- is the integer field zero?
  have hni : (n = true ∧ noInt n g = false) ∨ (n = false ∧ ((g.length : Int) == 0) = true ∧ noInt n g = true) ∨ (n = false ∧ ((g.length : Int) == 0) = false ∧ noInt n g = false) := by
    cases n with
    | true => exact .inl ⟨rfl, rfl⟩
    | false =>
      by_cases h0 : g.length = 0
      · exact .inr (.inl ⟨rfl, by simp [h0], by simp [noInt, h0]⟩)
      · exact .inr (.inr ⟨rfl, by simpa using h0, by simp [noInt, h0]⟩)
  have hkk : k = 0 ∨ k = 1 ∨ k = 2 ∨ (k ≠ 0 ∧ k ≠ 1 ∧ k ≠ 2) := by omega
  rcases hkk with rfl | rfl | rfl | ⟨h0, h1, h2⟩
  · -- an integer
    have HL : Hid (vldD d (.mk 0 n g x l) = (decide (x.length = 0) && decide (l.length = 0) && validB n g)) := Lib.hid (vld0 d n g x l)
    have HVI := Lib.hid (valid_any n A g.length c1 g W2 rfl (U32.row (hG.below hk2)) (by omega))
    by_cases hx : x.length = 0
    · have tx : ((x.length : Int) == 0) = true := by simp [hx]
      by_cases hl : l.length = 0
      · have tl : ((l.length : Int) == 0) = true := by simp [hl]
        have HV : Hid (vldD d (.mk 0 n g x l) = validB n g) := Lib.hid (by rw [HL.out]; simp [hx, hl])
        clear hv g1 g2 hE hG hT hb hx hl
        rcases hni with ⟨rfl, hni⟩ | ⟨rfl, tg, hni⟩ | ⟨rfl, tg, hni⟩
        all_goals
          clear hni
          go_enter Tryz.func35, Tryz.ntmps35
          go_wp2_with fail
          refine HVI.out.mono ?_
          rintro e w1 ⟨rfl, hk3⟩
          go_wp2
          go_ret
          exact ⟨by first | (rw [HV.out]; done) | (rw [HV.out]; rfl), hk2.trans' hk3⟩
      · have tl : ((l.length : Int) == 0) = false := by simpa using hl
        have HV : Hid (vldD d (.mk 0 n g x l) = false) := Lib.hid (by rw [HL.out]; simp [hl])
        clear hl hx
        rcases hni with ⟨rfl, hni⟩ | ⟨rfl, tg, hni⟩ | ⟨rfl, tg, hni⟩
        all_goals
          clear hni
          clear hv g1 g2 hE hG hT hb
          go_enter Tryz.func35, Tryz.ntmps35
          go_wp2
          go_ret
          exact ⟨by first | (rw [HV.out]; done) | (rw [HV.out]; rfl), hk2⟩
    · have tx : ((x.length : Int) == 0) = false := by simpa using hx
      have HV : Hid (vldD d (.mk 0 n g x l) = false) := Lib.hid (by rw [HL.out]; simp [hx])
      clear hx
      rcases hni with ⟨rfl, hni⟩ | ⟨rfl, tg, hni⟩ | ⟨rfl, tg, hni⟩
      all_goals
        clear hni
        clear hv g1 g2 hE hG hT hb
        go_enter Tryz.func35, Tryz.ntmps35
        go_wp2
        go_ret
        exact ⟨by first | (rw [HV.out]; done) | (rw [HV.out]; rfl), hk2⟩
  · -- a text
    have HL : Hid (vldD d (.mk 1 n g x l) = (noInt n g && decide (l.length = 0))) := Lib.hid (vld1 d n g x l)
    rcases hni with ⟨rfl, hni⟩ | ⟨rfl, tg, hni⟩ | ⟨rfl, tg, hni⟩
    · have HV : Hid (vldD d (.mk 1 true g x l) = false) := Lib.hid (by rw [HL.out, hni]; rfl)
      clear hni
      clear hv g1 g2 hE hG hT hb
      go_enter Tryz.func35, Tryz.ntmps35
      go_wp2
      go_ret
      exact ⟨by first | (rw [HV.out]; done) | (rw [HV.out]; rfl), hk2⟩
    · by_cases hl : l.length = 0
      · have tl : ((l.length : Int) == 0) = true := by simp [hl]
        have HV : Hid (vldD d (.mk 1 false g x l) = true) := Lib.hid (by rw [HL.out, hni]; simp [hl])
        clear hni hl
        clear hv g1 g2 hE hG hT hb
        go_enter Tryz.func35, Tryz.ntmps35
        go_wp2
        go_ret
        exact ⟨by first | (rw [HV.out]; done) | (rw [HV.out]; rfl), hk2⟩
      · have tl : ((l.length : Int) == 0) = false := by simpa using hl
        have HV : Hid (vldD d (.mk 1 false g x l) = false) := Lib.hid (by rw [HL.out, hni]; simp [hl])
        clear hni hl
        clear hv g1 g2 hE hG hT hb
        go_enter Tryz.func35, Tryz.ntmps35
        go_wp2
        go_ret
        exact ⟨by first | (rw [HV.out]; done) | (rw [HV.out]; rfl), hk2⟩
    · have HV : Hid (vldD d (.mk 1 false g x l) = false) := Lib.hid (by rw [HL.out, hni]; rfl)
      clear hni
      clear hv g1 g2 hE hG hT hb
      go_enter Tryz.func35, Tryz.ntmps35
      go_wp2
      go_ret
      exact ⟨by first | (rw [HV.out]; done) | (rw [HV.out]; rfl), hk2⟩
  · -- a list
    have HL : Hid (∀ e, d = e + 1 → vldD d (.mk 2 n g x l) = (noInt n g && decide (x.length = 0) && l.all (vldD e))) := Lib.hid (fun e h => by subst h; exact vld2s e n g x l)
    have HZ : Hid (d = 0 → vldD d (.mk 2 n g x l) = false) := Lib.hid (fun h => by subst h; exact vld2z n g x l)
    have HF : Hid ((noInt n g && decide (x.length = 0)) = false → vldD d (.mk 2 n g x l) = false) := Lib.hid (fun h => by
      cases d with
      | zero => exact HZ.out rfl
      | succ e => rw [HL.out e rfl, h]; rfl)
    rcases hni with ⟨rfl, hni⟩ | ⟨rfl, tg, hni⟩ | ⟨rfl, tg, hni⟩
    · have HV : Hid (vldD d (.mk 2 true g x l) = false) := Lib.hid (HF.out (by rw [hni]; rfl))
      clear hni
      clear hv g1 g2 hE hG hT hb
      go_enter Tryz.func35, Tryz.ntmps35
      go_wp2
      go_ret
      exact ⟨by first | (rw [HV.out]; done) | (rw [HV.out]; rfl), hk2⟩
    · by_cases hx : x.length = 0
      · have tx : ((x.length : Int) == 0) = true := by simp [hx]
        have tx2 : decide ((0 : Int) < (x.length : Int)) = false := by simp [hx]
        have tx3 : decide (0 < x.length) = false := by simp [hx]
        by_cases hd0 : d = 0
        · have HV : Hid (vldD d (.mk 2 false g x l) = false) := Lib.hid (HZ.out hd0)
          have td : ((d : Int) == 0) = true := by simp [hd0]
          clear hni hx hd0
          clear hv g1 g2 hE hG hT hb
          go_enter Tryz.func35, Tryz.ntmps35
          go_wp2
          go_ret
          exact ⟨by first | (rw [HV.out]; done) | (rw [HV.out]; rfl), hk2⟩
        · obtain ⟨e, rfl⟩ : ∃ e, d = e + 1 := ⟨d - 1, by omega⟩
          have td : (((e : Int) + 1) == 0) = false := by simp; omega
          have HV : Hid (vldD (e + 1) (.mk 2 false g x l) = l.all (vldD e)) := Lib.hid (by rw [HL.out e rfl, hni, hx]; simp)
          have HS := Lib.hid (containsV_any (c := c) (hE.below hk2) (by simp only [maxLen]; omega) 66 #[.pointer (some ⟨w.heap.size + 1, 0, none⟩)] entVld1 (fun y => !vldD e y) (says_vld (IH e rfl) (by omega) (Nat.le_refl _) (by rw [x5]; simp) g2.lt))
          have hall : (!l.any fun y => !vldD e y) = l.all (vldD e) := by rw [List.not_any_eq_all_not]; simp
          have HALL := Lib.hid hall
          simp only [Int.natCast_add, Int.natCast_one] at x5 hdI hW2 ⊢
          clear hni hx hd0 hv g1 g2 hE hG hT hb IH hall
          go_enter Tryz.func35, Tryz.ntmps35
          go_wp2_with fail
          refine HS.out.mono ?_
          rintro e2 w1 ⟨rfl, hk3⟩
          go_wp2
          go_ret
          exact ⟨by rw [HV.out, HALL.out]; rfl, hk2.trans' hk3⟩
      · have tx : ((x.length : Int) == 0) = false := by simpa using hx
        have tx2 : decide ((0 : Int) < (x.length : Int)) = true := by simp; omega
        have tx3 : 0 < x.length := by omega
        have HV : Hid (vldD d (.mk 2 false g x l) = false) := Lib.hid (HF.out (by simp [hx]))
        clear hni hx
        clear hv g1 g2 hE hG hT hb
        go_enter Tryz.func35, Tryz.ntmps35
        go_wp2
        go_ret
        exact ⟨by first | (rw [HV.out]; done) | (rw [HV.out]; rfl), hk2⟩
    · have HV : Hid (vldD d (.mk 2 false g x l) = false) := Lib.hid (HF.out (by rw [hni]; rfl))
      clear hni
      clear hv g1 g2 hE hG hT hb
      go_enter Tryz.func35, Tryz.ntmps35
      go_wp2
      go_ret
      exact ⟨by first | (rw [HV.out]; done) | (rw [HV.out]; rfl), hk2⟩
  · have HV : Hid (vldD d (.mk k n g x l) = false) := Lib.hid (vldx d h0 h1 h2 n g x l)
    have t0 : (k == 0) = false := by simpa using h0
    have t1 : (k == 1) = false := by simpa using h1
    have t2 : (k == 2) = false := by simpa using h2
    clear h0 h1 h2
    rcases hni with ⟨rfl, hni⟩ | ⟨rfl, tg, hni⟩ | ⟨rfl, tg, hni⟩
    all_goals
      clear hni
      clear hv g1 g2 hE hG hT hb
      go_enter Tryz.func35, Tryz.ntmps35
      go_wp2
      go_ret
      exact ⟨by first | (rw [HV.out]; done) | (rw [HV.out]; rfl), hk2⟩
theorem vvalid_any : ∀ d, d ≤ 8 → VldAt d
  | 0, h => vvalid_step 0 h fun e h => by omega
  | d + 1, h => vvalid_step (d + 1) h fun e he => by
    obtain rfl : e = d := by omega
    exact vvalid_any e (by omega)
end Go.Proofs.YtomjnjpehokjbaaGreatDoor

namespace Go.Proofs.YtomjnjpehokjbaaGreatDoor
open Go.RowKit

theorem keeps_drewN (w : World) (n : Nat) : Keeps w (w.drewN n) := ⟨rfl, rfl, rfl, Nat.le_refl _, fun _ _ => rfl⟩
theorem eq_of_takes {xs ys : List Nat} (hl : xs.length = ys.length) (h : xs.take xs.length = ys.take xs.length) : xs = ys := by
  rwa [List.take_length, hl, List.take_length] at h
set_option maxRecDepth 100000 in
set_option maxHeartbeats 1000000 in
theorem equalU_any {w : World} {A B : Option Addr} {xs ys : List Nat} {n m c d : Nat} (hA : Row w A n (u32 xs)) (hB : Row w B m (u32 ys)) (hn : xs.length = n) (hm : ys.length = m) (hl : n ≤ 9223372036854775807) (hl' : m ≤ 9223372036854775807) :
    Calls Tryz.prog 50 #[.slice A n c, .slice B m d] w fun e w' => e = .returned (.bool (decide (xs = ys))) ∧ Keeps w w' := by
  have hnI : (n : Int) ≤ 9223372036854775807 := by omega
  have hmI : (m : Int) ≤ 9223372036854775807 := by omega
  by_cases hne : n = m
  · subst hne
    have HN := Lib.hid hn
    have HM := Lib.hid hm
    have HA := Lib.hid hA
    have HB := Lib.hid hB
    clear hn hm hA hB hl hl' hmI
    go_enter Tryz.func50, Tryz.ntmps50
    go_wp2
    go_loopw [13] (fun i wr => ∃ k : Nat, k ≤ n ∧ i = .int .i64 (k : Nat) ∧ Hid (xs.take k = ys.take k) ∧ Keeps w wr) (fun i _ => n - (intOf i).toNat)
    case atStart => exact ⟨0, Nat.zero_le _, rfl, Lib.hid (by simp), Below.refl _ _⟩
    case round =>
      obtain ⟨k, hk, rfl, HT, hkw⟩ := hrel
      by_cases hlt : k < n
      · obtain ⟨b1, o1, rfl, -, r1⟩ := (HA.out.below hkw) (by omega)
        obtain ⟨b2, o2, rfl, -, r2⟩ := (HB.out.below hkw) (by omega)
        have c1 := r1 k hlt
        have c2 := r2 k hlt
        unfold u32 at c1 c2
        have hkI : (k : Int) < n := by omega
        have h1 : k < xs.length := by rw [HN.out]; exact hlt
        have h2 : k < ys.length := by rw [HM.out]; exact hlt
        have H1 := Lib.hid h1
        have H2 := Lib.hid h2
        clear r1 r2 h1 h2
        by_cases he : ix xs k = ix ys k
        · have t1 : ((ix xs k : Int) != (ix ys k : Int)) = false := by simp [he]
          have HT2 : Hid (xs.take (k + 1) = ys.take (k + 1)) := Lib.hid (by rw [take_snoc xs k H1.out, take_snoc ys k H2.out, HT.out, he])
          clear he
          go_wp2
          go_quiet (fail)
          go_wp2
          go_roundw
          case rel => exact ⟨k + 1, by omega, by go_num, HT2, hkw.trans' (keeps_drewN _ _)⟩
          case measure => simp [intOf]; omega
        · have t1 : ((ix xs k : Int) != (ix ys k : Int)) = true := by simp; omega
          have HF : Hid (decide (xs = ys) = false) := Lib.hid (decide_eq_false fun h => he (by rw [h]))
          clear he
          go_wp2
          go_quiet (fail)
          go_wp2
          go_ret
          exact ⟨by rw [HF.out]; first | done | rfl, hkw.trans' (keeps_drewN _ _)⟩
      · obtain rfl : k = n := by omega
        have HF : Hid (decide (xs = ys) = true) := Lib.hid (decide_eq_true (eq_of_takes (by rw [HN.out, HM.out]) (by rw [HN.out]; exact HT.out)))
        go_wp2
        go_ret
        exact ⟨by rw [HF.out]; first | done | rfl, hkw⟩
  · have t1 : ((n : Int) != (m : Int)) = true := by simp; omega
    have HF : Hid (decide (xs = ys) = false) := Lib.hid (decide_eq_false fun h => hne (by rw [← hn, ← hm, h]))
    clear hne hn hm hA hB
    go_enter Tryz.func50, Tryz.ntmps50
    go_wp2
    go_ret
    exact ⟨by rw [HF.out]; first | done | rfl, Below.refl _ _⟩
end Go.Proofs.YtomjnjpehokjbaaGreatDoor

namespace Go.Proofs.YtomjnjpehokjbaaGreatDoor
open Go.RowKit Go.Shelf

open Classical in
/-- are two values equal in all fields? -/
noncomputable def eqB (a b : Tr) : Bool := decide (a = b)
open Classical in
noncomputable def eqL (a b : List Tr) : Bool := decide (a = b)
theorem eqB_iff {a b : Tr} : eqB a b = true ↔ a = b := by unfold eqB; simp
theorem eqL_iff {a b : List Tr} : eqL a b = true ↔ a = b := by unfold eqL; simp
theorem eqB_refl (a : Tr) : eqB a a = true := eqB_iff.2 rfl
theorem bool_ext {a b : Bool} (h : a = true ↔ b = true) : a = b := by cases a <;> cases b <;> simp_all
theorem eqB_mk (k : Int) (n : Bool) (g : List Nat) (x : List UInt8) (l : List Tr) (k' : Int) (n' : Bool) (g' : List Nat) (x' : List UInt8) (l' : List Tr) : eqB (.mk k n g x l) (.mk k' n' g' x' l') = ((k == k') && (n == n') && decide (g = g') && decide (x = x') && eqL l l') := by
  apply bool_ext
  rw [eqB_iff]
  simp only [Tr.mk.injEq, Bool.and_eq_true, beq_iff_eq, decide_eq_true_eq, eqL_iff]
  constructor
  · rintro ⟨rfl, rfl, rfl, rfl, rfl⟩; exact ⟨⟨⟨⟨rfl, rfl⟩, rfl⟩, rfl⟩, rfl⟩
  · rintro ⟨⟨⟨⟨rfl, rfl⟩, rfl⟩, rfl⟩, rfl⟩; exact ⟨rfl, rfl, rfl, rfl, rfl⟩
theorem entEqual : ∀ args w, (callFunc 23 args).run Tryz.prog w = .ok (.enter 23 args) w := fun args w => by
  have h1 : ¬ (Tryz.f23.name = "runtime.NumGoroutine") := by decide +kernel
  have h2 : ¬ (Tryz.f23.body = none) := fun h => by
    have h3 : Tryz.f23.body.isSome = true := by kernel_rfl
    rw [h] at h3
    cases h3
  simp [callFunc, go_sem, Tryz.func23, h1, h2]
/-- what Equal hands back -/
def EqAt (N : Nat) (t : Tr) : Prop := ∀ (u : Tr) (cs ds : List Value) (w : World), ValC anyB N w t cs → ValC anyB N w u ds → Calls Tryz.prog 23 #[.agg cs.toArray, .agg ds.toArray] w fun e w' => e = .returned (.bool (eqB t u)) ∧ Keeps w w'
theorem takesT_eq {l m : List Tr} (hl : l.length = m.length) (h : l.take l.length = m.take l.length) : l = m := by
  rwa [List.take_length, hl, List.take_length] at h
set_option maxRecDepth 100000 in
set_option maxHeartbeats 1000000 in
theorem equalV_any {w : World} {L M : Option Addr} {c d N : Nat} {l m : List Tr} (hE : ElsC anyB N w L l) (hF : ElsC anyB N w M m) (hl : l.length ≤ maxLen) (hm : m.length ≤ maxLen) (IH : ∀ x ∈ l, EqAt N x) :
    Calls Tryz.prog 52 #[.slice L l.length c, .slice M m.length d, .func (.func 23) #[] #[]] w fun e w' => e = .returned (.bool (eqL l m)) ∧ Keeps w w' := by
  have hlI : (l.length : Int) ≤ 9223372036854775807 := by unfold maxLen at hl; omega
  have hmI : (m.length : Int) ≤ 9223372036854775807 := by unfold maxLen at hm; omega
  have he := entEqual
  by_cases hne : l.length = m.length
  · have HNE := Lib.hid hne
    obtain ⟨n, hn⟩ : ∃ n, l.length = n := ⟨_, rfl⟩
    rw [← hne] at hmI ⊢
    rw [hn] at hmI hlI ⊢
    have HN := Lib.hid hn
    have HE := Lib.hid hE
    have HF := Lib.hid hF
    have HI := Lib.hid IH
    clear hE hF IH hl hm hne hn
    go_enter Tryz.func52, Tryz.ntmps52
    go_wp2
    go_loopw [17] (fun i wr => ∃ k : Nat, k ≤ n ∧ i = .int .i64 (k : Nat) ∧ Hid (l.take k = m.take k) ∧ Keeps w wr) (fun i _ => n - (intOf i).toNat)
    case atStart => exact ⟨0, Nat.zero_le _, rfl, Lib.hid (by simp), Below.refl _ _⟩
    case round =>
      obtain ⟨k, hk, rfl, HT, hkw⟩ := hrel
      by_cases hlt : k < n
      · obtain ⟨x, hx⟩ : ∃ x, l[k]? = some x := ⟨_, List.getElem?_eq_getElem (by rw [HN.out]; exact hlt)⟩
        obtain ⟨y, hy⟩ : ∃ y, m[k]? = some y := ⟨_, List.getElem?_eq_getElem (by rw [← HNE.out, HN.out]; exact hlt)⟩
        obtain ⟨b, o, k1, z1, A1, n1, c1, B1, m1, d1, D1, l1, e1, rfl, -, hb, ⟨g0, g1, g2, g3, g4⟩, hv⟩ := (HE.out.below hkw).get5 hx
        obtain ⟨b', o', k2, z2, A2, n2, c2, B2, m2, d2, D2, l2, e2, rfl, -, hb', ⟨f0, f1, f2, f3, f4⟩, hu⟩ := (HF.out.below hkw).get5 hy
        obtain ⟨W2, hW2⟩ : ∃ W2, (wr.alloc (.cells #[.int .i64 k1, .bool z1, .slice A1 n1 c1, .slice B1 m1 d1, .slice D1 l1 e1] 30)).alloc (.cells #[.int .i64 k2, .bool z2, .slice A2 n2 c2, .slice B2 m2 d2, .slice D2 l2 e2] 30) = W2 := ⟨_, rfl⟩
        have hk2 : Keeps wr W2 := hW2 ▸ keep2 wr _ _
        have q1 : Own W2 wr.heap.size 30 [.int .i64 k1, .bool z1, .slice A1 n1 c1, .slice B1 m1 d1, .slice D1 l1 e1] := hW2 ▸ (Own.new wr _ _).alloc _
        have q2 : Own W2 (wr.heap.size + 1) 30 [.int .i64 k2, .bool z2, .slice A2 n2 c2, .slice B2 m2 d2, .slice D2 l2 e2] := hW2 ▸ own2 wr _ _ _
        have HC := Lib.hid ((HI.out x (List.mem_of_getElem? hx)) y _ _ W2 (hv.keep hk2) (hu.keep hk2))
        have hkI : (k : Int) < n := by omega
        have HX := Lib.hid hx
        have HY := Lib.hid hy
        have x0 := q1.cell 0
        have x1 := q1.cell 1
        have x2 := q1.cell 2
        have x3 := q1.cell 3
        have x4 := q1.cell 4
        have y0 := q2.cell 0
        have y1 := q2.cell 1
        have y2 := q2.cell 2
        have y3 := q2.cell 3
        have y4 := q2.cell 4
        simp only [List.getElem?_cons_zero, List.getElem?_cons_succ] at x0 x1 x2 x3 x4 y0 y1 y2 y3 y4
        clear hx hy hv hu q1 q2
        go_wp2_with fail
        refine HC.out.mono ?_
        rintro e w1 ⟨rfl, hk1⟩
        have hkk := (hkw.trans' hk2).trans' hk1
        cases hq : eqB x y with
        | true =>
          have HT2 : Hid (l.take (k + 1) = m.take (k + 1)) := Lib.hid (by
            obtain ⟨h1, h1'⟩ := List.getElem?_eq_some_iff.1 HX.out
            obtain ⟨h2, h2'⟩ := List.getElem?_eq_some_iff.1 HY.out
            rw [List.take_succ_eq_append_getElem h1, List.take_succ_eq_append_getElem h2, HT.out, h1', h2', eqB_iff.1 hq])
          clear hq
          go_wp2
          go_roundw
          case rel => exact ⟨k + 1, by omega, by go_num, HT2, hkk⟩
          case measure => simp [intOf]; omega
        | false =>
          have HF : Hid (eqL l m = false) := Lib.hid (by
            cases h : eqL l m with
            | false => rfl
            | true =>
              exfalso
              have h2 := HX.out
              rw [eqL_iff.1 h, HY.out] at h2
              cases h2
              rw [eqB_refl] at hq
              cases hq)
          clear hq
          go_wp2
          go_ret
          exact ⟨by rw [HF.out]; first | done | rfl, hkk⟩
      · obtain rfl : k = n := by omega
        have HF : Hid (eqL l m = true) := Lib.hid (eqL_iff.2 (takesT_eq HNE.out (by rw [HN.out]; exact HT.out)))
        go_wp2
        go_ret
        exact ⟨by rw [HF.out]; first | done | rfl, hkw⟩
  · have t1 : ((l.length : Int) != (m.length : Int)) = true := by simp; omega
    have HF : Hid (eqL l m = false) := Lib.hid (by
      cases h : eqL l m with
      | false => rfl
      | true => exact absurd (congrArg List.length (eqL_iff.1 h)) hne)
    clear hne hE hF IH
    go_enter Tryz.func52, Tryz.ntmps52
    go_wp2
    go_ret
    exact ⟨by rw [HF.out]; first | done | rfl, Below.refl _ _⟩
set_option maxRecDepth 100000 in
set_option maxHeartbeats 1000000 in
theorem vequal_step {N : Nat} (hN : N ≤ maxLen) (k : Int) (n : Bool) (g : List Nat) (x : List UInt8) (l : List Tr) (IH : ∀ y ∈ l, EqAt N y) : EqAt N (.mk k n g x l) := by
  intro u cs ds w hv hu
  obtain ⟨k', n', g', x', l'⟩ := u
  obtain ⟨A, n1, c1, B, n2, c2, L, c, rfl, ⟨hbg, hbx, hbl⟩, ⟨rfl, hG⟩, ⟨rfl, hT⟩, hc, hE⟩ := hv.open_
  obtain ⟨A', n1', c1', B', n2', c2', L', c', rfl, ⟨hbg', hbx', hbl'⟩, ⟨rfl, hG'⟩, ⟨rfl, hT'⟩, hc', hE'⟩ := hu.open_
  have HB := Lib.hid (eqB_mk k n g x l k' n' g' x' l')
  obtain ⟨W2, hW2⟩ : ∃ W2, (w.alloc (.cells #[.int .i64 k, .bool n, .slice A g.length c1, .slice B x.length c2, .slice L l.length c] 30)).alloc (.cells #[.int .i64 k', .bool n', .slice A' g'.length c1', .slice B' x'.length c2', .slice L' l'.length c'] 30) = W2 := ⟨_, rfl⟩
  have hk2 : Keeps w W2 := hW2 ▸ keep2 w _ _
  have q1 : Own W2 w.heap.size 30 [.int .i64 k, .bool n, .slice A g.length c1, .slice B x.length c2, .slice L l.length c] := hW2 ▸ (Own.new w _ _).alloc _
  have q2 : Own W2 (w.heap.size + 1) 30 [.int .i64 k', .bool n', .slice A' g'.length c1', .slice B' x'.length c2', .slice L' l'.length c'] := hW2 ▸ own2 w _ _ _
  have HG := Lib.hid (equalU_any (c := c1) (d := c1') (U32.row (hG.below hk2)) (U32.row (hG'.below hk2)) rfl rfl (by unfold maxLen at hN; omega) (by unfold maxLen at hN; omega))
  have HT := Lib.hid (SlK.row (hT.below hk2))
  have HT' := Lib.hid (SlK.row (hT'.below hk2))
  have HE := Lib.hid (hE.below hk2)
  have HE' := Lib.hid (hE'.below hk2)
  have HI := Lib.hid IH
  have hb1 : l.length ≤ maxLen := by omega
  have hb2 : l'.length ≤ maxLen := by omega
  have HB1 := Lib.hid hb1
  have HB2 := Lib.hid hb2
  clear hv hu hG hG' hT hT' hE hE' IH hc hc' hN hbg hbx hbl hbg' hbx' hbl' hb1 hb2
  cases e1 : (k == k') with
  | false =>
    have HV : Hid (eqB (.mk k n g x l) (.mk k' n' g' x' l') = false) := Lib.hid (by rw [HB.out, e1]; rfl)
    have x0 := q1.cell 0
    have x1 := q1.cell 1
    have x2 := q1.cell 2
    have x3 := q1.cell 3
    have x4 := q1.cell 4
    have y0 := q2.cell 0
    have y1 := q2.cell 1
    have y2 := q2.cell 2
    have y3 := q2.cell 3
    have y4 := q2.cell 4
    simp only [List.getElem?_cons_zero, List.getElem?_cons_succ] at x0 x1 x2 x3 x4 y0 y1 y2 y3 y4
    go_enter Tryz.func23, Tryz.ntmps23
    go_wp2
    go_ret
    exact ⟨by rw [HV.out]; first | done | rfl, hk2⟩
  | true =>
    cases e2 : (n == n') with
    | false =>
      have HV : Hid (eqB (.mk k n g x l) (.mk k' n' g' x' l') = false) := Lib.hid (by rw [HB.out, e1, e2]; rfl)
      have x0 := q1.cell 0
      have x1 := q1.cell 1
      have x2 := q1.cell 2
      have x3 := q1.cell 3
      have x4 := q1.cell 4
      have y0 := q2.cell 0
      have y1 := q2.cell 1
      have y2 := q2.cell 2
      have y3 := q2.cell 3
      have y4 := q2.cell 4
      simp only [List.getElem?_cons_zero, List.getElem?_cons_succ] at x0 x1 x2 x3 x4 y0 y1 y2 y3 y4
      go_enter Tryz.func23, Tryz.ntmps23
      go_wp2
      go_ret
      exact ⟨by rw [HV.out]; first | done | rfl, hk2⟩
    | true =>
      by_cases e3 : g = g'
      · have t3 : decide (g = g') = true := decide_eq_true e3
        rw [t3] at HG
        have H3 := Lib.hid t3
        clear t3 e3
        by_cases e4 : x = x'
        · have t4 : decide (x = x') = true := decide_eq_true e4
          have H4 := Lib.hid t4
          clear t4 e4
          have HV : Hid (eqB (.mk k n g x l) (.mk k' n' g' x' l') = eqL l l') := Lib.hid (by rw [HB.out, e1, e2, H3.out, H4.out]; rfl)
          have x0 := q1.cell 0
          have x1 := q1.cell 1
          have x2 := q1.cell 2
          have x3 := q1.cell 3
          have x4 := q1.cell 4
          have y0 := q2.cell 0
          have y1 := q2.cell 1
          have y2 := q2.cell 2
          have y3 := q2.cell 3
          have y4 := q2.cell 4
          simp only [List.getElem?_cons_zero, List.getElem?_cons_succ] at x0 x1 x2 x3 x4 y0 y1 y2 y3 y4
          go_enter Tryz.func23, Tryz.ntmps23
          go_wp2_with fail
          refine HG.out.mono ?_
          rintro e w1 ⟨rfl, hk3⟩
          have HX := Lib.hid (bEqual_any (c := c2) (d := c2') (HT.out.below hk3) (HT'.out.below hk3) rfl rfl)
          rw [H4.out] at HX
          clear x0 x1 x2 x3 x4 y0 y1 y2 y3 y4
          have r1 := q1.below hk3
          have r2 := q2.below hk3
          have x0 := r1.cell 0
          have x1 := r1.cell 1
          have x2 := r1.cell 2
          have x3 := r1.cell 3
          have x4 := r1.cell 4
          have y0 := r2.cell 0
          have y1 := r2.cell 1
          have y2 := r2.cell 2
          have y3 := r2.cell 3
          have y4 := r2.cell 4
          simp only [List.getElem?_cons_zero, List.getElem?_cons_succ] at x0 x1 x2 x3 x4 y0 y1 y2 y3 y4
          go_wp2_with fail
          refine HX.out.mono ?_
          rintro e w2 ⟨rfl, rfl⟩
          have HL := Lib.hid (equalV_any (c := c) (d := c') (HE.out.below hk3) (HE'.out.below hk3) HB1.out HB2.out HI.out)
          go_wp2_with fail
          refine HL.out.mono ?_
          rintro e w3 ⟨rfl, hk4⟩
          go_wp2
          go_ret
          exact ⟨by rw [HV.out]; first | done | rfl, (hk2.trans' hk3).trans' hk4⟩
        · have t4 : decide (x = x') = false := decide_eq_false e4
          have H4 := Lib.hid t4
          clear t4 e4
          have HV : Hid (eqB (.mk k n g x l) (.mk k' n' g' x' l') = false) := Lib.hid (by rw [HB.out, e1, e2, H3.out, H4.out]; rfl)
          have x0 := q1.cell 0
          have x1 := q1.cell 1
          have x2 := q1.cell 2
          have x3 := q1.cell 3
          have x4 := q1.cell 4
          have y0 := q2.cell 0
          have y1 := q2.cell 1
          have y2 := q2.cell 2
          have y3 := q2.cell 3
          have y4 := q2.cell 4
          simp only [List.getElem?_cons_zero, List.getElem?_cons_succ] at x0 x1 x2 x3 x4 y0 y1 y2 y3 y4
          go_enter Tryz.func23, Tryz.ntmps23
          go_wp2_with fail
          refine HG.out.mono ?_
          rintro e w1 ⟨rfl, hk3⟩
          have HX := Lib.hid (bEqual_any (c := c2) (d := c2') (HT.out.below hk3) (HT'.out.below hk3) rfl rfl)
          rw [H4.out] at HX
          clear x0 x1 x2 x3 x4 y0 y1 y2 y3 y4
          have r1 := q1.below hk3
          have r2 := q2.below hk3
          have x0 := r1.cell 0
          have x1 := r1.cell 1
          have x2 := r1.cell 2
          have x3 := r1.cell 3
          have x4 := r1.cell 4
          have y0 := r2.cell 0
          have y1 := r2.cell 1
          have y2 := r2.cell 2
          have y3 := r2.cell 3
          have y4 := r2.cell 4
          simp only [List.getElem?_cons_zero, List.getElem?_cons_succ] at x0 x1 x2 x3 x4 y0 y1 y2 y3 y4
          go_wp2_with fail
          refine HX.out.mono ?_
          rintro e w2 ⟨rfl, rfl⟩
          go_wp2
          go_ret
          exact ⟨by rw [HV.out]; first | done | rfl, hk2.trans' hk3⟩
      · have t3 : decide (g = g') = false := decide_eq_false e3
        rw [t3] at HG
        have H3 := Lib.hid t3
        clear t3 e3
        have HV : Hid (eqB (.mk k n g x l) (.mk k' n' g' x' l') = false) := Lib.hid (by rw [HB.out, e1, e2, H3.out]; rfl)
        have x0 := q1.cell 0
        have x1 := q1.cell 1
        have x2 := q1.cell 2
        have x3 := q1.cell 3
        have x4 := q1.cell 4
        have y0 := q2.cell 0
        have y1 := q2.cell 1
        have y2 := q2.cell 2
        have y3 := q2.cell 3
        have y4 := q2.cell 4
        simp only [List.getElem?_cons_zero, List.getElem?_cons_succ] at x0 x1 x2 x3 x4 y0 y1 y2 y3 y4
        go_enter Tryz.func23, Tryz.ntmps23
        go_wp2_with fail
        refine HG.out.mono ?_
        rintro e w1 ⟨rfl, hk3⟩
        go_wp2
        go_ret
        exact ⟨by rw [HV.out]; first | done | rfl, hk2.trans' hk3⟩
theorem vequal_any {N : Nat} (hN : N ≤ maxLen) (t : Tr) : EqAt N t := Tr.ind (fun k n g x l IH => vequal_step hN k n g x l IH) t
end Go.Proofs.YtomjnjpehokjbaaGreatDoor
