/- fiducialref12.sameInt, sameBytes, Equal: the walks. fiducialref12.Equal: the walk. fiducialref12.Equal of equal values. -/
import Derived.Test.YtomjnjpehokjbaaGreatDoorMgVIdx
import Derived.StillTailTactics
namespace Go.Proofs.YtomjnjpehokjbaaGreatDoor
open Go.RowKit Go.Shelf

theorem u32_at (xs : List Nat) (k : Nat) : u32 xs k = .int .u32 (ix xs k : Nat) := rfl
theorem eq_of_takes8 {xs ys : List UInt8} (hl : xs.length = ys.length) (h : xs.take xs.length = ys.take xs.length) : xs = ys := by
  rwa [List.take_length, hl, List.take_length] at h
theorem take_snoc8 (xs : List UInt8) (k : Nat) (h : k < xs.length) : xs.take (k + 1) = xs.take k ++ [xs.getD k 0] := by
  rw [List.take_succ_eq_append_getElem h]
  simp [List.getD, h]
set_option maxRecDepth 100000 in
set_option maxHeartbeats 1000000 in
theorem rsameB_any {w : World} {A B : Option Addr} {xs ys : List UInt8} {n m c d : Nat} (hA : Row w A n (b8 xs)) (hB : Row w B m (b8 ys)) (hn : xs.length = n) (hm : ys.length = m) (hl : n ≤ 9223372036854775807) (hl' : m ≤ 9223372036854775807) :
    Calls Tryz.prog 30 #[.slice A n c, .slice B m d] w fun e w' => e = .returned (.bool (decide (xs = ys))) ∧ Keeps w w' := by
  have hnI : (n : Int) ≤ 9223372036854775807 := by omega
  have hmI : (m : Int) ≤ 9223372036854775807 := by omega
  by_cases hne : n = m
  · subst hne
    have HN := Lib.hid hn
    have HM := Lib.hid hm
    have HA := Lib.hid hA
    have HB := Lib.hid hB
    clear hn hm hA hB hl hl' hmI
    go_enter Tryz.func30, Tryz.ntmps30
    go_wp2
    go_loopw [5] (fun i wr => ∃ k : Nat, k ≤ n ∧ i = .int .i64 (k : Nat) ∧ Hid (xs.take k = ys.take k) ∧ Keeps w wr) (fun i _ => n - (intOf i).toNat)
    case atStart => exact ⟨0, Nat.zero_le _, rfl, Lib.hid (by simp), Below.refl _ _⟩
    case round =>
      obtain ⟨k, hk, rfl, HT, hkw⟩ := hrel
      by_cases hlt : k < n
      · obtain ⟨b1, o1, rfl, -, r1⟩ := (HA.out.below hkw) (by omega)
        obtain ⟨b2, o2, rfl, -, r2⟩ := (HB.out.below hkw) (by omega)
        have c1 := r1 k hlt
        have c2 := r2 k hlt
        unfold b8 at c1 c2
        have hkI : (k : Int) < n := by omega
        have h1 : k < xs.length := by rw [HN.out]; exact hlt
        have h2 : k < ys.length := by rw [HM.out]; exact hlt
        have H1 := Lib.hid h1
        have H2 := Lib.hid h2
        clear r1 r2 h1 h2
        obtain ⟨a, ha⟩ : ∃ a, (xs.getD k 0).toNat = a := ⟨_, rfl⟩
        obtain ⟨a', ha'⟩ : ∃ a, (ys.getD k 0).toNat = a := ⟨_, rfl⟩
        rw [ha] at c1
        rw [ha'] at c2
        have HAA := Lib.hid ha
        have HAB := Lib.hid ha'
        clear ha ha'
        by_cases he : a = a'
        · have t1 : ((a : Int) != (a' : Int)) = false := by simp [he]
          have HT2 : Hid (xs.take (k + 1) = ys.take (k + 1)) := Lib.hid (by rw [take_snoc8 xs k H1.out, take_snoc8 ys k H2.out, HT.out, UInt8.toNat_inj.1 (HAA.out.trans (he.trans HAB.out.symm))])
          clear he
          go_wp2
          go_quiet (fail)
          go_wp2
          go_roundw
          case rel => exact ⟨k + 1, by omega, by go_num, HT2, hkw.trans' (keeps_drewN _ _)⟩
          case measure => simp [intOf]; omega
        · have t1 : ((a : Int) != (a' : Int)) = true := by simp; omega
          have HF : Hid (decide (xs = ys) = false) := Lib.hid (decide_eq_false fun h => he (by rw [← HAA.out, ← HAB.out, h]))
          clear he
          go_wp2
          go_quiet (fail)
          go_wp2
          go_ret
          exact ⟨by rw [HF.out]; first | done | rfl, hkw.trans' (keeps_drewN _ _)⟩
      · obtain rfl : k = n := by omega
        have HTT : Hid (decide (xs = ys) = true) := Lib.hid (decide_eq_true (eq_of_takes8 (by rw [HN.out, HM.out]) (by rw [HN.out]; exact HT.out)))
        clear hlt hk
        go_wp2
        go_ret
        exact ⟨by rw [HTT.out]; first | done | rfl, hkw⟩
  · have t1 : ((n : Int) != (m : Int)) = true := by simp; omega
    have HF : Hid (decide (xs = ys) = false) := Lib.hid (decide_eq_false fun h => hne (by rw [← hn, ← hm, h]))
    clear hne
    go_enter Tryz.func30, Tryz.ntmps30
    go_wp2
    go_ret
    exact ⟨by rw [HF.out]; first | done | rfl, Below.refl _ _⟩
set_option maxRecDepth 100000 in
set_option maxHeartbeats 1000000 in
theorem rsameI_any {w : World} {A B : Option Addr} {xs ys : List Nat} {n m c d : Nat} {z z' : Bool} (hA : Row w A n (u32 xs)) (hB : Row w B m (u32 ys)) (hn : xs.length = n) (hm : ys.length = m) (hl : n ≤ 9223372036854775807) (hl' : m ≤ 9223372036854775807) :
    Calls Tryz.prog 32 #[.agg #[.bool z, .slice A n c], .agg #[.bool z', .slice B m d]] w fun e w' => e = .returned (.bool ((z == z') && decide (xs = ys))) ∧ Keeps w w' := by
  have hnI : (n : Int) ≤ 9223372036854775807 := by omega
  have hmI : (m : Int) ≤ 9223372036854775807 := by omega
  obtain ⟨W2, hW2⟩ : ∃ W2, (w.alloc (.cells #[.bool z, .slice A n c] 27)).alloc (.cells #[.bool z', .slice B m d] 27) = W2 := ⟨_, rfl⟩
  have hk2 : Keeps w W2 := hW2 ▸ keep2 w _ _
  have q1 : Own W2 w.heap.size 27 [.bool z, .slice A n c] := hW2 ▸ (Own.new w _ _).alloc _
  have q2 : Own W2 (w.heap.size + 1) 27 [.bool z', .slice B m d] := hW2 ▸ own2 w _ _ _
  by_cases hz : z = z'
  case neg =>
    have HF : Hid (((z == z') && decide (xs = ys)) = false) := Lib.hid (by rw [beq_false_of_ne hz]; rfl)
    have x0 := q1.cell 0
    have x1 := q1.cell 1
    simp only [List.getElem?_cons_zero, List.getElem?_cons_succ] at x0 x1
    have y0 := q2.cell 0
    have y1 := q2.cell 1
    simp only [List.getElem?_cons_zero, List.getElem?_cons_succ] at y0 y1
    clear q1 q2
    go_enter Tryz.func32, Tryz.ntmps32
    cases z <;> cases z'
    · exact absurd rfl hz
    · clear hz
      go_wp2
      go_ret
      exact ⟨by rw [HF.out]; first | done | rfl, hk2⟩
    · clear hz
      go_wp2
      go_ret
      exact ⟨by rw [HF.out]; first | done | rfl, hk2⟩
    · exact absurd rfl hz
  case pos =>
    subst hz
    have hzz : (z == z) = true := beq_self_eq_true z
    by_cases hne : n = m
    · have HNE := Lib.hid hne
      subst hne
      have HZ : Hid (((z == z) && decide (xs = ys)) = decide (xs = ys)) := Lib.hid (by rw [hzz]; rfl)
      have HN := Lib.hid hn
      have HM := Lib.hid hm
      have HA := Lib.hid (hA.below hk2)
      have HB := Lib.hid (hB.below hk2)
      have Q1 := Lib.hid q1
      have Q2 := Lib.hid q2
      clear hn hm hA hB hl hl' hmI hzz
      have x0 := q1.cell 0
      have x1 := q1.cell 1
      simp only [List.getElem?_cons_zero, List.getElem?_cons_succ] at x0 x1
      have y0 := q2.cell 0
      have y1 := q2.cell 1
      simp only [List.getElem?_cons_zero, List.getElem?_cons_succ] at y0 y1
      clear q1 q2
      go_enter Tryz.func32, Tryz.ntmps32
      go_wp2
      clear x0 x1 y0 y1
      go_loopw [5] (fun i wr => ∃ k : Nat, k ≤ n ∧ i = .int .i64 (k : Nat) ∧ Hid (xs.take k = ys.take k) ∧ Keeps W2 wr) (fun i _ => n - (intOf i).toNat)
      case atStart => exact ⟨0, Nat.zero_le _, rfl, Lib.hid (by simp), Below.refl _ _⟩
      case round =>
        obtain ⟨k, hk, rfl, HT, hkw⟩ := hrel
        have r1 := Q1.out.below hkw
        have r2 := Q2.out.below hkw
        have x0 := r1.cell 0
        have x1 := r1.cell 1
        simp only [List.getElem?_cons_zero, List.getElem?_cons_succ] at x0 x1
        have y0 := r2.cell 0
        have y1 := r2.cell 1
        simp only [List.getElem?_cons_zero, List.getElem?_cons_succ] at y0 y1
        clear r1 r2
        by_cases hlt : k < n
        · obtain ⟨b1, o1, rfl, -, r1⟩ := (HA.out.below hkw) (by omega)
          obtain ⟨b2, o2, rfl, -, r2⟩ := (HB.out.below hkw) (by omega)
          have c1 := r1 k hlt
          have c2 := r2 k hlt
          rw [u32_at] at c1 c2
          have hkI : (k : Int) < n := by omega
          have h1 : k < xs.length := by rw [HN.out]; exact hlt
          have h2 : k < ys.length := by rw [HM.out]; exact hlt
          have H1 := Lib.hid h1
          have H2 := Lib.hid h2
          clear r1 r2 h1 h2
          by_cases he : ix xs k = ix ys k
          · have t1 : ((ix xs k : Int) != (ix ys k : Int)) = false := by simp [he]
            have HT2 : Hid (xs.take (k + 1) = ys.take (k + 1)) := Lib.hid (by rw [take_snoc xs k H1.out, take_snoc ys k H2.out, HT.out, he])
            clear he
            go_wp2
            go_quiet (fail)
            go_wp2
            go_roundw
            case rel => exact ⟨k + 1, by omega, by go_num, HT2, hkw.trans' (keeps_drewN _ _)⟩
            case measure => simp [intOf]; omega
          · have t1 : ((ix xs k : Int) != (ix ys k : Int)) = true := by simp; omega
            have HF : Hid (decide (xs = ys) = false) := Lib.hid (decide_eq_false fun h => he (by rw [h]))
            clear he
            go_wp2
            go_quiet (fail)
            go_wp2
            go_ret
            exact ⟨by rw [HZ.out, HF.out]; first | done | rfl, (hk2.trans' hkw).trans' (keeps_drewN _ _)⟩
        · obtain rfl : k = n := by omega
          have HTT : Hid (decide (xs = ys) = true) := Lib.hid (decide_eq_true (eq_of_takes (by rw [HN.out, HM.out]) (by rw [HN.out]; exact HT.out)))
          clear hlt hk
          go_wp2
          go_ret
          exact ⟨by rw [HZ.out, HTT.out]; first | done | rfl, hk2.trans' hkw⟩
    · have t1 : ((n : Int) != (m : Int)) = true := by simp; omega
      have HF : Hid (((z == z) && decide (xs = ys)) = false) := Lib.hid (by rw [decide_eq_false fun h => hne (by rw [← hn, ← hm, h])]; simp)
      clear hne hzz
      have x0 := q1.cell 0
      have x1 := q1.cell 1
      simp only [List.getElem?_cons_zero, List.getElem?_cons_succ] at x0 x1
      have y0 := q2.cell 0
      have y1 := q2.cell 1
      simp only [List.getElem?_cons_zero, List.getElem?_cons_succ] at y0 y1
      clear q1 q2
      go_enter Tryz.func32, Tryz.ntmps32
      go_wp2
      go_ret
      exact ⟨by rw [HF.out]; first | done | rfl, hk2⟩
end Go.Proofs.YtomjnjpehokjbaaGreatDoor

namespace Go.Proofs.YtomjnjpehokjbaaGreatDoor
open Go.RowKit Go.Shelf
def REqAt (N : Nat) (t : Tr) : Prop := ∀ (u : Tr) (cs ds : List Value) (w : World), ValC anyB N w t cs → ValC anyB N w u ds → Calls Tryz.prog 9 #[.agg cs.toArray, .agg ds.toArray] w fun e w' => e = .returned (.bool (eqB t u)) ∧ Keeps w w'
set_option maxRecDepth 100000 in
set_option maxHeartbeats 2000000 in
theorem requal_step {N : Nat} (hN : N ≤ maxLen) (k : Int) (n : Bool) (g : List Nat) (x : List UInt8) (l : List Tr) (IH : ∀ y ∈ l, REqAt N y) : REqAt N (.mk k n g x l) := by
  intro u cs ds w hv hu
  obtain ⟨k', n', g', x', l'⟩ := u
  obtain ⟨A, n1, c1, B, n2, c2, L, c, rfl, ⟨hbg, hbx, hbl⟩, ⟨rfl, hG⟩, ⟨rfl, hT⟩, hc, hE⟩ := hv.open_
  obtain ⟨A', n1', c1', B', n2', c2', L', c', rfl, ⟨hbg', hbx', hbl'⟩, ⟨rfl, hG'⟩, ⟨rfl, hT'⟩, hc', hE'⟩ := hu.open_
  have HB := Lib.hid (eqB_mk k n g x l k' n' g' x' l')
  obtain ⟨W2, hW2⟩ : ∃ W2, (w.alloc (.cells #[.int .i64 k, .bool n, .slice A g.length c1, .slice B x.length c2, .slice L l.length c] 30)).alloc (.cells #[.int .i64 k', .bool n', .slice A' g'.length c1', .slice B' x'.length c2', .slice L' l'.length c'] 30) = W2 := ⟨_, rfl⟩
  have hk2 : Keeps w W2 := hW2 ▸ keep2 w _ _
  have q1 : Own W2 w.heap.size 30 [.int .i64 k, .bool n, .slice A g.length c1, .slice B x.length c2, .slice L l.length c] := hW2 ▸ (Own.new w _ _).alloc _
  have q2 : Own W2 (w.heap.size + 1) 30 [.int .i64 k', .bool n', .slice A' g'.length c1', .slice B' x'.length c2', .slice L' l'.length c'] := hW2 ▸ own2 w _ _ _
  have HG := Lib.hid (rsameI_any (c := c1) (d := c1') (z := n) (z' := n') (U32.row (hG.below hk2)) (U32.row (hG'.below hk2)) rfl rfl (by unfold maxLen at hN; omega) (by unfold maxLen at hN; omega))
  have HT := Lib.hid (SlK.row (hT.below hk2))
  have HT' := Lib.hid (SlK.row (hT'.below hk2))
  have HE := Lib.hid (hE.below hk2)
  have HE' := Lib.hid (hE'.below hk2)
  have HI := Lib.hid IH
  have hlI : (l.length : Int) ≤ 9223372036854775807 := by unfold maxLen at hN; omega
  have hlI' : (l'.length : Int) ≤ 9223372036854775807 := by unfold maxLen at hN; omega
  have HXB : Hid (x.length ≤ 9223372036854775807 ∧ x'.length ≤ 9223372036854775807) := Lib.hid (by unfold maxLen at hN; omega)
  clear hv hu hG hG' hT hT' hE hE' IH hc hc' hN hbg hbx hbl hbg' hbx' hbl'
  have Q1 := Lib.hid q1
  have Q2 := Lib.hid q2
  have x0 := q1.cell 0
  have x1 := q1.cell 1
  have x2 := q1.cell 2
  have x3 := q1.cell 3
  have x4 := q1.cell 4
  simp only [List.getElem?_cons_zero, List.getElem?_cons_succ] at x0 x1 x2 x3 x4
  have y0 := q2.cell 0
  have y1 := q2.cell 1
  have y2 := q2.cell 2
  have y3 := q2.cell 3
  have y4 := q2.cell 4
  simp only [List.getElem?_cons_zero, List.getElem?_cons_succ] at y0 y1 y2 y3 y4
  clear q1 q2
  cases e1 : (k == k') with
  | false =>
    have HV : Hid (eqB (.mk k n g x l) (.mk k' n' g' x' l') = false) := Lib.hid (by rw [HB.out, e1]; rfl)
    have e1' : (k != k') = true := by simpa using e1
    clear e1
    go_enter Tryz.func9, Tryz.ntmps9
    go_wp2
    go_ret
    exact ⟨by rw [HV.out]; first | done | rfl, hk2⟩
  | true =>
    obtain rfl : k = k' := by simpa using e1
    clear e1
    go_enter Tryz.func9, Tryz.ntmps9
    go_wp2_with fail
    refine HG.out.mono ?_
    rintro e w1 ⟨rfl, hk3⟩
    have r1 := Q1.out.below hk3
    have r2 := Q2.out.below hk3
    clear x0 x1 x2 x3 x4 y0 y1 y2 y3 y4
    have x0 := r1.cell 0
    have x1 := r1.cell 1
    have x2 := r1.cell 2
    have x3 := r1.cell 3
    have x4 := r1.cell 4
    simp only [List.getElem?_cons_zero, List.getElem?_cons_succ] at x0 x1 x2 x3 x4
    have y0 := r2.cell 0
    have y1 := r2.cell 1
    have y2 := r2.cell 2
    have y3 := r2.cell 3
    have y4 := r2.cell 4
    simp only [List.getElem?_cons_zero, List.getElem?_cons_succ] at y0 y1 y2 y3 y4
    have HX := Lib.hid (rsameB_any (c := c2) (d := c2') (HT.out.below hk3) (HT'.out.below hk3) rfl rfl HXB.out.1 HXB.out.2)
    cases e2 : ((n == n') && decide (g = g')) with
    | false =>
      have HV : Hid (eqB (.mk k n g x l) (.mk k n' g' x' l') = false) := Lib.hid (by rw [HB.out, beq_self_eq_true, Bool.true_and, e2]; rfl)
      clear e2
      go_wp2
      go_ret
      exact ⟨by rw [HV.out]; first | done | rfl, hk2.trans' hk3⟩
    | true =>
      have H2 := Lib.hid e2
      clear e2
      go_wp2_with fail
      refine HX.out.mono ?_
      rintro e w2 ⟨rfl, hk4⟩
      have s1 := r1.below hk4
      have s2 := r2.below hk4
      clear x0 x1 x2 x3 x4 y0 y1 y2 y3 y4 r1 r2
      have x0 := s1.cell 0
      have x1 := s1.cell 1
      have x2 := s1.cell 2
      have x3 := s1.cell 3
      have x4 := s1.cell 4
      simp only [List.getElem?_cons_zero, List.getElem?_cons_succ] at x0 x1 x2 x3 x4
      have y0 := s2.cell 0
      have y1 := s2.cell 1
      have y2 := s2.cell 2
      have y3 := s2.cell 3
      have y4 := s2.cell 4
      simp only [List.getElem?_cons_zero, List.getElem?_cons_succ] at y0 y1 y2 y3 y4
      cases e3 : decide (x = x') with
      | false =>
        have HV : Hid (eqB (.mk k n g x l) (.mk k n' g' x' l') = false) := Lib.hid (by rw [HB.out, beq_self_eq_true, Bool.true_and, H2.out, e3]; rfl)
        clear e3
        go_wp2
        go_ret
        exact ⟨by rw [HV.out]; first | done | rfl, (hk2.trans' hk3).trans' hk4⟩
      | true =>
        have HV : Hid (eqB (.mk k n g x l) (.mk k n' g' x' l') = eqL l l') := Lib.hid (by rw [HB.out, beq_self_eq_true, Bool.true_and, H2.out, e3]; rfl)
        have hk5 := hk3.trans' hk4
        have HS1 := Lib.hid s1
        have HS2 := Lib.hid s2
        clear e3 hk3 hk4 s1 s2
        by_cases hne : l.length = l'.length
        · have HNE := Lib.hid hne
          obtain ⟨N1, hN1⟩ : ∃ N1, l.length = N1 := ⟨_, rfl⟩
          rw [← hne] at y4 HS2 hlI'
          rw [hN1] at x4 y4 HS1 HS2 hlI hlI'
          have HN := Lib.hid hN1
          clear hne hN1
          go_wp2
          clear x0 x1 x2 x3 x4 y0 y1 y2 y3 y4
          go_loopw [5] (fun i wr => ∃ j : Nat, j ≤ N1 ∧ i = .int .i64 (j : Nat) ∧ Hid (l.take j = l'.take j) ∧ Keeps w2 wr) (fun i _ => N1 - (intOf i).toNat)
          case atStart => exact ⟨0, Nat.zero_le _, rfl, Lib.hid (by simp), Below.refl _ _⟩
          case round =>
            obtain ⟨j, hj, rfl, HTK, hkw⟩ := hrel
            have r1 := HS1.out.below hkw
            have r2 := HS2.out.below hkw
            have x0 := r1.cell 0
            have x1 := r1.cell 1
            have x2 := r1.cell 2
            have x3 := r1.cell 3
            have x4 := r1.cell 4
            simp only [List.getElem?_cons_zero, List.getElem?_cons_succ] at x0 x1 x2 x3 x4
            have y0 := r2.cell 0
            have y1 := r2.cell 1
            have y2 := r2.cell 2
            have y3 := r2.cell 3
            have y4 := r2.cell 4
            simp only [List.getElem?_cons_zero, List.getElem?_cons_succ] at y0 y1 y2 y3 y4
            by_cases hlt : j < N1
            · obtain ⟨x, hx⟩ : ∃ x, l[j]? = some x := ⟨_, List.getElem?_eq_getElem (by rw [HN.out]; exact hlt)⟩
              obtain ⟨y, hy⟩ : ∃ y, l'[j]? = some y := ⟨_, List.getElem?_eq_getElem (by rw [← HNE.out, HN.out]; exact hlt)⟩
              obtain ⟨b, o, k1, z1, A1, n1, c1, B1, m1, d1, D1, l1, e1, rfl, -, hb, ⟨g0, g1, g2, g3, g4⟩, hv⟩ := (HE.out.below (hk5.trans' hkw)).get5 hx
              obtain ⟨b', o', k2, z2, A2, n2, c2, B2, m2, d2, D2, l2, e2, rfl, -, hb', ⟨f0, f1, f2, f3, f4⟩, hu⟩ := (HE'.out.below (hk5.trans' hkw)).get5 hy
              have HC := Lib.hid ((HI.out x (List.mem_of_getElem? hx)) y _ _ wr.drew hv.drew hu.drew)
              have hjI : (j : Int) < N1 := by omega
              have HX := Lib.hid hx
              have HY := Lib.hid hy
              clear hx hy hv hu r1 r2
              go_wp2
              refine wp_region_still_tail 10 rfl (by kernel_rfl) ?_
              simp only [List.take_succ_cons, List.take_zero, List.drop_succ_cons, List.drop_zero]
              repeat still_step
              refine wpStill_nil ?_
              go_wp2_with fail
              refine HC.out.mono ?_
              rintro e w3 ⟨rfl, hk6⟩
              have hkd : Keeps w2 wr.drew := Below.drew hkw
              have hkk : Keeps w2 w3 := hkd.trans' hk6
              cases hq : eqB x y with
              | true =>
                have HT2 : Hid (l.take (j + 1) = l'.take (j + 1)) := Lib.hid (by
                  obtain ⟨h1, h1'⟩ := List.getElem?_eq_some_iff.1 HX.out
                  obtain ⟨h2, h2'⟩ := List.getElem?_eq_some_iff.1 HY.out
                  rw [List.take_succ_eq_append_getElem h1, List.take_succ_eq_append_getElem h2, HTK.out, h1', h2', eqB_iff.1 hq])
                clear hq
                go_wp2
                go_roundw
                case rel => exact ⟨j + 1, by omega, by go_num, HT2, hkk⟩
                case measure => simp [intOf]; omega
              | false =>
                have HF : Hid (eqL l l' = false) := Lib.hid (by
                  cases h : eqL l l' with
                  | false => rfl
                  | true =>
                    exfalso
                    have h2 := HX.out
                    rw [eqL_iff.1 h, HY.out] at h2
                    cases h2
                    rw [eqB_refl] at hq
                    cases hq)
                clear hq
                go_wp2
                go_ret
                exact ⟨by rw [HV.out, HF.out]; first | done | rfl, (hk2.trans' hk5).trans' hkk⟩
            · obtain rfl : j = N1 := by omega
              have HF : Hid (eqL l l' = true) := Lib.hid (eqL_iff.2 (takesT_eq HNE.out (by rw [HN.out]; exact HTK.out)))
              clear r1 r2
              go_wp2
              go_ret
              exact ⟨by rw [HV.out, HF.out]; first | done | rfl, (hk2.trans' hk5).trans' hkw⟩
        · have t1 : ((l.length : Int) != (l'.length : Int)) = true := by simp; omega
          have HF : Hid (eqL l l' = false) := Lib.hid (by
            cases h : eqL l l' with
            | false => rfl
            | true => exact absurd (congrArg List.length (eqL_iff.1 h)) hne)
          clear hne
          go_wp2
          go_ret
          exact ⟨by rw [HV.out, HF.out]; first | done | rfl, hk2.trans' hk5⟩
theorem requal_any {N : Nat} (hN : N ≤ maxLen) (t : Tr) : REqAt N t := Tr.ind (fun k n g x l IH => requal_step hN k n g x l IH) t
end Go.Proofs.YtomjnjpehokjbaaGreatDoor

namespace Go.Proofs.YtomjnjpehokjbaaGreatDoor
open Go.RowKit Go.Shelf
theorem requal_same {N : Nat} (hN : N ≤ maxLen) {t : Tr} {cs ds : List Value} {w : World} (hv : ValC anyB N w t cs) (hu : ValC anyB N w t ds) : Calls Tryz.prog 9 #[.agg cs.toArray, .agg ds.toArray] w fun e w' => e = .returned (.bool true) ∧ Keeps w w' := by
  have h := requal_any hN t t cs ds w hv hu
  rwa [eqB_refl] at h
end Go.Proofs.YtomjnjpehokjbaaGreatDoor
