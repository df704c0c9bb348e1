/- fiducialref12.read, of nothing, of what lies too deep, and of an integer: the walk. -/
import Derived.Test.YtomjnjpehokjbaaGreatDoorMgRdP
import Derived.Test.YtomjnjpehokjbaaGreatDoorMgVal3
import Derived.Test.YtomjnjpehokjbaaGreatDoorMgText
namespace Go.Proofs.YtomjnjpehokjbaaGreatDoor
open Go.RowKit Go.Shelf
/-- what the reference's reader hands back -/
def RedPost (xs : List UInt8) (o : Option (Tr × List UInt8)) (w : World) (e : Ending) (w' : World) : Prop :=
  Keeps w w' ∧ (o = none → ∃ V z, NoV V ∧ e = .returned (.tuple #[V, .int .i64 z, .bool false])) ∧ ∀ t u, o = some (t, u) → ∃ (cs : List Value) (j : Nat), j ≤ xs.length ∧ u = xs.drop j ∧ e = .returned (.tuple #[.agg cs.toArray, .int .i64 (j : Nat), .bool true]) ∧ ValC (newB w.heap.size) 70000 w' t cs
theorem redPost_no {xs : List UInt8} {w w' : World} {V : Value} (hk : Keeps w w') (hV : NoV V) (z : Int) : RedPost xs none w (.returned (.tuple #[V, .int .i64 z, .bool false])) w' := ⟨hk, fun _ => ⟨V, z, hV, rfl⟩, fun t u h => by cases h⟩
theorem redPost_yes {xs : List UInt8} {w w' : World} {t : Tr} {cs : List Value} {j : Nat} (hk : Keeps w w') (hj : j ≤ xs.length) (hv : ValC (newB w.heap.size) 70000 w' t cs) : RedPost xs (some (t, xs.drop j)) w (.returned (.tuple #[.agg cs.toArray, .int .i64 (j : Nat), .bool true])) w' :=
  ⟨hk, (fun h => by cases h), fun t' u' h => by cases h; exact ⟨cs, j, hj, rfl, rfl, hv⟩⟩
def RedAt (d : Nat) : Prop := ∀ (m : Nat), d + m = 9 → ∀ (w : World) (A : Option Addr) (c : Nat) (xs : List UInt8) (p : Nat), Byt w A c xs → xs.length ≤ 1000 → p ≤ xs.length → Calls Tryz.prog 28 #[.slice A xs.length c, .int .i64 (p : Nat), .int .i64 (m : Nat)] w (RedPost xs (redP d (xs.drop p)) w)
set_option maxRecDepth 100000 in
set_option maxHeartbeats 1000000 in
theorem red_end (m : Nat) {w : World} {A : Option Addr} {c : Nat} {xs : List UInt8} (hl : xs.length ≤ 1000) :
    Calls Tryz.prog 28 #[.slice A xs.length c, .int .i64 (xs.length : Nat), .int .i64 (m : Nat)] w (RedPost xs none w) := by
  obtain ⟨W0, hW0⟩ : ∃ W0, w.alloc (.cells #[.int .i64 0, .bool false, .slice none 0 0, .slice none 0 0, .slice none 0 0] 30) = W0 := ⟨_, rfl⟩
  have hk0 : Keeps w W0 := hW0 ▸ box2 w _
  have q0 : Own W0 w.heap.size 30 [.int .i64 0, .bool false, .slice none 0 0, .slice none 0 0, .slice none 0 0] := hW0 ▸ Own.new w _ _
  have hlI : (xs.length : Int) ≤ 1000 := by omega
  have t1 : decide ((xs.length : Int) ≤ (xs.length : Int)) = true := decide_eq_true (by omega)
  have x0 := q0.cell 0
  have x1 := q0.cell 1
  have x2 := q0.cell 2
  have x3 := q0.cell 3
  have x4 := q0.cell 4
  have f0 := q0.frozen 0
  have f1 := q0.frozen 1
  have f2 := q0.frozen 2
  have f3 := q0.frozen 3
  have f4 := q0.frozen 4
  simp only [List.getElem?_cons_zero, List.getElem?_cons_succ] at x0 x1 x2 x3 x4
  go_enter Tryz.func28, Tryz.ntmps28
  go_wp2
  have r5 := (q0).put5 (a := .int .i64 0) (x := .bool false) (y := .slice none 0 0) (z := .slice none 0 0) (v := .slice none 0 0)
  have r0 := r5.cell 0
  have r1 := r5.cell 1
  have r2 := r5.cell 2
  have r3 := r5.cell 3
  have r4 := r5.cell 4
  simp only [List.getElem?_cons_zero, List.getElem?_cons_succ] at r0 r1 r2 r3 r4
  refine bodyPost_ret (v := .tuple #[.agg #[.int .i64 0, .bool false, .slice none 0 0, .slice none 0 0, .slice none 0 0], .int .i64 0, .bool false]) (by simp [results, Tryz.results28, go_sem, r0, r1, r2, r3, r4]) rfl ?_
  exact redPost_no (keeps5 hk0 (Nat.le_refl _) _ _ _ _ _) ⟨_, _, _, _, _, _, _, _, _, _, _, rfl⟩ _
set_option maxRecDepth 100000 in
set_option maxHeartbeats 1000000 in
theorem red_deep {w : World} {A : Option Addr} {c : Nat} {xs : List UInt8} (hl : xs.length ≤ 1000) {p : Nat} (hp : p < xs.length) :
    Calls Tryz.prog 28 #[.slice A xs.length c, .int .i64 (p : Nat), .int .i64 9] w (RedPost xs none w) := by
  obtain ⟨W0, hW0⟩ : ∃ W0, w.alloc (.cells #[.int .i64 0, .bool false, .slice none 0 0, .slice none 0 0, .slice none 0 0] 30) = W0 := ⟨_, rfl⟩
  have hk0 : Keeps w W0 := hW0 ▸ box2 w _
  have q0 : Own W0 w.heap.size 30 [.int .i64 0, .bool false, .slice none 0 0, .slice none 0 0, .slice none 0 0] := hW0 ▸ Own.new w _ _
  have hlI : (xs.length : Int) ≤ 1000 := by omega
  have t1 : decide ((xs.length : Int) ≤ (p : Int)) = false := decide_eq_false (by omega)
  have x0 := q0.cell 0
  have x1 := q0.cell 1
  have x2 := q0.cell 2
  have x3 := q0.cell 3
  have x4 := q0.cell 4
  have f0 := q0.frozen 0
  have f1 := q0.frozen 1
  have f2 := q0.frozen 2
  have f3 := q0.frozen 3
  have f4 := q0.frozen 4
  simp only [List.getElem?_cons_zero, List.getElem?_cons_succ] at x0 x1 x2 x3 x4
  go_enter Tryz.func28, Tryz.ntmps28
  go_wp2
  have r5 := (q0).put5 (a := .int .i64 0) (x := .bool false) (y := .slice none 0 0) (z := .slice none 0 0) (v := .slice none 0 0)
  have r0 := r5.cell 0
  have r1 := r5.cell 1
  have r2 := r5.cell 2
  have r3 := r5.cell 3
  have r4 := r5.cell 4
  simp only [List.getElem?_cons_zero, List.getElem?_cons_succ] at r0 r1 r2 r3 r4
  refine bodyPost_ret (v := .tuple #[.agg #[.int .i64 0, .bool false, .slice none 0 0, .slice none 0 0, .slice none 0 0], .int .i64 0, .bool false]) (by simp [results, Tryz.results28, go_sem, r0, r1, r2, r3, r4]) rfl ?_
  exact redPost_no (keeps5 hk0 (Nat.le_refl _) _ _ _ _ _) ⟨_, _, _, _, _, _, _, _, _, _, _, rfl⟩ _
theorem take_next8 {l : List UInt8} {a j : Nat} (ha : a ≤ j) (hj : j < l.length) : (l.drop a).take (j + 1 - a) = (l.drop a).take (j - a) ++ [l.getD j 0] := by
  rw [show j + 1 - a = (j - a) + 1 by omega, List.take_succ_eq_append_getElem (by rw [List.length_drop]; omega)]
  congr 2
  rw [List.getElem_drop, List.getD]
  simp [show a + (j - a) = j by omega, hj]
set_option maxRecDepth 100000 in
set_option maxHeartbeats 2000000 in
theorem red_int (d m : Nat) (hm : m ≤ 8) {w : World} {A : Option Addr} {c : Nat} {xs : List UInt8} (hb : Byt w A c xs) (hl : xs.length ≤ 1000) {p : Nat} (hp : p < xs.length) (h0 : xs.getD p 0 = 105) :
    Calls Tryz.prog 28 #[.slice A xs.length c, .int .i64 (p : Nat), .int .i64 (m : Nat)] w (RedPost xs (redP (d + 1) (xs.drop p)) w) := by
  obtain ⟨O, hO⟩ : ∃ O, redP (d + 1) (xs.drop p) = O := ⟨_, rfl⟩
  rw [hO]
  rw [drop_getD hp, h0, redP_int] at hO
  obtain ⟨A', c', eA, hnc, hcm, -, hrow, -⟩ := id hb
  cases eA
  obtain ⟨b, o, rfl, hbl, hcell⟩ := hrow (by omega)
  obtain ⟨W0, hW0⟩ : ∃ W0, w.alloc (.cells #[.int .i64 0, .bool false, .slice none 0 0, .slice none 0 0, .slice none 0 0] 30) = W0 := ⟨_, rfl⟩
  have hk0 : Keeps w W0 := hW0 ▸ box2 w _
  have q0 : Own W0 w.heap.size 30 [.int .i64 0, .bool false, .slice none 0 0, .slice none 0 0, .slice none 0 0] := hW0 ▸ Own.new w _ _
  have hlI : (xs.length : Int) ≤ 1000 := by omega
  have c0 : W0.cell? ⟨b, o + p, none⟩ = some (.int .u8 105) := by
    have h1 := hcell p hp
    unfold b8 at h1
    rw [h0] at h1
    exact (hk0.cell (p := ⟨b, o + p, none⟩) hbl).trans h1
  have HCELL := Lib.hid (fun (j : Nat) (hj : j < xs.length) => (hk0.cell (p := ⟨b, o + j, none⟩) hbl).trans (hcell j hj))
  have hpI : (p : Int) < xs.length := by omega
  have t1 : decide ((xs.length : Int) ≤ (p : Int)) = false := decide_eq_false (by omega)
  have t2 : decide ((8 : Int) < (m : Int)) = false := decide_eq_false (by omega)
  have hcmI : (c : Int) ≤ 9223372036854775807 := by unfold maxLen at hcm; omega
  have hncI : (xs.length : Int) ≤ c := by omega
  have HO := Lib.hid hO
  clear hO hrow hcell hb h0
  have x0 := q0.cell 0
  have x1 := q0.cell 1
  have x2 := q0.cell 2
  have x3 := q0.cell 3
  have x4 := q0.cell 4
  have f0 := q0.frozen 0
  have f1 := q0.frozen 1
  have f2 := q0.frozen 2
  have f3 := q0.frozen 3
  have f4 := q0.frozen 4
  simp only [List.getElem?_cons_zero, List.getElem?_cons_succ] at x0 x1 x2 x3 x4
  go_enter Tryz.func28, Tryz.ntmps28
  go_wp2
  go_loop [9] (fun i => ∃ j : Nat, p + 1 ≤ j ∧ j ≤ xs.length ∧ i = .int .i64 (j : Nat) ∧ Hid (cutM 59 (xs.drop (p + 1)) = (cutM 59 (xs.drop j)).map fun q => ((xs.drop (p + 1)).take (j - (p + 1)) ++ q.1, q.2))) (fun i => 1000 - (intOf i).toNat)
  case atStart => exact ⟨p + 1, Nat.le_refl _, by omega, by go_num, Lib.hid (by
    rw [Nat.sub_self]
    cases cutM 59 (xs.drop (p + 1)) with
    | none => rfl
    | some q => rfl)⟩
  case round =>
    obtain ⟨j, hpj, hjl, rfl, HJ⟩ := hrel
    have hjI : (j : Int) ≤ xs.length := by omega
    have hpjI : (p : Int) + 1 ≤ j := by omega
    by_cases hlt : j < xs.length
    · have hjI2 : (j : Int) < xs.length := by omega
      have c1 := HCELL.out j hlt
      unfold b8 at c1
      have HD := Lib.hid (drop_getD hlt)
      have HTN := Lib.hid (take_next8 hpj hlt)
      obtain ⟨u, hu⟩ : ∃ u, xs.getD j 0 = u := ⟨_, rfl⟩
      rw [hu] at c1 HD HTN
      clear hu
      by_cases h59 : u = 59
      · have HC : Hid (cutM 59 (xs.drop (p + 1)) = some ((xs.drop (p + 1)).take (j - (p + 1)), xs.drop (j + 1))) := Lib.hid (by
          rw [HJ.out, HD.out, h59, cutM, if_pos rfl]
          simp)
        subst h59
        simp only [show (59 : UInt8).toNat = 59 from rfl] at c1
        have t3 : ((j : Int) == (xs.length : Int)) = false := by rw [beq_eq_false_iff_ne]; omega
        have t4 : decide ((2002 : Int) < (j : Int) - (p : Int)) = false := decide_eq_false (by omega)
        have hsl : ((xs.drop (p + 1)).take (j - (p + 1))).length = j - (p + 1) := by rw [List.length_take, List.length_drop]; omega
        obtain ⟨s, hs⟩ : ∃ s, (xs.drop (p + 1)).take (j - (p + 1)) = s := ⟨_, rfl⟩
        have HGET : Hid (∀ i, i < s.length → s.getD i 0 = xs.getD (p + 1 + i) 0) := Lib.hid (fun i hi => by
          rw [← hs] at hi ⊢
          rw [hsl] at hi
          simp [List.getD, hi])
        rw [hs] at HC hsl
        have hcv := run_convert_bytes_arg (P := Tryz.prog) W0 22 5 Tryz.underlying22 Tryz.underlying5 b (o + (p + 1)) (j - (p + 1)) (c - (p + 1)) (n8 s) (by rw [n8_length]; exact hsl) (fun i hi => by
          have h1 := HCELL.out (p + 1 + i) (by omega)
          rw [b8_n8 xs _ (by omega), n8_get xs _ (by omega)] at h1
          rw [n8_get s i (by omega), HGET.out i (by omega), Nat.add_assoc]
          exact h1) 9 Tryz.underlying9
        rw [str_n8] at hcv
        have hcp : (c = p + 1) = False := eq_false (by omega)
        have hsz : (⟨s.toArray⟩ : ByteArray).size = s.length := List.size_toArray
        have HP := Lib.hid (rparse_any ⟨s.toArray⟩ W0 (by omega))
        have HSL : Hid (s.length ≤ 2001) := Lib.hid (by omega)
        clear hs hsl
        obtain ⟨S, hSS⟩ : ∃ S : ByteArray, (⟨s.toArray⟩ : ByteArray) = S := ⟨_, rfl⟩
        have hSd : S.data.toList = s := by rw [← hSS]
        rw [hSS] at hcv HP hsz
        rw [hSd] at HP
        clear hSS hSd
        go_wp2_with fail
        refine HP.out.mono ?_
        rintro e w3 ⟨Q, rfl, hQ, hk3⟩
        obtain ⟨A3, n3, c3, rfl, hu⟩ := hQ.open_
        obtain ⟨W4, hW4⟩ : ∃ W4, w3.alloc (.cells #[.bool (decide (parseZ s < 0)), .slice A3 n3 c3] 27) = W4 := ⟨_, rfl⟩
        have hk4 : Keeps w3 W4 := hW4 ▸ box2 w3 _
        have p4 : Own W4 w3.heap.size 27 [.bool (decide (parseZ s < 0)), .slice A3 n3 c3] := hW4 ▸ Own.new w3 _ _
        have q4 := (q0.below hk3).below hk4
        have hk04 := (hk0.trans' hk3).trans' hk4
        have hu4 := hu.below hk4
        have y0 := p4.cell 0
        have y1 := p4.cell 1
        simp only [List.getElem?_cons_zero, List.getElem?_cons_succ] at y0 y1
        clear hQ hu p4 hcv c0 c1
        clear x0 x1 x2 x3 x4 f0 f1 f2 f3 f4
        have x0 := q4.cell 0
        have x1 := q4.cell 1
        have x2 := q4.cell 2
        have x3 := q4.cell 3
        have x4 := q4.cell 4
        have f0 := q4.frozen 0
        have f1 := q4.frozen 1
        have f2 := q4.frozen 2
        have f3 := q4.frozen 3
        have f4 := q4.frozen 4
        simp only [List.getElem?_cons_zero, List.getElem?_cons_succ] at x0 x1 x2 x3 x4
        obtain ⟨pc, hpc⟩ : ∃ pc, parseC s = pc := ⟨_, rfl⟩
        have HPC := Lib.hid hpc
        simp only [hpc]
        clear hpc
        by_cases hz : pc = 0
        · subst hz
          have HOO : Hid (O = some (intT (parseZ s), xs.drop (j + 1))) := Lib.hid (by
            rw [← HO.out, HC.out]
            simp only
            rw [if_pos ⟨HSL.out, HPC.out⟩])
          go_wp2
          have r5 := (q4).put5 (a := .int .i64 0) (x := .bool (decide (parseZ s < 0))) (y := .slice A3 n3 c3) (z := .slice none 0 0) (v := .slice none 0 0)
          have r0 := r5.cell 0
          have r1 := r5.cell 1
          have r2 := r5.cell 2
          have r3 := r5.cell 3
          have r4 := r5.cell 4
          simp only [List.getElem?_cons_zero, List.getElem?_cons_succ] at r0 r1 r2 r3 r4
          refine bodyPost_ret (v := .tuple #[.agg #[.int .i64 0, .bool (decide (parseZ s < 0)), .slice A3 n3 c3, .slice none 0 0, .slice none 0 0], .int .i64 ((j : Int) + 1), .bool true]) (by simp [results, Tryz.results28, go_sem, r0, r1, r2, r3, r4]) rfl ?_
          rw [HOO.out]
          refine redPost_yes (cs := [.int .i64 0, .bool (decide (parseZ s < 0)), .slice A3 n3 c3, .slice none 0 0, .slice none 0 0]) (j := j + 1) (keeps5 hk04 (Nat.le_refl _) _ _ _ _ _) (by omega) ?_
          refine ValC.make ⟨?_, by simp, by simp⟩ (set5_same32 q4 rfl rfl _ _ hu4) SlK.nil ⟨by simp, by simp [maxLen], fun _ => rfl⟩ ElsC.nil
          exact Nat.le_trans (parse_len s) (by omega)
        · have tz : (pc == 0) = false := by simpa using hz
          have HOO : Hid (O = none) := Lib.hid (by
            rw [← HO.out, HC.out]
            simp only
            rw [if_neg (fun h => hz (HPC.out.symm.trans h.2))])
          clear hz
          go_wp2
          have r5 := (q4).put5 (a := .int .i64 0) (x := .bool (decide (parseZ s < 0))) (y := .slice A3 n3 c3) (z := .slice none 0 0) (v := .slice none 0 0)
          have r0 := r5.cell 0
          have r1 := r5.cell 1
          have r2 := r5.cell 2
          have r3 := r5.cell 3
          have r4 := r5.cell 4
          simp only [List.getElem?_cons_zero, List.getElem?_cons_succ] at r0 r1 r2 r3 r4
          refine bodyPost_ret (v := .tuple #[.agg #[.int .i64 0, .bool (decide (parseZ s < 0)), .slice A3 n3 c3, .slice none 0 0, .slice none 0 0], .int .i64 ((j : Int) + 1), .bool false]) (by simp [results, Tryz.results28, go_sem, r0, r1, r2, r3, r4]) rfl ?_
          rw [HOO.out]
          exact redPost_no (keeps5 hk04 (Nat.le_refl _) _ _ _ _ _) ⟨_, _, _, _, _, _, _, _, _, _, _, rfl⟩ _
      · have HT : Hid (cutM 59 (xs.drop (p + 1)) = (cutM 59 (xs.drop (j + 1))).map fun q => ((xs.drop (p + 1)).take (j + 1 - (p + 1)) ++ q.1, q.2)) := Lib.hid (by
          rw [HJ.out, HD.out, cutM, if_neg h59, Option.map_map, HTN.out]
          congr 1
          funext q
          simp)
        have t3 : (((u.toNat : Nat) : Int) == 59) = false := u8_ne (k := 59) h59
        clear h59
        obtain ⟨v, hv⟩ : ∃ v, u.toNat = v := ⟨_, rfl⟩
        rw [hv] at c1 t3
        clear hv
        have t4 : ((v : Int) != 59) = true := by rw [bne, t3]; rfl
        go_wp2
        go_round
        case rel => exact ⟨j + 1, by omega, by omega, by go_num, HT⟩
        case measure => simp [intOf]; omega
    · obtain rfl : j = xs.length := by omega
      have HOO : Hid (O = none) := Lib.hid (by
        rw [← HO.out, HJ.out, List.drop_length]
        rfl)
      clear hlt
      go_wp2
      have r5 := (q0).put5 (a := .int .i64 0) (x := .bool false) (y := .slice none 0 0) (z := .slice none 0 0) (v := .slice none 0 0)
      have r0 := r5.cell 0
      have r1 := r5.cell 1
      have r2 := r5.cell 2
      have r3 := r5.cell 3
      have r4 := r5.cell 4
      simp only [List.getElem?_cons_zero, List.getElem?_cons_succ] at r0 r1 r2 r3 r4
      refine bodyPost_ret (v := .tuple #[.agg #[.int .i64 0, .bool false, .slice none 0 0, .slice none 0 0, .slice none 0 0], .int .i64 0, .bool false]) (by simp [results, Tryz.results28, go_sem, r0, r1, r2, r3, r4]) rfl ?_
      rw [HOO.out]
      exact redPost_no (keeps5 hk0 (Nat.le_refl _) _ _ _ _ _) ⟨_, _, _, _, _, _, _, _, _, _, _, rfl⟩ _
end Go.Proofs.YtomjnjpehokjbaaGreatDoor
