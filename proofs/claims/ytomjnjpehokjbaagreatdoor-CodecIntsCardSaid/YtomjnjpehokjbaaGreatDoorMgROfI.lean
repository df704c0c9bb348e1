/- fiducialref12.OfInts: the walk. The walk of the reference's Small. fiducialref12.ToInts: the walk. -/
import Derived.Test.YtomjnjpehokjbaaGreatDoorMgOf
import Derived.Test.YtomjnjpehokjbaaGreatDoorMgRefP
import Derived.Test.YtomjnjpehokjbaaGreatDoorMgIntA
namespace Go.Proofs.YtomjnjpehokjbaaGreatDoor
open Go.RowKit Go.Shelf
set_option maxRecDepth 100000 in
set_option maxHeartbeats 4000000 in
theorem rofInts_any {w : World} {A : Option Addr} {c : Nat} {l : List Int} (hr : IRow w A l) (hz : ∀ x ∈ l, -9223372036854775808 ≤ x ∧ x ≤ 9223372036854775807) (hl : l.length ≤ 60) :
    Calls Tryz.prog 14 #[.slice A l.length c] w (GivesV (lstT (l.map intT)) w) := by
  obtain ⟨i0, hi, hz0, hz1, hz2⟩ := info_parts info_val
  have hlI : (l.length : Int) ≤ 60 := by omega
  go_enter Tryz.func14, Tryz.ntmps14
  go_upto_region 2 with fail
  obtain ⟨W0, hW0⟩ : ∃ W0, (w.alloc (.cells #[.int .i64 0, .bool false, .slice none 0 0, .slice none 0 0, .slice none 0 0] 30)).alloc (.cells #[.int .i64 2, .bool false, .slice none 0 0, .slice none 0 0, .slice none 0 0] 30) = W0 := ⟨_, rfl⟩
  rw [hW0]
  have hk0 : Keeps w W0 := hW0 ▸ keep2 w _ _
  have q0 : Own W0 w.heap.size 30 [.int .i64 0, .bool false, .slice none 0 0, .slice none 0 0, .slice none 0 0] := hW0 ▸ (Own.new w _ _).alloc _
  have p0 : Own W0 (w.heap.size + 1) 30 [.int .i64 2, .bool false, .slice none 0 0, .slice none 0 0, .slice none 0 0] := hW0 ▸ own2 w _ _ _
  have hinv : OfInv w l (.int .i64 ((0 : Nat) : Int)) W0 := ⟨0, none, 0, Nat.zero_le _, rfl, q0, p0, RowV.nil, hk0⟩
  have HI0 := Lib.hid hinv
  have HR := Lib.hid hr
  have HZ := Lib.hid hz
  clear hinv hk0 q0 p0 hW0 hr hz
  go_wp2
  go_loopw [4] (fun i wr => OfInv w l i wr) (fun i _ => l.length - (intOf i).toNat)
  case atStart => exact HI0.out
  case round =>
    clear HI0
    obtain ⟨k, A1, c1, hkl, rfl, q, p, hrow, hkw⟩ := hrel
    have hwsz := p.lt
    by_cases hlt : k < l.length
    · have hkI : (k : Int) < l.length := by omega
      obtain ⟨b, o, rfl, hx⟩ := IRow.at (HR.out.below hkw) hlt
      have hxz : -9223372036854775808 ≤ l.getD k 0 ∧ l.getD k 0 ≤ 9223372036854775807 := by
        have : l.getD k 0 = l[k] := by simp [List.getD, hlt]
        rw [this]
        exact HZ.out _ (List.getElem_mem hlt)
      have htk : (l.take (k + 1)).map intT = (l.take k).map intT ++ [intT (l.getD k 0)] := by
        rw [List.take_succ_eq_append_getElem hlt, List.map_append]
        simp [List.getD, hlt]
      have HTK := Lib.hid htk
      have hacc : ((l.take k).map intT).length = k := by rw [List.length_map, List.length_take, Nat.min_eq_left hkl]
      have HACC := Lib.hid hacc
      generalize l.getD k 0 = x at *
      generalize (l.take k).map intT = acc at *
      have HOF := Lib.hid (rof_any x wr.drew hxz.1 hxz.2)
      have hln := lenI_i64 hxz.1 hxz.2
      have x4 := p.cell 4
      simp only [List.getElem?_cons_zero, List.getElem?_cons_succ] at x4
      have hrowd : RowV 70000 wr.drew (w.heap.size + 1 + 1) (.slice A1 k c1) acc := hrow.same (fun _ _ _ => rfl) (fun _ _ h => h)
      have HROW := Lib.hid hrowd
      have hrb := hrow.blk
      clear hacc htk hrow hrowd
      go_wp2
      go_region_law (first
        | (go_simp; go_at_call 42; refine HOF.out.mono ?_; rintro e w1 ⟨V, rfl, hV, hk1⟩; obtain ⟨A2, n2, c2, rfl, -⟩ := hV.open_; have p1 := (Own.drew p).below hk1; have y4 := p1.cell 4; have y5 := (p1.alloc (.cells #[.int .i64 0, .bool (decide (x < 0)), .slice A2 n2 c2, .slice none 0 0, .slice none 0 0] 30)).cell 4; simp only [List.getElem?_cons_zero, List.getElem?_cons_succ] at y4 y5; have hk2 := hk1.trans' (box2 w1 (.cells #[.int .i64 0, .bool (decide (x < 0)), .slice A2 n2 c2, .slice none 0 0, .slice none 0 0] 30)); obtain ⟨xs, hown, hels⟩ := HROW.out.keep hk2; have hown0 := hown; rewrite [HACC.out] at hown; have HOWN := Lib.hid hown; have hbs : w.heap.size + 1 + 1 ≤ w1.heap.size := (by have := p1.lt; omega); clear hown; go_simp)
        | (refine step_append_cln (by rfl) _ _ 28 (by rfl) (w.heap.size + 1 + 1) 30 i0 (.agg #[.int .i64 0, .bool false, .slice none 0 0, .slice none 0 0, .slice none 0 0]) 5 88 Tryz.underlying28 hi hz0 hz1 hz2 rfl rfl (.slice A1 k c1) k xs (by rfl) HOWN.out ⟨w1.heap.size, 0, none⟩ 1 1 [.int .i64 0, .bool (decide (x < 0)), .slice A2 n2 c2, .slice none 0 0, .slice none 0 0] (by rfl) rfl (by decide) (own_cellsV (Own.new w1 _ _)) (by simp [Value.oneCell']) rfl (by simp only [maxLen]; omega) (by omega) (by simp; omega) ?_; intro V' w6 hown6 hgrow hat; obtain ⟨A6, c6, rfl, -⟩ := hown6.1.sl; have p6 := (p1.alloc (.cells #[.int .i64 0, .bool (decide (x < 0)), .slice A2 n2 c2, .slice none 0 0, .slice none 0 0] 30)).grown hgrow (fun e => by have := (hown0.blk _ e.symm).1; omega); have x6 := p6.cell 4; have f6 := p6.frozen 4; simp only [List.getElem?_cons_zero, List.getElem?_cons_succ] at x6))
      all_goals
        have hv5 : ValC (fun g => w.heap.size + 1 + 1 ≤ g ∧ some g ≠ (Value.slice A1 k c1).ownBlock) 70000 (w1.alloc (.cells #[.int .i64 0, .bool (decide (x < 0)), .slice A2 n2 c2, .slice none 0 0, .slice none 0 0] 30)) (intT x) [.int .i64 0, .bool (decide (x < 0)), .slice A2 n2 c2, .slice none 0 0, .slice none 0 0] := (valC_int (hV.below (box2 w1 _)) (by omega)).mono (fun _ h _ => h.elim)
        have r6 : RowV 70000 w6 (w.heap.size + 1 + 1) (.slice A6 (k + 1) c6) (acc ++ [intT x]) := RowV.grow (l := acc) hown0 hels hv5 (by rw [HACC.out]; exact hown6) hgrow hat
        have q6 := (((Own.drew q).below hk1).alloc (.cells #[.int .i64 0, .bool (decide (x < 0)), .slice A2 n2 c2, .slice none 0 0, .slice none 0 0] 30)).grown hgrow (fun e => by have := (hown0.blk _ e.symm).1; omega)
        have q7 := q6.far (p := ⟨w.heap.size + 1, 4, none⟩) (by simp only; omega) (.slice A6 (k + 1) c6)
        have s7 := same32_set p6 rfl 4 (.slice A6 (k + 1) c6)
        have r7 := r6.put (p := ⟨w.heap.size + 1, 4, none⟩) (by simp only; omega) (.slice A6 (k + 1) c6) s7
        have p7 := p6.set 4 (.slice A6 (k + 1) c6)
        have hk6 : Keeps w w6 := ((Keeps.trans' (Below.drew hkw) hk2)).grown hgrow (Keeps.trans' (Below.drew hkw) hk2).size (fun g e => by have := (hown0.blk _ e).1; omega)
        have hk7 := hk6.set (p := ⟨w.heap.size + 1, 4, none⟩) (by simp only; omega) (.slice A6 (k + 1) c6)
        rw [← HTK.out] at r7
        have hrel2 : OfInv w l (.int .i64 ((k + 1 : Nat) : Int)) (w6.setCell ⟨w.heap.size + 1, 4, none⟩ (.slice A6 (k + 1) c6)) := ⟨k + 1, A6, c6, by omega, rfl, q7, p7, r7, hk7⟩
        have HREL := Lib.hid hrel2
        clear hrel2 q7 p7 r7 hk7 s7 r6 hv5
        go_wp2
        go_roundw
        case rel => exact HREL.out
        case measure => simp [intOf]; omega
    · have hkl2 : (l.length : Int) ≤ k := by omega
      have hdk : decide ((k : Int) < (l.length : Int)) = false := decide_eq_false (by omega)
      rw [List.take_of_length_le (by omega)] at hrow
      have hrow2 := hrow
      have HROW := Lib.hid hrow2
      have hke : k = l.length := by omega
      have HKE := Lib.hid hke
      clear hrow hrow2 hlt hke
      have p0 := p.cell 0
      have p1 := p.cell 1
      have p2 := p.cell 2
      have p3 := p.cell 3
      have p4 := p.cell 4
      simp only [List.getElem?_cons_zero, List.getElem?_cons_succ] at p0 p1 p2 p3 p4
      have x0 := q.cell 0
      have x1 := q.cell 1
      have x2 := q.cell 2
      have x3 := q.cell 3
      have x4 := q.cell 4
      have f0 := q.frozen 0
      have f1 := q.frozen 1
      have f2 := q.frozen 2
      have f3 := q.frozen 3
      have f4 := q.frozen 4
      simp only [List.getElem?_cons_zero, List.getElem?_cons_succ] at x0 x1 x2 x3 x4
      go_wp2
      have r5 := q.put5 (a := .int .i64 2) (x := .bool false) (y := .slice none 0 0) (z := .slice none 0 0) (v := .slice A1 k c1)
      have r0 := r5.cell 0
      have r1 := r5.cell 1
      have r2 := r5.cell 2
      have r3 := r5.cell 3
      have r4 := r5.cell 4
      simp only [List.getElem?_cons_zero, List.getElem?_cons_succ] at r0 r1 r2 r3 r4
      refine bodyPost_ret (v := .agg #[.int .i64 2, .bool false, .slice none 0 0, .slice none 0 0, .slice A1 k c1]) (by simp [results, Tryz.results14, go_sem, r0, r1, r2, r3, r4]) rfl ?_
      obtain ⟨A', c', e, hcap, hE⟩ := HROW.out.els
      rw [List.length_map, ← HKE.out] at e
      cases e
      have hsame := set5_same32 (a := .int .i64 2) (x := .bool false) (y := .slice none 0 0) (z := .slice none 0 0) (v := .slice A1 k c1) q rfl rfl
      have hE2 : ElsC anyB 70000 (set5 wr w.heap.size (.int .i64 2) (.bool false) (.slice none 0 0) (.slice none 0 0) (.slice A1 k c1)) A1 (l.map intT) := hE.map (fun g hg _ => set5_block wr w.heap.size _ _ _ _ _ (by simp only [newB] at hg; omega)) hsame (fun _ _ _ => trivial) (Nat.le_refl _)
      have hmk := ValC.make (k := 2) (n := false) (g := []) (x := []) (N := 70000) (ok := anyB) (G := .slice none 0 0) (T := .slice none 0 0) (l := l.map intT) (L := A1) (c := c1) ⟨by simp, by simp, by rw [List.length_map]; omega⟩ U32.nil SlK.nil hcap hE2
      rw [List.length_map, ← HKE.out] at hmk
      exact ⟨_, rfl, hmk, keeps5 hkw (Nat.le_refl _) _ _ _ _ _⟩
end Go.Proofs.YtomjnjpehokjbaaGreatDoor

namespace Go.Proofs.YtomjnjpehokjbaaGreatDoor
open Go.RowKit Go.Shelf

theorem lenI_int {z : Int} (h : -9223372036854775808 ≤ z ∧ z ≤ 9223372036854775807) : lenI z ≤ 900000 := by
  unfold lenI
  have := dig_length_le (n := z.natAbs) (k := 3) (by omega)
  omega
theorem least_sign (z : Int) : (z < -9223372036854775808 ∧ (z - -9223372036854775808).sign = -1) ∨ (-9223372036854775808 ≤ z ∧ 0 ≤ (z - -9223372036854775808).sign) := by
  rcases Int.lt_or_le z (-9223372036854775808) with h | h
  · exact .inl ⟨h, Int.sign_eq_neg_one_of_neg (by omega)⟩
  · refine .inr ⟨h, ?_⟩
    rcases Int.lt_or_eq_of_le h with h | h
    · rw [Int.sign_eq_one_of_pos (by omega)]; omega
    · subst h; simp
theorem most_sign (z : Int) : (9223372036854775807 < z ∧ (z - 9223372036854775807).sign = 1) ∨ (z ≤ 9223372036854775807 ∧ (z - 9223372036854775807).sign ≤ 0) := by
  rcases Int.lt_or_le 9223372036854775807 z with h | h
  · exact .inl ⟨h, Int.sign_eq_one_of_pos (by omega)⟩
  · refine .inr ⟨h, ?_⟩
    rcases Int.lt_or_eq_of_le h with h | h
    · rw [Int.sign_eq_neg_one_of_neg (by omega)]; omega
    · subst h; simp
set_option maxRecDepth 100000 in
set_option maxHeartbeats 1000000 in
theorem rsmall_num (z : Int) (V : Value) (w : World) (h : IntNum w V z) :
    Calls Tryz.prog 41 #[V] w fun e w' => e = .returned (smallV z) ∧ Keeps w w' := by
  obtain ⟨b0, v0, rfl, hn0⟩ : ∃ b0 v0, V = .agg #[.bool b0, v0] ∧ noU32 v0 = true := by
    obtain ⟨neg, xs, ⟨v, rfl, hv⟩, -⟩ := h
    exact ⟨_, _, rfl, hv.noU⟩
  have hzl : lenI z ≤ 900000 := by obtain ⟨neg, xs, -, rfl, hl⟩ := h; have := lenI_cnt neg xs; omega
  have hX := Own.new w 27 [.bool b0, v0]
  have hkk := box2 w (.cells #[.bool b0, v0] 27)
  have hV := Lib.hid (rvalue_num (h.below hkk))
  have HN0 := Lib.hid hn0
  clear hn0
  go_enter Tryz.func41, Tryz.ntmps41
  go_wp2_with fail
  refine hV.out.mono ?_
  rintro e w1 ⟨V1, rfl, hr1, hk1⟩
  obtain ⟨A, n, c, rfl, hv1⟩ := hr1.open_
  have hX1 := hX.below hk1
  have x0 := hX1.c0
  have x1 := hX1.c1
  have x2 := hX1.frozen 0
  have x3 := hX1.frozen 1
  have hk2 := hkk.trans' hk1
  go_wp2_with fail
  have hX2 := hX1.two (.bool (decide (z < 0))) (.slice A n c)
  have hr2 := hr1.two (x' := .bool (decide (z < 0))) (y' := .slice A n c) hX1 rfl HN0.out rfl
  have hk3 := (hk2.set (p := ⟨w.heap.size, 0, none⟩) (by simp) (.bool (decide (z < 0)))).set (p := ⟨w.heap.size, 1, none⟩) (by simp) (.slice A n c)
  clear hX1 x0 x1 x2 x3 hr1 hv1 hk2 hX hV hkk h
  generalize (w1.setCell ⟨w.heap.size, 0, none⟩ (.bool (decide (z < 0)))).setCell ⟨w.heap.size, 1, none⟩ (.slice A n c) = W2 at *
  clear hk1
  refine (rof_any _ _ (by omega) (by omega)).mono ?_
  rintro e w3 ⟨V3, rfl, hr3, hk4⟩
  obtain ⟨A3, n3, c3, rfl, hv3⟩ := hr3.open_
  rw [show decide ((-9223372036854775808 : Int) < 0) = true from rfl] at hr3
  go_wp2_with fail
  refine (rof_any _ _ (by omega) (by omega)).mono ?_
  rintro e w4 ⟨V4, rfl, hr4, hk5⟩
  obtain ⟨A4, n4, c4, rfl, hv4⟩ := hr4.open_
  rw [show decide ((9223372036854775807 : Int) < 0) = false from rfl] at hr4
  have hX4 := (hX2.below hk4).below hk5
  have hk6 := (hk3.trans' hk4).trans' hk5
  have hr2' := (hr2.below hk4).below hk5
  have hz4 := hX4.lt
  have x0 := hX4.c0
  have x1 := hX4.c1
  have kb := keep2 w4 (.cells #[.bool true, .slice A3 n3 c3] 27) (.cells #[.bool false, .slice A4 n4 c4] 27)
  have hc1 := Lib.hid (rcompare_num ((hr2'.below kb).num hzl) (((hr3.below hk5).below kb).num (lenI_int (by omega))))
  have hmost := own2 w4 (.cells #[.bool true, .slice A3 n3 c3] 27) 27 [.bool false, .slice A4 n4 c4]
  have hX5 := hX4.below kb
  have hr5 := (hr4.below kb).num (lenI_int (by omega))
  have hr6 := hr2'.below kb
  have hk7 := hk6.trans' kb
  clear hX2 hk3 hr2 hk4 hk5 hv3 hv4 hX4 hk6 hr2'
  obtain ⟨s1, hs1⟩ : ∃ s, (z - -9223372036854775808).sign = s := ⟨_, rfl⟩
  rw [hs1] at hc1
  have L := least_sign z
  rw [hs1] at L
  clear hs1
  rcases L with ⟨hL, e1⟩ | ⟨hL, e1⟩
  · have hd : s1 < 0 := by omega
    have HL := Lib.hid hL
    clear hL e1
    go_wp2_with fail
    refine hc1.out.mono ?_
    rintro e w5 ⟨rfl, hk8⟩
    go_wp2
    go_ret2
    exact ⟨show Ending.returned (.tuple #[.int .i64 0, .bool false]) = .returned (smallV z) by rw [smallV_out (by have := HL.out; omega)], hk7.trans' hk8⟩
  · have HL := Lib.hid hL
    clear hL
    have hd1 : decide (s1 < 0) = false := decide_eq_false (by omega)
    go_wp2_with fail
    refine hc1.out.mono ?_
    rintro e w5 ⟨rfl, hk8⟩
    have hX6 := hX5.below hk8
    have hm6 := hmost.below hk8
    have hr7 := hr6.below hk8
    have hk9 := hk7.trans' hk8
    have hc2 := Lib.hid (rcompare_num (hr7.num hzl) (hr5.below hk8))
    clear x0 x1 hX5 hmost hr6 hk7 hr5 hk8 kb
    have x0 := hX6.c0
    have x1 := hX6.c1
    have y0 := hm6.c0
    have y1 := hm6.c1
    obtain ⟨s2, hs2⟩ : ∃ s, (z - 9223372036854775807).sign = s := ⟨_, rfl⟩
    rw [hs2] at hc2
    have M := most_sign z
    rw [hs2] at M
    clear hs2
    rcases M with ⟨hM, e2⟩ | ⟨hM, e2⟩
    · have hd : 0 < s2 := by omega
      have HM := Lib.hid hM
      clear hM e2
      go_wp2_with fail
      refine hc2.out.mono ?_
      rintro e w6 ⟨rfl, hk8⟩
      go_wp2
      go_ret2
      exact ⟨show Ending.returned (.tuple #[.int .i64 0, .bool false]) = .returned (smallV z) by rw [smallV_out (by have := HM.out; omega)], hk9.trans' hk8⟩
    · have HM := Lib.hid hM
      clear hM
      have hd2 : decide (0 < s2) = false := decide_eq_false (by omega)
      go_wp2_with fail
      refine hc2.out.mono ?_
      rintro e w6 ⟨rfl, hk8⟩
      have hX7 := hX6.below hk8
      have hr8 := hr7.below hk8
      have hk10 := hk9.trans' hk8
      clear x0 x1 y0 y1 hX6 hr7 hk9 hm6 hc1 hc2 hk8
      have x0 := hX7.c0
      have x1 := hX7.c1
      obtain ⟨m, hm⟩ : ∃ m, z.natAbs = m := ⟨_, rfl⟩
      have hu : U32 w6 (.slice A n c) (dig m) := by
        obtain ⟨v', e', hu⟩ := hr8
        cases e'
        rwa [hm] at hu
      obtain ⟨A', n', c', e', e1', hc, hcm, h0, hr⟩ := hu.open_
      cases e'
      have hm3 : m ≤ top63 := by have := HL.out; have := HM.out; unfold top63; omega
      have hn3 : n ≤ 3 := by have := dig_length_le (n := m) (k := 3) (by unfold top63 at hm3; omega); omega
      have HE := Lib.hid e1'
      have HA := Lib.hid hm
      have H3 := Lib.hid hm3
      clear hm e1' hm3 hu
      obtain ⟨b, hb⟩ : ∃ b, decide (z < 0) = b := ⟨_, rfl⟩
      have HB := Lib.hid hb
      rw [hb] at x0 hX7
      clear hb
      cases b with
      | true =>
        have HM3 := Lib.hid (show (m : Int) ≤ 9223372036854775808 by have := H3.out; unfold top63 at this; omega)
        go_wp2
        go_loop [6, 7] (fun x i => ∃ k : Nat, k ≤ n ∧ i = .int .i64 ((n : Int) - 1 - (k : Nat)) ∧ x = .int .i64 (-(val ((dig m).drop (n - k)) : Int))) (fun _ i => (intOf i + 1).toNat)
        case atStart => exact ⟨0, by omega, by go_num, by rw [List.drop_of_length_le (by rw [HE.out]; omega)]; rfl⟩
        case round =>
          obtain ⟨k, hk, rfl, rfl⟩ := hrel
          by_cases hlt : k < n
          · have e : (n : Int) - 1 - (k : Int) = ((n - 1 - k : Nat) : Int) := by omega
            rw [e]
            clear e
            have hdv : val ((dig m).drop (n - (k + 1))) = ix (dig m) (n - 1 - k) + 1000000000 * val ((dig m).drop (n - k)) := by
              rw [val_drop (dig m) (n - (k + 1)) (by rw [HE.out]; omega), show n - (k + 1) = n - 1 - k by omega, show n - 1 - k + 1 = n - k by omega]
            have hle : val ((dig m).drop (n - (k + 1))) ≤ m := by
              have := val_split (dig m) (n - (k + 1)) (by rw [HE.out]; omega)
              rw [val_dig] at this
              have h2 := Nat.le_mul_of_pos_left (val ((dig m).drop (n - (k + 1)))) (show 0 < 1000000000 ^ (n - (k + 1)) by exact Nat.pow_pos (by omega))
              omega
            have hdb := (AllB.dig m).ix (n - 1 - k)
            obtain ⟨q, hq⟩ : ∃ q, n - 1 - k = q := ⟨_, rfl⟩
            rw [hq] at hdv hdb ⊢
            have hqn : q < n := by omega
            have h00 : (0 : Int) ≤ (q : Int) := by omega
            have h01 : (q : Int) < (n : Int) := by omega
            obtain ⟨N, hN⟩ : ∃ N, val ((dig m).drop (n - k)) = N := ⟨_, rfl⟩
            obtain ⟨M, hM⟩ : ∃ M, val ((dig m).drop (n - (k + 1))) = M := ⟨_, rfl⟩
            rw [hN] at hdv ⊢
            rw [hM] at hdv hle
            obtain ⟨b1, o1, rfl, hb1, hcell⟩ := hr (by omega)
            have hx : w6.cell? ⟨b1, o1 + q, none⟩ = some (.int .u32 (ix (dig m) q : Nat)) := hcell q hqn
            clear hcell
            generalize ix (dig m) q = d at *
            have hlim : (N : Int) * 1000000000 + (d : Int) ≤ 9223372036854775808 := by have := HM3.out; omega
            have hNb : (N : Int) ≤ 9223372036 := by omega
            have hdb' : (d : Int) < 1000000000 := by omega
            have HQ := Lib.hid hq
            have HD := Lib.hid hdv
            have HMM := Lib.hid hM
            clear hq hdv hM hN hle hdb
            go_wp2
            go_round
            case rel => exact ⟨k + 1, by omega, by have := HQ.out; congr 1; omega, by rw [HMM.out]; have := HD.out; congr 1; omega⟩
            case measure => have := HQ.out; simp [intOf]
          · obtain rfl : k = n := by omega
            go_wp2
            go_ret2
            exact ⟨show Ending.returned (.tuple #[.int .i64 (-(val (dig m) : Int)), .bool true]) = .returned (smallV z) by rw [smallV_in (by have := HL.out; have := HM.out; omega), val_dig, show -(m : Int) = z by have := HA.out; have := HB.out; simp at this; omega], hk10⟩
      | false =>
        have HM3 := Lib.hid (show (m : Int) ≤ 9223372036854775807 by have := HA.out; have := HM.out; have := HB.out; simp at this; omega)
        go_wp2
        go_loop [6, 7] (fun x i => ∃ k : Nat, k ≤ n ∧ i = .int .i64 ((n : Int) - 1 - (k : Nat)) ∧ x = .int .i64 ((val ((dig m).drop (n - k)) : Int))) (fun _ i => (intOf i + 1).toNat)
        case atStart => exact ⟨0, by omega, by go_num, by rw [List.drop_of_length_le (by rw [HE.out]; omega)]; rfl⟩
        case round =>
          obtain ⟨k, hk, rfl, rfl⟩ := hrel
          by_cases hlt : k < n
          · have e : (n : Int) - 1 - (k : Int) = ((n - 1 - k : Nat) : Int) := by omega
            rw [e]
            clear e
            have hdv : val ((dig m).drop (n - (k + 1))) = ix (dig m) (n - 1 - k) + 1000000000 * val ((dig m).drop (n - k)) := by
              rw [val_drop (dig m) (n - (k + 1)) (by rw [HE.out]; omega), show n - (k + 1) = n - 1 - k by omega, show n - 1 - k + 1 = n - k by omega]
            have hle : val ((dig m).drop (n - (k + 1))) ≤ m := by
              have := val_split (dig m) (n - (k + 1)) (by rw [HE.out]; omega)
              rw [val_dig] at this
              have h2 := Nat.le_mul_of_pos_left (val ((dig m).drop (n - (k + 1)))) (show 0 < 1000000000 ^ (n - (k + 1)) by exact Nat.pow_pos (by omega))
              omega
            have hdb := (AllB.dig m).ix (n - 1 - k)
            obtain ⟨q, hq⟩ : ∃ q, n - 1 - k = q := ⟨_, rfl⟩
            rw [hq] at hdv hdb ⊢
            have hqn : q < n := by omega
            have h00 : (0 : Int) ≤ (q : Int) := by omega
            have h01 : (q : Int) < (n : Int) := by omega
            obtain ⟨N, hN⟩ : ∃ N, val ((dig m).drop (n - k)) = N := ⟨_, rfl⟩
            obtain ⟨M, hM⟩ : ∃ M, val ((dig m).drop (n - (k + 1))) = M := ⟨_, rfl⟩
            rw [hN] at hdv ⊢
            rw [hM] at hdv hle
            obtain ⟨b1, o1, rfl, hb1, hcell⟩ := hr (by omega)
            have hx : w6.cell? ⟨b1, o1 + q, none⟩ = some (.int .u32 (ix (dig m) q : Nat)) := hcell q hqn
            clear hcell
            generalize ix (dig m) q = d at *
            have hlim : (N : Int) * 1000000000 + (d : Int) ≤ 9223372036854775807 := by have := HM3.out; omega
            have hNb : (N : Int) ≤ 9223372036 := by omega
            have hdb' : (d : Int) < 1000000000 := by omega
            have HQ := Lib.hid hq
            have HD := Lib.hid hdv
            have HMM := Lib.hid hM
            clear hq hdv hM hN hle hdb
            go_wp2
            go_round
            case rel => exact ⟨k + 1, by omega, by have := HQ.out; congr 1; omega, by rw [HMM.out]; have := HD.out; congr 1; omega⟩
            case measure => have := HQ.out; simp [intOf]
          · obtain rfl : k = n := by omega
            go_wp2
            go_ret2
            exact ⟨show Ending.returned (.tuple #[.int .i64 ((val (dig m) : Int)), .bool true]) = .returned (smallV z) by rw [smallV_in (by have := HL.out; have := HM.out; omega), val_dig, show (m : Int) = z by have := HA.out; have := HB.out; simp at this; omega], hk10⟩
end Go.Proofs.YtomjnjpehokjbaaGreatDoor

namespace Go.Proofs.YtomjnjpehokjbaaGreatDoor
open Go.RowKit Go.Shelf
theorem any_take_n {l : List Tr} {k : Nat} {x : Tr} (h : l[k]? = some x) : (l.take (k + 1)).any notInt = ((l.take k).any notInt || notInt x) := by
  obtain ⟨h1, rfl⟩ := List.getElem?_eq_some_iff.1 h
  rw [List.take_succ_eq_append_getElem h1, List.any_append]
  simp
theorem any_of_take {l : List Tr} {k : Nat} (h : (l.take k).any notInt = true) : l.any notInt = true := by
  obtain ⟨x, hx, h2⟩ := List.any_eq_true.1 h
  exact List.any_eq_true.2 ⟨x, List.mem_of_mem_take hx, h2⟩
set_option maxRecDepth 100000 in
set_option maxHeartbeats 4000000 in
theorem rtoInts_any {t : Tr} {cs : List Value} {w : World} (hv : ValC anyB 800000 w t cs) (hd : depT t ≤ 1000) : Calls Tryz.prog 13 #[.agg cs.toArray] w (ToIPost t w) := by
  obtain ⟨k, n, g, x, l⟩ := t
  obtain ⟨A, n1, c1, B, n2, c2, L, c, rfl, ⟨hbg, hbx, hbl⟩, ⟨rfl, -⟩, ⟨rfl, -⟩, -, hE⟩ := hv.open_
  obtain ⟨W1, hW1⟩ : ∃ W1, w.alloc (.cells #[.int .i64 k, .bool n, .slice A g.length c1, .slice B x.length c2, .slice L l.length c] 30) = W1 := ⟨_, rfl⟩
  have hk1 : Keeps w W1 := hW1 ▸ box2 w _
  have q1 : Own W1 w.heap.size 30 [.int .i64 k, .bool n, .slice A g.length c1, .slice B x.length c2, .slice L l.length c] := hW1 ▸ Own.new w _ _
  have HF := Lib.hid (rformed_any (N := 800000) (by omega) _ _ W1 (hv.keep hk1))
  have HVD := Lib.hid (vld_frm (.mk k n g x l) 8)
  have HV := Lib.hid (hv.keep hk1)
  have HD := Lib.hid hd
  have HE := Lib.hid hE
  have hlI : (l.length : Int) ≤ 800000 := by omega
  have h1 : ∀ b, (vldD 8 (.mk k n g x l) && (k == 2) && !l.any notInt) = b → Hid ((vldD 8 (.mk k n g x l) && ((Tr.mk k n g x l).kind == 2) && !(Tr.mk k n g x l).ls.any notInt) = b) := fun b h => Lib.hid h
  clear hv hE hd
  have x0 := q1.cell 0
  have x1 := q1.cell 1
  have x2 := q1.cell 2
  have x3 := q1.cell 3
  have x4 := q1.cell 4
  simp only [List.getElem?_cons_zero, List.getElem?_cons_succ] at x0 x1 x2 x3 x4
  cases hf : frmT (.mk k n g x l) with
  | false =>
    have HN := Lib.hid (toIC_1 (h1 false (by rw [HVD.out, hf]; rfl)).out)
    rw [hf] at HF
    clear hf h1
    go_enter Tryz.func13, Tryz.ntmps13
    go_wp2_with fail
    refine HF.out.mono ?_
    rintro e w2 ⟨rfl, hk2⟩
    go_wp2
    go_ret2
    exact toI_err HN.out (by omega) (hk1.trans' hk2)
  | true =>
    rw [hf] at HF HVD
    rw [Bool.true_and] at HVD
    clear hf
    obtain ⟨dp, hdp⟩ : ∃ dp, depT (.mk k n g x l) = dp := ⟨_, rfl⟩
    have HDP := Lib.hid hdp
    rw [hdp] at HVD
    have hdpI : (dp : Int) ≤ 1000 := by have := HD.out; omega
    clear hdp
    by_cases hd8 : dp ≤ 8
    · have t1 : decide ((8 : Int) < (dp : Int)) = false := decide_eq_false (by omega)
      rw [decide_eq_true hd8] at HVD
      clear hd8
      cases hk : (k == 2) with
      | false =>
        have HN := Lib.hid (toIC_1 (h1 false (by rw [hk, Bool.and_false]; rfl)).out)
        have hk' : (k != 2) = true := by rw [bne, hk]; rfl
        clear hk h1
        go_enter Tryz.func13, Tryz.ntmps13
        go_wp2_with fail
        refine HF.out.mono ?_
        rintro e w2 ⟨rfl, hk2⟩
        have HDD := Lib.hid (rdepth_any (N := 800000) (by omega) _ _ w2 (HV.out.keep hk2) HD.out)
        rw [HDP.out] at HDD
        have q2 := q1.below hk2
        clear x0 x1 x2 x3 x4
        have x0 := q2.cell 0
        have x1 := q2.cell 1
        have x2 := q2.cell 2
        have x3 := q2.cell 3
        have x4 := q2.cell 4
        simp only [List.getElem?_cons_zero, List.getElem?_cons_succ] at x0 x1 x2 x3 x4
        go_wp2_with fail
        refine HDD.out.mono ?_
        rintro e w3 ⟨rfl, hk3⟩
        have q3 := q2.below hk3
        clear x0 x1 x2 x3 x4
        have x0 := q3.cell 0
        have x1 := q3.cell 1
        have x2 := q3.cell 2
        have x3 := q3.cell 3
        have x4 := q3.cell 4
        simp only [List.getElem?_cons_zero, List.getElem?_cons_succ] at x0 x1 x2 x3 x4
        go_wp2
        go_ret2
        exact toI_err HN.out (by omega) ((hk1.trans' hk2).trans' hk3)
      | true =>
        have hk' : (k != 2) = false := by rw [bne, hk]; rfl
        go_enter Tryz.func13, Tryz.ntmps13
        go_wp2_with fail
        refine HF.out.mono ?_
        rintro e w2 ⟨rfl, hk2⟩
        have HDD := Lib.hid (rdepth_any (N := 800000) (by omega) _ _ w2 (HV.out.keep hk2) HD.out)
        rw [HDP.out] at HDD
        have q2 := q1.below hk2
        clear x0 x1 x2 x3 x4
        have x0 := q2.cell 0
        have x1 := q2.cell 1
        have x2 := q2.cell 2
        have x3 := q2.cell 3
        have x4 := q2.cell 4
        simp only [List.getElem?_cons_zero, List.getElem?_cons_succ] at x0 x1 x2 x3 x4
        go_wp2_with fail
        refine HDD.out.mono ?_
        rintro e w3 ⟨rfl, hk3⟩
        have q3 := q2.below hk3
        have hkw3 := (hk1.trans' hk2).trans' hk3
        have H1 := Lib.hid h1
        have HK2 := Lib.hid hk
        clear h1 hk q2
        clear x0 x1 x2 x3 x4
        have x0 := q3.cell 0
        have x1 := q3.cell 1
        have x2 := q3.cell 2
        have x3 := q3.cell 3
        have x4 := q3.cell 4
        simp only [List.getElem?_cons_zero, List.getElem?_cons_succ] at x0 x1 x2 x3 x4
        go_wp2
        go_loop [4] (fun i => ∃ j : Nat, j ≤ l.length ∧ i = .int .i64 (j : Nat) ∧ Hid ((l.take j).any notInt = false)) (fun i => l.length - (intOf i).toNat)
        case atStart => exact ⟨0, Nat.zero_le _, rfl, Lib.hid (by simp)⟩
        case round =>
          obtain ⟨j, hj, rfl, HA⟩ := hrel
          by_cases hlt : j < l.length
          · have hjI : (j : Int) < l.length := by omega
            obtain ⟨y, hy⟩ : ∃ y, l[j]? = some y := ⟨_, List.getElem?_eq_getElem hlt⟩
            obtain ⟨bb, oo, k0, n0, A0, m0, d0, B0, l0, e0, D0, j0, f0, rfl, -, hbs, ⟨g0, g1, g2, g3, g4⟩, hvy⟩ := (HE.out.below hkw3).get5 hy
            obtain ⟨ky, ny, gy, xy, ly⟩ := y
            obtain ⟨A9, n9, c9, B9, m9, d9, L9, e9, ee, -, ⟨rfl, -⟩, -, -, -⟩ := hvy.open_
            simp only [List.cons.injEq, and_true, Value.int.injEq, Value.bool.injEq, Value.slice.injEq, true_and] at ee
            obtain ⟨rfl, rfl, ⟨rfl, rfl, rfl⟩, -⟩ := ee
            have HT := Lib.hid (any_take_n hy)
            clear hy hvy
            by_cases hz : k0 = 0
            · have hni : notInt (.mk k0 n0 gy xy ly) = false := by rw [hz]; rfl
              have tz : (k0 != 0) = false := by rw [hz]; rfl
              have HTA : Hid ((l.take (j + 1)).any notInt = false) := Lib.hid (by rw [HT.out, HA.out, hni]; rfl)
              clear hz hni
              go_wp2
              go_round
              case rel => exact ⟨j + 1, by omega, by go_num, HTA⟩
              case measure => simp [intOf]; omega
            · have tz : (k0 != 0) = true := by simpa using hz
              have hni : notInt (.mk k0 n0 gy xy ly) = true := tz
              have HN := Lib.hid (toIC_1 (H1.out false (by rw [any_of_take (by rw [HT.out, hni]; simp)]; simp)).out)
              clear hz hni
              go_wp2
              go_ret2
              exact toI_err HN.out (by omega) hkw3
          · obtain rfl : j = l.length := by omega
            have hta := HA.out
            rw [List.take_length] at hta
            have HOK := Lib.hid (H1.out true (by rw [HVD.out, HK2.out, hta]; rfl)).out
            obtain ⟨W4, hW4⟩ : ∃ W4, w3.alloc (.cells #[] 3) = W4 := ⟨_, rfl⟩
            have hk4 : Keeps w3 W4 := hW4 ▸ box2 w3 _
            have hown4 : W4.ownsRow w3.heap.size 3 1 (.slice (some ⟨w3.heap.size, 0, none⟩) 0 0) 0 (i64s []) := hW4 ▸ World.ownsRow_made w3 #[] 0 (Nat.le_refl _) (by simp only [maxLen]; omega) rfl
            have q4 := q3.below hk4
            have hkw4 := hkw3.trans' hk4
            have HOWN := Lib.hid hown4
            clear hown4 hta HA hlt hj
            have y4 := q4.cell 4
            simp only [List.getElem?_cons_zero, List.getElem?_cons_succ] at y4
            obtain ⟨i0, hi, hz0, hz1, hz2⟩ := info_parts info_int
            go_wp2
            go_loopw [6, 5] (fun i V wr => ∃ k : Nat, k ≤ l.length ∧ i = .int .i64 (k : Nat) ∧ wr.ownsRow w3.heap.size 3 1 V k (i64s ((l.take k).map trZ)) ∧ Keeps w3 wr ∧ Hid (((l.take k).map trZ).all in64 = true)) (fun i _ _ => l.length - (intOf i).toNat)
            case atStart => exact ⟨0, Nat.zero_le _, rfl, HOWN.out, hk4, Lib.hid (by simp)⟩
            case round =>
              clear HOWN
              obtain ⟨j, hj, rfl, hown, hkr, HA⟩ := hrel
              have hkw := hkw3.trans' hkr
              have qr := q3.below hkr
              clear x0 x1 x2 x3 x4
              have x0 := qr.cell 0
              have x1 := qr.cell 1
              have x2 := qr.cell 2
              have x3 := qr.cell 3
              have x4 := qr.cell 4
              simp only [List.getElem?_cons_zero, List.getElem?_cons_succ] at x0 x1 x2 x3 x4
              by_cases hlt : j < l.length
              · have hjI : (j : Int) < l.length := by omega
                obtain ⟨y, hy⟩ : ∃ y, l[j]? = some y := ⟨_, List.getElem?_eq_getElem hlt⟩
                obtain ⟨bb, oo, k0, n0, A0, m0, d0, B0, l0, e0, D0, j0, f0, rfl, -, hbs, ⟨g0, g1, g2, g3, g4⟩, hvy⟩ := (HE.out.below hkw).get5 hy
                obtain ⟨ky, ny, gy, xy, ly⟩ := y
                obtain ⟨A9, n9, c9, B9, m9, d9, L9, e9, ee, ⟨hb9, -, -⟩, ⟨rfl, hG⟩, -, -, -⟩ := hvy.open_
                simp only [List.cons.injEq, and_true, Value.int.injEq, Value.bool.injEq, Value.slice.injEq, true_and] at ee
                obtain ⟨rfl, rfl, ⟨rfl, rfl, rfl⟩, -⟩ := ee
                have HS := Lib.hid (rsmall_num _ (.agg #[.bool n0, .slice A0 gy.length d0]) wr ⟨n0, gy, ⟨_, rfl, hG⟩, rfl, by omega⟩)
                have HT := Lib.hid (all_take_z hy)
                have htk : (l.take (j + 1)).map trZ = (l.take j).map trZ ++ [cnt n0 gy] := by
                  obtain ⟨h1, h2⟩ := List.getElem?_eq_some_iff.1 hy
                  rw [List.take_succ_eq_append_getElem h1, List.map_append, h2]
                  rfl
                have HTK := Lib.hid htk
                have hjr : (trZ (.mk k0 n0 gy xy ly)) = cnt n0 gy := rfl
                rw [hjr] at HT
                have HOW := Lib.hid hown
                obtain ⟨A7, c7, rfl, -⟩ := hown.sl
                clear hy hvy hG htk hjr hown
                obtain ⟨z, hz⟩ : ∃ z, cnt n0 gy = z := ⟨_, rfl⟩
                rw [hz] at HS HT HTK
                clear hz
                by_cases hin : -9223372036854775808 ≤ z ∧ z ≤ 9223372036854775807
                · have hin64 : in64 z = true := decide_eq_true hin
                  have HTA : Hid (((l.take (j + 1)).map trZ).all in64 = true) := Lib.hid (by rw [HT.out, HA.out, hin64]; rfl)
                  rw [smallV_in hin] at HS
                  clear hin64 hin
                  go_wp2_with fail
                  refine HS.out.mono ?_
                  rintro e w6 ⟨rfl, hk6⟩
                  have hkr6 := hkr.trans' hk6
                  have HO6 := Lib.hid (HOW.out.keeps hk6)
                  have hkr7 := hkr6.trans' (box2 w6 (.cells #[.int .i64 z] 3))
                  go_wp2_with (at_builtin; refine wpList_append_own _ rfl _ _ 36 rfl w3.heap.size 3 i0 (.int .i64 0) 1 8 Tryz.underlying36 hi hz0 hz1 hz2 rfl (by decide) _ j _ rfl (HO6.out.keeps (box2 w6 (.cells #[.int .i64 z] 3))) ⟨w6.heap.size, 0, none⟩ 1 1 [.int .i64 z] rfl rfl (own_cellsV (Own.new w6 _ _)) (by simp [Value.oneCell']) (by simp only [maxLen]; omega) (by omega) (by have := hkr7.size; omega) ?_; intro V' w8 hown8 hgrow hnil; obtain ⟨A8, c8, rfl, -⟩ := hown8.sl)
                  have hkr8 : Keeps w3 w8 := hkr7.grown hgrow hkr7.size (fun b e => (HO6.out.lt b e).1)
                  rw [← i64s_snoc, ← HTK.out] at hown8
                  have HO8 := Lib.hid hown8
                  clear hown8
                  go_wp2
                  go_roundw
                  case rel => exact ⟨j + 1, by omega, by go_num, HO8.out, hkr8, HTA⟩
                  case measure => simp [intOf]; omega
                · have hin64 : in64 z = false := decide_eq_false hin
                  have HN := Lib.hid (toIC_2 HOK.out (not_all_z (l := l) (k := j + 1) (by rw [HT.out, hin64]; simp)))
                  rw [smallV_out hin] at HS
                  clear hin64 hin
                  go_wp2_with fail
                  refine HS.out.mono ?_
                  rintro e w6 ⟨rfl, hk6⟩
                  go_wp2
                  go_ret2
                  exact toI_err HN.out (by omega) (hkw.trans' hk6)
              · obtain rfl : j = l.length := by omega
                have hta := HA.out
                rw [List.take_length] at hown hta
                have HN := Lib.hid (toIC_ok HOK.out hta)
                obtain ⟨A7, c7, rfl, -⟩ := hown.sl
                have HOW := Lib.hid hown
                clear hown hta
                go_wp2
                go_ret2
                have hL : toIL (.mk k n g x l) = l.map trZ := if_pos HN.out
                exact ⟨A7, c7, by rw [hL, HN.out, List.length_map]; first | done | rfl, by rw [hL]; exact IRow.of_own HOW.out (by rw [List.length_map]), hkw⟩
    · have t1 : decide ((8 : Int) < (dp : Int)) = true := decide_eq_true (by omega)
      have HN := Lib.hid (toIC_1 (h1 false (by rw [HVD.out, decide_eq_false hd8]; rfl)).out)
      clear hd8 h1
      go_enter Tryz.func13, Tryz.ntmps13
      go_wp2_with fail
      refine HF.out.mono ?_
      rintro e w2 ⟨rfl, hk2⟩
      have HDD := Lib.hid (rdepth_any (N := 800000) (by omega) _ _ w2 (HV.out.keep hk2) HD.out)
      rw [HDP.out] at HDD
      have q2 := q1.below hk2
      clear x0 x1 x2 x3 x4
      have x0 := q2.cell 0
      have x1 := q2.cell 1
      have x2 := q2.cell 2
      have x3 := q2.cell 3
      have x4 := q2.cell 4
      simp only [List.getElem?_cons_zero, List.getElem?_cons_succ] at x0 x1 x2 x3 x4
      go_wp2_with fail
      refine HDD.out.mono ?_
      rintro e w3 ⟨rfl, hk3⟩
      go_wp2
      go_ret2
      exact toI_err HN.out (by omega) ((hk1.trans' hk2).trans' hk3)
end Go.Proofs.YtomjnjpehokjbaaGreatDoor
