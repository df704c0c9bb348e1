/- fiducialref12.read, of a text and of a list: the walk. -/
import Derived.Test.YtomjnjpehokjbaaGreatDoorRRd
import Derived.Test.YtomjnjpehokjbaaGreatDoorMgRefP
namespace Go.Proofs.YtomjnjpehokjbaaGreatDoor
open Go.RowKit Go.Shelf
theorem redP_none {d : Nat} {c : UInt8} {r : List UInt8} {n : Nat} {t : List UInt8} (hc : c ≠ 105) (h : numP 7 0 r = (n, t)) (hn : ∀ m u, t = m :: u → ¬ (u.length + 1 < r.length ∧ m = 58 ∧ n ≤ u.length ∧ (c = 116 ∨ c = 108))) : redP (d + 1) (c :: r) = none := by
  rw [redP_num d hc h]
  cases t with
  | nil => rfl
  | cons m u =>
    have hn2 := hn m u rfl
    simp only
    split
    · rename_i hcd
      rw [if_neg (fun e => hn2 ⟨hcd.1, hcd.2.1, hcd.2.2, .inl e⟩), if_neg (fun e => hn2 ⟨hcd.1, hcd.2.1, hcd.2.2, .inr e⟩)]
    · rfl
theorem redP_txt {d : Nat} {r : List UInt8} {n : Nat} {u : List UInt8} (h : numP 7 0 r = (n, 58 :: u)) (h1 : u.length + 1 < r.length) (hn : n ≤ u.length) : redP (d + 1) (116 :: r) = some (txtT (u.take n), u.drop n) := by
  rw [redP_num d (by decide) h]
  simp only
  rw [if_pos ⟨h1, by simp, hn⟩]
  simp
theorem redP_lst {d : Nat} {r : List UInt8} {n : Nat} {u : List UInt8} (h : numP 7 0 r = (n, 58 :: u)) (h1 : u.length + 1 < r.length) (hn : n ≤ u.length) : redP (d + 1) (108 :: r) = (repP (redP d) n u).map fun p => (lstT p.1, p.2) := by
  rw [redP_num d (by decide) h]
  simp only
  rw [if_pos ⟨h1, by simp, hn⟩, if_neg (by decide)]
  simp
theorem OwnM.slk {w : World} {base : Nat} {V : Value} {n : Nat} {s : List UInt8} (h : OwnM w base 5 V n (Lib.byteCells s)) (hn : s.length = n) : SlK (newB base) w V n (b8 s) := by
  obtain ⟨-, g, cap, cur, fz, rfl, hb, hg, -, hnc, hcm, hcs, htake⟩ := h
  refine ⟨_, cap, rfl, hnc, hcm, (fun e => by cases e), fun hp => ⟨g, 0, rfl, (Array.getElem?_eq_some_iff.1 hg).1, fun j hj => ?_⟩, fun b o _ e => by cases e; exact hb⟩
  rw [Nat.zero_add, cell_of_row w g j cur _ _ hg]
  have h1 := b8_get s j (by omega)
  rw [← htake, List.getElem?_take, if_pos hj] at h1
  rw [← Array.getElem?_toList]
  exact h1
theorem take_get8 {l : List UInt8} {n j : Nat} (h : j < n) : (l.take n).getD j 0 = l.getD j 0 := by simp [List.getD, h]
/-- what a round of the list's loop keeps -/
def RLInv (d : Nat) (w : World) (xs : List UInt8) (lb n : Nat) (u : List UInt8) (nx i : Value) (wr : World) : Prop :=
  ∃ (k j : Nat) (acc : List Tr) (A : Option Addr) (c : Nat), k ≤ n ∧ i = .int .i64 (k : Nat) ∧ nx = .int .i64 (j : Nat) ∧ j ≤ xs.length ∧ acc.length = k ∧
    Own wr w.heap.size 30 [.int .i64 0, .bool false, .slice none 0 0, .slice none 0 0, .slice none 0 0] ∧
    Own wr lb 30 [.int .i64 2, .bool false, .slice none 0 0, .slice none 0 0, .slice A k c] ∧
    RowV 70000 wr (lb + 1) (.slice A k c) acc ∧ Keeps w wr ∧
    repP (redP d) n u = (repP (redP d) (n - k) (xs.drop j)).map fun p => (acc ++ p.1, p.2)
set_option maxRecDepth 100000 in
set_option maxHeartbeats 4000000 in
theorem red_num (d m : Nat) (hdm : d + m = 8) (IH : RedAt d) {w : World} {A : Option Addr} {c : Nat} {xs : List UInt8} (hb : Byt w A c xs) (hl : xs.length ≤ 1000) {p : Nat} (hp : p < xs.length) (h0 : xs.getD p 0 ≠ 105) :
    Calls Tryz.prog 28 #[.slice A xs.length c, .int .i64 (p : Nat), .int .i64 (m : Nat)] w (RedPost xs (redP (d + 1) (xs.drop p)) w) := by
  obtain ⟨i0, hi, hz0, hz1, hz2⟩ := info_parts info_u8
  obtain ⟨i0v, hiv, hz0v, hz1v, hz2v⟩ := info_parts info_val
  obtain ⟨O, hO⟩ : ∃ O, redP (d + 1) (xs.drop p) = O := ⟨_, rfl⟩
  rw [hO]
  rw [drop_getD hp] at hO
  obtain ⟨ch, hch⟩ : ∃ ch, xs.getD p 0 = ch := ⟨_, rfl⟩
  rw [hch] at hO h0
  obtain ⟨A', c', eA, hnc, hcm, -, hrow, -⟩ := id hb
  cases eA
  obtain ⟨b, o, rfl, hbl, hcell⟩ := id hrow (by omega)
  obtain ⟨W0, hW0⟩ : ∃ W0, w.alloc (.cells #[.int .i64 0, .bool false, .slice none 0 0, .slice none 0 0, .slice none 0 0] 30) = W0 := ⟨_, rfl⟩
  have hk0 : Keeps w W0 := hW0 ▸ box2 w _
  have q0 : Own W0 w.heap.size 30 [.int .i64 0, .bool false, .slice none 0 0, .slice none 0 0, .slice none 0 0] := hW0 ▸ Own.new w _ _
  have hlI : (xs.length : Int) ≤ 1000 := by omega
  have c0 : W0.cell? ⟨b, o + p, none⟩ = some (.int .u8 (ch.toNat : Nat)) := by
    have h1 := hcell p hp
    unfold b8 at h1
    rw [hch] at h1
    exact (hk0.cell (p := ⟨b, o + p, none⟩) hbl).trans h1
  have HCELL := Lib.hid (fun (j : Nat) (hj : j < xs.length) => (hk0.cell (p := ⟨b, o + j, none⟩) hbl).trans (hcell j hj))
  have hnum := rnumber_any (c := c) (hrow.below hk0) (by omega) (p := p + 1) (by omega)
  rw [show (((p + 1 : Nat) : Int)) = (p : Int) + 1 from rfl] at hnum
  have HNUM := Lib.hid hnum
  have HBY := Lib.hid hb
  have HIH := Lib.hid IH
  have hpI : (p : Int) < xs.length := by omega
  have t1 : decide ((xs.length : Int) ≤ (p : Int)) = false := decide_eq_false (by omega)
  have hm8 : m ≤ 8 := by omega
  have t2 : decide ((8 : Int) < (m : Int)) = false := decide_eq_false (by omega)
  have hmI : (m : Int) ≤ 8 := by omega
  have hcmI : (c : Int) ≤ 9223372036854775807 := by unfold maxLen at hcm; omega
  have hncI : (xs.length : Int) ≤ c := by omega
  have t105 : (((ch.toNat : Nat) : Int) == 105) = false := u8_ne (k := 105) h0
  have HO := Lib.hid hO
  have H105 := Lib.hid h0
  have HDM := Lib.hid hdm
  clear hO hrow hcell hb h0 hch hnum IH hdm
  obtain ⟨v, hv⟩ : ∃ v, ch.toNat = v := ⟨_, rfl⟩
  have HVV := Lib.hid hv
  rw [hv] at c0 t105
  clear hv
  have x0 := q0.cell 0
  have x1 := q0.cell 1
  have x2 := q0.cell 2
  have x3 := q0.cell 3
  have x4 := q0.cell 4
  have f0 := q0.frozen 0
  have f1 := q0.frozen 1
  have f2 := q0.frozen 2
  have f3 := q0.frozen 3
  have f4 := q0.frozen 4
  simp only [List.getElem?_cons_zero, List.getElem?_cons_succ] at x0 x1 x2 x3 x4
  go_enter Tryz.func28, Tryz.ntmps28
  go_wp2_with fail
  refine HNUM.out.mono ?_
  rintro e w1 ⟨⟨n, j, rfl, hpj, hjl, hn7, hnm⟩, hw1⟩
  obtain rfl : W0 = w1 := hw1.symm
  have HNM := Lib.hid hnm
  have hjI : (j : Int) ≤ xs.length := by omega
  have hnI : (n : Int) ≤ 9999999 := by omega
  clear hnm hn7
  by_cases h1 : p + 1 < j
  · have hjp : (p : Int) + 1 < (j : Int) := by omega
    have t3 : decide ((p : Int) + 1 < (j : Int)) = true := decide_eq_true hjp
    clear h1
    by_cases h2 : j < xs.length
    · have hjI2 : (j : Int) < xs.length := by omega
      have t4 : decide ((xs.length : Int) ≤ (j : Int)) = false := decide_eq_false (by omega)
      have t4n : (xs.length ≤ j) = False := eq_false (by omega)
      have c2 := HCELL.out j h2
      unfold b8 at c2
      have HD := Lib.hid (drop_getD h2)
      have H2 := Lib.hid h2
      obtain ⟨u2, hu2⟩ : ∃ u2, xs.getD j 0 = u2 := ⟨_, rfl⟩
      rw [hu2] at c2 HD
      clear hu2 h2
      by_cases h58 : u2 = 58
      · subst h58
        simp only [show (58 : UInt8).toNat = 58 from rfl] at c2
        have hnm2 := HNM.out
        rw [HD.out] at hnm2
        have HNM2 := Lib.hid hnm2
        have hlu : (xs.drop (j + 1)).length = xs.length - (j + 1) := List.length_drop
        have HL1 : Hid ((xs.drop (j + 1)).length + 1 < (xs.drop (p + 1)).length) := Lib.hid (by rw [List.length_drop, List.length_drop]; have := H2.out; omega)
        have HLU := Lib.hid hlu
        clear hnm2 hlu
        by_cases h116 : ch = 116
        · obtain rfl : v = 116 := by rw [← HVV.out, h116]; rfl
          clear t105
          by_cases hnu : n ≤ xs.length - (j + 1)
          · have HOO : Hid (O = some (txtT ((xs.drop (j + 1)).take n), xs.drop (j + 1 + n))) := Lib.hid (by
              rw [← HO.out, h116, redP_txt HNM2.out HL1.out (by rw [HLU.out]; exact hnu), List.drop_drop])
            have t5 : decide ((xs.length : Int) - ((j : Int) + 1) < (n : Int)) = false := decide_eq_false (by have := H2.out; omega)
            have hnuI : (j : Int) + 1 + (n : Int) ≤ xs.length := by have := H2.out; omega
            have HJN : Hid (j + 1 + n ≤ xs.length) := Lib.hid (by have := H2.out; omega)
            obtain ⟨s, hs⟩ : ∃ s, (xs.drop (j + 1)).take n = s := ⟨_, rfl⟩
            have hsl : s.length = n := by rw [← hs, List.length_take, HLU.out]; omega
            rw [hs] at HOO
            have HSL := Lib.hid hsl
            have HROW : Hid (∀ i u, (Lib.byteCells s)[i]? = some u → W0.cell? ⟨b, o + (j + 1) + i, none⟩ = some u) := Lib.hid (fun i u hiu => by
              obtain ⟨h3, h4⟩ := b8_cells s i u hiu
              have h5 := HCELL.out (j + 1 + i) (by have := HJN.out; omega)
              have h6 : s.getD i 0 = xs.getD (j + 1 + i) 0 := by
                rw [← hs, take_get8 (by omega)]
                simp [List.getD]
              rw [h3, Nat.add_assoc, h5]
              unfold b8
              rw [h6])
            obtain ⟨W1, hW1⟩ : ∃ W1, W0.alloc (.cells #[] 5) = W1 := ⟨_, rfl⟩
            have hk1 : Keeps W0 W1 := hW1 ▸ box2 W0 _
            have hov : OwnM W1 (w.heap.size + 1) 5 (.slice (some ⟨W0.heap.size, 0, none⟩) 0 0) 0 [] := ⟨rfl, W0.heap.size, 0, #[], (0, 0), rfl, by have := q0.lt; omega, hW1 ▸ heap_alloc_new W0 _, .inl rfl, Nat.le_refl _, Nat.zero_le _, rfl, rfl⟩
            have HOV := Lib.hid hov
            have HK1 := Lib.hid hk1
            have q1 := q0.below hk1
            have hb1 : w.heap.size + 1 ≤ W1.heap.size := q1.lt
            have HBL : Hid (b < W0.heap.size) := Lib.hid (Nat.lt_of_lt_of_le hbl hk0.size)
            have hj1c : (j : Int) + 1 ≤ c := by omega
            clear hs hsl hnu hov hk1 h116
            clear x0 x1 x2 x3 x4 f0 f1 f2 f3 f4
            have x0 := q1.cell 0
            have x1 := q1.cell 1
            have x2 := q1.cell 2
            have x3 := q1.cell 3
            have x4 := q1.cell 4
            have f0 := q1.frozen 0
            have f1 := q1.frozen 1
            have f2 := q1.frozen 2
            have f3 := q1.frozen 3
            have f4 := q1.frozen 4
            simp only [List.getElem?_cons_zero, List.getElem?_cons_succ] at x0 x1 x2 x3 x4
            by_cases hcj : c = j + 1
            · have hn0 : n = 0 := by omega
              have hcj2 : (c : Int) - ((j : Int) + 1) = 0 := by omega
              subst hn0
              have hcjn : c - (j + 1) = 0 := by omega
              have hcj3 : (c = j + 1) = True := eq_true hcj
              clear hcj
              go_wp2_with (at_builtin; refine wpList_append_M rfl _ _ 22 rfl (w.heap.size + 1) 5 i0 (.int .u8 0) Tryz.underlying22 hi hz0 hz1 hz2 rfl _ 0 [] rfl HOV.out (some ⟨b, o, none⟩) 0 (0) (Lib.byteCells s) rfl (by rw [Lib.byteCells, List.length_map, HSL.out]) (fun hn0 => absurd hn0 (by omega)) byte_one (by simp only [maxLen]; omega) (by omega) hb1 ?_)
              intro v' w4 hov4 hgr
              obtain ⟨g, cap, rfl⟩ := hov4.form
              try rw [Nat.zero_add] at hov4 ⊢
              try rw [List.nil_append] at hov4
              have HOV4 := Lib.hid hov4
              have hk4 : Keeps w w4 := (hk0.trans' HK1.out).grown hgr (by omega) (fun g e => by have := (HOV.out.lt g e).1; omega)
              have q4 := q1.grown hgr (fun e => by have := (HOV.out.lt _ e.symm).1; omega)
              clear hov4 q1
              clear x0 x1 x2 x3 x4 f0 f1 f2 f3 f4
              have x0 := q4.cell 0
              have x1 := q4.cell 1
              have x2 := q4.cell 2
              have x3 := q4.cell 3
              have x4 := q4.cell 4
              have f0 := q4.frozen 0
              have f1 := q4.frozen 1
              have f2 := q4.frozen 2
              have f3 := q4.frozen 3
              have f4 := q4.frozen 4
              simp only [List.getElem?_cons_zero, List.getElem?_cons_succ] at x0 x1 x2 x3 x4
              go_wp2
              have r5 := (q4).put5 (a := .int .i64 1) (x := .bool false) (y := .slice none 0 0) (z := .slice (some ⟨g, 0, none⟩) 0 cap) (v := .slice none 0 0)
              have r0 := r5.cell 0
              have r1 := r5.cell 1
              have r2 := r5.cell 2
              have r3 := r5.cell 3
              have r4 := r5.cell 4
              simp only [List.getElem?_cons_zero, List.getElem?_cons_succ] at r0 r1 r2 r3 r4
              refine bodyPost_ret (v := .tuple #[.agg #[.int .i64 1, .bool false, .slice none 0 0, .slice (some ⟨g, 0, none⟩) 0 cap, .slice none 0 0], .int .i64 ((j : Int) + 1 + (0 : Int)), .bool true]) (by simp [results, Tryz.results28, go_sem, r0, r1, r2, r3, r4]) rfl ?_
              rw [HOO.out]
              refine redPost_yes (cs := [.int .i64 1, .bool false, .slice none 0 0, .slice (some ⟨g, 0, none⟩) 0 cap, .slice none 0 0]) (j := j + 1 + 0) (keeps5 hk4 (Nat.le_refl _) _ _ _ _ _) HJN.out ?_
              refine ValC.make (x := s) ⟨by simp, by rw [HSL.out]; omega, by simp⟩ U32.nil ?_ ⟨by simp, by simp [maxLen], fun _ => rfl⟩ ElsC.nil
              rw [HSL.out]
              exact (HOV4.out.slk HSL.out).map (fun k hk _ => set5_block w4 w.heap.size _ _ _ _ _ (by simp only [newB] at hk; omega)) (fun k hk _ => by simp only [newB] at hk ⊢; omega)
            · have hcj3 : (c = j + 1) = False := eq_false hcj
              have hcj2 : j + 1 < c := by omega
              have hTN : ((j : Int) + 1 + (n : Int)).toNat = j + 1 + n := by omega
              have hTS : j + 1 + n - (j + 1) = n := by omega
              clear hcj
              go_wp2_with (at_builtin; refine wpList_append_M rfl _ _ 22 rfl (w.heap.size + 1) 5 i0 (.int .u8 0) Tryz.underlying22 hi hz0 hz1 hz2 rfl _ 0 [] rfl HOV.out (some ⟨b, o + (j + 1), none⟩) n ((c - (j + 1))) (Lib.byteCells s) rfl (by rw [Lib.byteCells, List.length_map, HSL.out]) (fun hn0 => ⟨⟨b, o + (j + 1), none⟩, rfl, fun i u hiu => by rw [Lib.addr_add]; exact (HK1.out.cell (p := ⟨b, o + (j + 1) + i, none⟩) HBL.out).trans (HROW.out i u hiu)⟩) byte_one (by simp only [maxLen]; omega) (by omega) hb1 ?_)
              intro v' w4 hov4 hgr
              obtain ⟨g, cap, rfl⟩ := hov4.form
              try rw [Nat.zero_add] at hov4 ⊢
              try rw [List.nil_append] at hov4
              have HOV4 := Lib.hid hov4
              have hk4 : Keeps w w4 := (hk0.trans' HK1.out).grown hgr (by omega) (fun g e => by have := (HOV.out.lt g e).1; omega)
              have q4 := q1.grown hgr (fun e => by have := (HOV.out.lt _ e.symm).1; omega)
              clear hov4 q1
              clear x0 x1 x2 x3 x4 f0 f1 f2 f3 f4
              have x0 := q4.cell 0
              have x1 := q4.cell 1
              have x2 := q4.cell 2
              have x3 := q4.cell 3
              have x4 := q4.cell 4
              have f0 := q4.frozen 0
              have f1 := q4.frozen 1
              have f2 := q4.frozen 2
              have f3 := q4.frozen 3
              have f4 := q4.frozen 4
              simp only [List.getElem?_cons_zero, List.getElem?_cons_succ] at x0 x1 x2 x3 x4
              go_wp2
              have r5 := (q4).put5 (a := .int .i64 1) (x := .bool false) (y := .slice none 0 0) (z := .slice (some ⟨g, 0, none⟩) n cap) (v := .slice none 0 0)
              have r0 := r5.cell 0
              have r1 := r5.cell 1
              have r2 := r5.cell 2
              have r3 := r5.cell 3
              have r4 := r5.cell 4
              simp only [List.getElem?_cons_zero, List.getElem?_cons_succ] at r0 r1 r2 r3 r4
              refine bodyPost_ret (v := .tuple #[.agg #[.int .i64 1, .bool false, .slice none 0 0, .slice (some ⟨g, 0, none⟩) n cap, .slice none 0 0], .int .i64 ((j : Int) + 1 + (n : Int)), .bool true]) (by simp [results, Tryz.results28, go_sem, r0, r1, r2, r3, r4]) rfl ?_
              rw [HOO.out]
              refine redPost_yes (cs := [.int .i64 1, .bool false, .slice none 0 0, .slice (some ⟨g, 0, none⟩) n cap, .slice none 0 0]) (j := j + 1 + n) (keeps5 hk4 (Nat.le_refl _) _ _ _ _ _) HJN.out ?_
              refine ValC.make (x := s) ⟨by simp, by rw [HSL.out]; omega, by simp⟩ U32.nil ?_ ⟨by simp, by simp [maxLen], fun _ => rfl⟩ ElsC.nil
              rw [HSL.out]
              exact (HOV4.out.slk HSL.out).map (fun k hk _ => set5_block w4 w.heap.size _ _ _ _ _ (by simp only [newB] at hk; omega)) (fun k hk _ => by simp only [newB] at hk ⊢; omega)
          · have HOO : Hid (O = none) := Lib.hid (by
              rw [← HO.out]
              exact redP_none H105.out HNM2.out (fun m u e hcd => hnu (by cases e; have := hcd.2.2.1; rwa [HLU.out] at this)))
            have t5 : decide ((xs.length : Int) - ((j : Int) + 1) < (n : Int)) = true := decide_eq_true (by have := H2.out; omega)
            clear hnu h116
            go_wp2
            have r5 := (q0).put5 (a := .int .i64 0) (x := .bool false) (y := .slice none 0 0) (z := .slice none 0 0) (v := .slice none 0 0)
            have r0 := r5.cell 0
            have r1 := r5.cell 1
            have r2 := r5.cell 2
            have r3 := r5.cell 3
            have r4 := r5.cell 4
            simp only [List.getElem?_cons_zero, List.getElem?_cons_succ] at r0 r1 r2 r3 r4
            refine bodyPost_ret (v := .tuple #[.agg #[.int .i64 0, .bool false, .slice none 0 0, .slice none 0 0, .slice none 0 0], .int .i64 0, .bool false]) (by simp [results, Tryz.results28, go_sem, r0, r1, r2, r3, r4]) rfl ?_
            rw [HOO.out]
            exact redPost_no (keeps5 hk0 (Nat.le_refl _) _ _ _ _ _) ⟨_, _, _, _, _, _, _, _, _, _, _, rfl⟩ _
        · by_cases h108 : ch = 108
          · obtain rfl : v = 108 := by rw [← HVV.out, h108]; rfl
            clear t105
            by_cases hnu : n ≤ xs.length - (j + 1)
            · have HO2 : Hid (O = (repP (redP d) n (xs.drop (j + 1))).map fun p => (lstT p.1, p.2)) := Lib.hid (by
                rw [← HO.out, h108, redP_lst HNM2.out HL1.out (by rw [HLU.out]; exact hnu)])
              have t5 : decide ((xs.length : Int) - ((j : Int) + 1) < (n : Int)) = false := decide_eq_false (by have := H2.out; omega)
              have hn1 : n ≤ 1000 := by omega
              have hnI1 : (n : Int) ≤ 1000 := by omega
              have hj1 : j + 1 ≤ xs.length := by have := H2.out; omega
              clear hnu h116 h108
              go_upto_region 22 with fail
              obtain ⟨W3, hW3⟩ : ∃ W3, W0.alloc (.cells #[.int .i64 2, .bool false, .slice none 0 0, .slice none 0 0, .slice none 0 0] 30) = W3 := ⟨_, rfl⟩
              rw [hW3]
              have hk3 : Keeps W0 W3 := hW3 ▸ box2 W0 _
              have p3 : Own W3 W0.heap.size 30 [.int .i64 2, .bool false, .slice none 0 0, .slice none 0 0, .slice none 0 0] := hW3 ▸ Own.new W0 _ _
              have hinv0 : RLInv d w xs W0.heap.size n (xs.drop (j + 1)) (.int .i64 ((j : Int) + 1)) (.int .i64 ((0 : Nat) : Int)) W3 := ⟨0, j + 1, [], none, 0, Nat.zero_le _, rfl, rfl, hj1, rfl, q0.below hk3, p3, RowV.nil, hk0.trans' hk3, by
                rw [Nat.sub_zero]
                cases repP (redP d) n (xs.drop (j + 1)) with
                | none => rfl
                | some p => rfl⟩
              have HINV := Lib.hid hinv0
              have hbase : w.heap.size < W0.heap.size := q0.lt
              obtain ⟨lb, hlb⟩ : ∃ lb, W0.heap.size = lb := ⟨_, rfl⟩
              rw [hlb] at HINV hbase ⊢
              obtain ⟨U, hU⟩ : ∃ U, xs.drop (j + 1) = U := ⟨_, rfl⟩
              rw [hU] at HINV HO2
              clear hinv0 p3 hk3 hW3 c0 c2 hlb hU hj1 HNUM HCELL q0 hk0
              clear x0 x1 x2 x3 x4 f0 f1 f2 f3 f4
              go_wp2
              go_loopw [13, 16] (fun nx i wr => RLInv d w xs lb n U nx i wr) (fun _ i _ => n - (intOf i).toNat)
              case atStart => exact HINV.out
              case round =>
                clear HINV
                obtain ⟨k, j3, acc, A4, cc, hkn, rfl, rfl, hj3, hacc, q, p', hrow, hkw, hrep⟩ := hrel
                have hwsz := hkw.size
                by_cases hlt : k < n
                · have hkI : (k : Int) < n := by omega
                  have hj3I : (j3 : Int) ≤ xs.length := by omega
                  have hc := HIH.out (m + 1) (by have := HDM.out; omega) wr _ c xs j3 (HBY.out.keep hkw) (by omega) hj3
                  rw [show (((m + 1 : Nat) : Int)) = (m : Int) + 1 from rfl] at hc
                  have HC := Lib.hid hc
                  have HACC := Lib.hid hacc
                  have HREP := Lib.hid hrep
                  have HNK := Lib.hid (show n - k = (n - k - 1) + 1 by omega)
                  clear hacc hrep hc
                  go_wp2_with fail
                  refine HC.out.mono ?_
                  rintro e w3 ⟨hk3, hno, hyes⟩
                  have hk4' := hkw.trans' hk3
                  have q3 := q.below hk3
                  have p3 := p'.below hk3
                  have hr3 := hrow.keep hk3
                  have hb3 := hk3.size
                  cases hq : redP d (xs.drop j3) with
                  | none =>
                    obtain ⟨V, z, ⟨k1, z1, A1, n1, c1, B1, m1, d1, D1, l1, e1, rfl⟩, rfl⟩ := hno hq
                    have HOO : Hid (O = none) := Lib.hid (by rw [HO2.out, HREP.out, HNK.out, repP_fail _ _ hq]; rfl)
                    clear hno hyes hq
                    obtain ⟨W4, hW4⟩ : ∃ W4, w3.alloc (.cells #[.int .i64 k1, .bool z1, .slice A1 n1 c1, .slice B1 m1 d1, .slice D1 l1 e1] 30) = W4 := ⟨_, rfl⟩
                    have hk4 : Keeps w3 W4 := hW4 ▸ box2 w3 _
                    have q4 := q3.below hk4
                    have hkw4 := hk4'.trans' hk4
                    clear p3 hr3 p' hrow q q3
                    have x0 := q4.cell 0
                    have x1 := q4.cell 1
                    have x2 := q4.cell 2
                    have x3 := q4.cell 3
                    have x4 := q4.cell 4
                    have f0 := q4.frozen 0
                    have f1 := q4.frozen 1
                    have f2 := q4.frozen 2
                    have f3 := q4.frozen 3
                    have f4 := q4.frozen 4
                    simp only [List.getElem?_cons_zero, List.getElem?_cons_succ] at x0 x1 x2 x3 x4
                    go_wp2
                    have r5 := (q4).put5 (a := .int .i64 0) (x := .bool false) (y := .slice none 0 0) (z := .slice none 0 0) (v := .slice none 0 0)
                    have r0 := r5.cell 0
                    have r1 := r5.cell 1
                    have r2 := r5.cell 2
                    have r3 := r5.cell 3
                    have r4 := r5.cell 4
                    simp only [List.getElem?_cons_zero, List.getElem?_cons_succ] at r0 r1 r2 r3 r4
                    refine bodyPost_ret (v := .tuple #[.agg #[.int .i64 0, .bool false, .slice none 0 0, .slice none 0 0, .slice none 0 0], .int .i64 0, .bool false]) (by simp [results, Tryz.results28, go_sem, r0, r1, r2, r3, r4]) rfl ?_
                    rw [HOO.out]
                    exact redPost_no (keeps5 hkw4 (Nat.le_refl _) _ _ _ _ _) ⟨_, _, _, _, _, _, _, _, _, _, _, rfl⟩ _
                  | some pr =>
                    obtain ⟨x, ys⟩ := pr
                    obtain ⟨cs, j5, hj5, rfl, rfl, hv⟩ := hyes x ys hq
                    obtain ⟨k1, z1, A1, n1, c1, B1, m1, d1, D1, l1, e1, rfl⟩ := hv.form
                    have HQ := Lib.hid hq
                    clear hno hyes hq
                    obtain ⟨W4, hW4⟩ : ∃ W4, w3.alloc (.cells #[.int .i64 k1, .bool z1, .slice A1 n1 c1, .slice B1 m1 d1, .slice D1 l1 e1] 30) = W4 := ⟨_, rfl⟩
                    have hk4 : Keeps w3 W4 := hW4 ▸ box2 w3 _
                    have b4 : Own W4 w3.heap.size 30 [.int .i64 k1, .bool z1, .slice A1 n1 c1, .slice B1 m1 d1, .slice D1 l1 e1] := hW4 ▸ Own.new w3 _ _
                    obtain ⟨W5, hW5⟩ : ∃ W5, W4.alloc (.cells #[.int .i64 k1, .bool z1, .slice A1 n1 c1, .slice B1 m1 d1, .slice D1 l1 e1] 30) = W5 := ⟨_, rfl⟩
                    have hk5 : Keeps W4 W5 := hW5 ▸ box2 W4 _
                    have b5 : Own W5 W4.heap.size 30 [.int .i64 k1, .bool z1, .slice A1 n1 c1, .slice B1 m1 d1, .slice D1 l1 e1] := hW5 ▸ Own.new W4 _ _
                    have hk45 := hk4.trans' hk5
                    have hr5 := hr3.keep hk45
                    obtain ⟨xs5, hown, hels⟩ := hr5
                    have hv5 : ValC (fun q => lb + 1 ≤ q ∧ some q ≠ (Value.slice A4 k cc).ownBlock) 70000 W5 x [.int .i64 k1, .bool z1, .slice A1 n1 c1, .slice B1 m1 d1, .slice D1 l1 e1] := (hv.mono (fun g hg _ => ⟨by have := p'.lt; simp only [newB] at hg; omega, fun e => by
                      have := (hrow.blk g e.symm).2
                      simp only [newB] at hg
                      omega⟩)).keep hk45
                    rw [HACC.out] at hown
                    have hown0 := hown
                    have p4 := p3.below hk4
                    have x4 := p4.cell 4
                    have b0 := b4.cell 0
                    have b1 := b4.cell 1
                    have b2 := b4.cell 2
                    have b3' := b4.cell 3
                    have b4' := b4.cell 4
                    simp only [List.getElem?_cons_zero, List.getElem?_cons_succ] at x4 b0 b1 b2 b3' b4'
                    have hsz5 : lb + 1 ≤ W5.heap.size := by have := p4.lt; have := hk5.size; omega
                    have HOWN := Lib.hid hown
                    have HB5 := Lib.hid b5
                    clear hown
                    have hneL : some lb ≠ (Value.slice A4 k cc).ownBlock := fun e => by have := (hown0.blk lb e.symm).1; omega
                    have p5 := p4.below hk5
                    go_wp2_with (at_builtin; refine wpList_append_cln rfl _ _ 28 rfl (lb + 1) 30 i0v (.agg #[.int .i64 0, .bool false, .slice none 0 0, .slice none 0 0, .slice none 0 0]) 5 88 Tryz.underlying28 hiv hz0v hz1v hz2v rfl rfl (.slice A4 k cc) k xs5 rfl HOWN.out ⟨W4.heap.size, 0, none⟩ 1 1 [.int .i64 k1, .bool z1, .slice A1 n1 c1, .slice B1 m1 d1, .slice D1 l1 e1] rfl rfl (by decide) (own_cellsV HB5.out) (by simp [Value.oneCell']) rfl (by simp only [maxLen]; omega) (by omega) hsz5 ?_; intro V' w6 hown6 hgrow hat; obtain ⟨A6, c6, rfl, -⟩ := hown6.1.sl; have p6 := p5.grown hgrow hneL; have x6 := p6.cell 4; have f6 := p6.frozen 4; simp only [List.getElem?_cons_zero, List.getElem?_cons_succ] at x6)
                    have hlw : w.heap.size < lb := hbase
                    have hneB : some w.heap.size ≠ (Value.slice A4 k cc).ownBlock := fun e => by have := (hown0.blk _ e.symm).1; omega
                    have q7 : Own (w6.setCell ⟨lb, 4, none⟩ (.slice A6 (k + 1) c6)) w.heap.size 30 [.int .i64 0, .bool false, .slice none 0 0, .slice none 0 0, .slice none 0 0] := ((q3.below hk45).grown hgrow hneB).far (p := ⟨lb, 4, none⟩) (by simp only; omega) _
                    have s7 := same32_set p6 rfl 4 (.slice A6 (k + 1) c6)
                    have r6 : RowV 70000 w6 (lb + 1) (.slice A6 (k + 1) c6) (acc ++ [x]) := RowV.grow (l := acc) (by rw [HACC.out]; exact HOWN.out) hels hv5 (by rw [HACC.out]; exact hown6) hgrow hat
                    have hk6 : Keeps w w6 := (hk4'.trans' hk45).grown hgrow (hk4'.trans' hk45).size (fun g e => by have := (hown0.blk _ e).1; omega)
                    have hrep2 : repP (redP d) n U = (repP (redP d) (n - (k + 1)) (xs.drop j5)).map fun p => ((acc ++ [x]) ++ p.1, p.2) := by
                      rw [HREP.out, HNK.out, repP_step _ _ HQ.out, show n - (k + 1) = n - k - 1 by omega, Option.map_map]
                      congr 1
                      funext p
                      simp
                    go_roundw
                    case rel => exact ⟨k + 1, j5, acc ++ [x], A6, c6, by omega, by go_num, rfl, hj5, by rw [List.length_append, HACC.out]; rfl, q7, p6.set 4 _, r6.put (by simp only; omega) _ s7, hk6.set (p := ⟨lb, 4, none⟩) (by simp only; omega) _, hrep2⟩
                    case measure => simp [intOf]; omega
                · obtain rfl : k = n := by omega
                  have HOO : Hid (O = some (lstT acc, xs.drop j3)) := Lib.hid (by
                    rw [HO2.out, hrep, Nat.sub_self]
                    simp [repP])
                  have HROW := Lib.hid hrow
                  have x4 := p'.cell 4
                  have p0 := p'.cell 0
                  have p1 := p'.cell 1
                  have p2 := p'.cell 2
                  have p3 := p'.cell 3
                  simp only [List.getElem?_cons_zero, List.getElem?_cons_succ] at x4 p0 p1 p2 p3
                  have hd0 : decide ((k : Int) < (k : Int)) = false := decide_eq_false (by omega)
                  have hj3I : (j3 : Int) ≤ xs.length := by omega
                  clear hrep hrow
                  have y0 := q.cell 0
                  have y1 := q.cell 1
                  have y2 := q.cell 2
                  have y3 := q.cell 3
                  have y4 := q.cell 4
                  have f0 := q.frozen 0
                  have f1 := q.frozen 1
                  have f2 := q.frozen 2
                  have f3 := q.frozen 3
                  have f4 := q.frozen 4
                  simp only [List.getElem?_cons_zero, List.getElem?_cons_succ] at y0 y1 y2 y3 y4
                  go_wp2
                  have r5 := (q).put5 (a := .int .i64 2) (x := .bool false) (y := .slice none 0 0) (z := .slice none 0 0) (v := .slice A4 k cc)
                  have r0 := r5.cell 0
                  have r1 := r5.cell 1
                  have r2 := r5.cell 2
                  have r3 := r5.cell 3
                  have r4 := r5.cell 4
                  simp only [List.getElem?_cons_zero, List.getElem?_cons_succ] at r0 r1 r2 r3 r4
                  refine bodyPost_ret (v := .tuple #[.agg #[.int .i64 2, .bool false, .slice none 0 0, .slice none 0 0, .slice A4 k cc], .int .i64 (j3 : Nat), .bool true]) (by simp [results, Tryz.results28, go_sem, r0, r1, r2, r3, r4]) rfl ?_
                  rw [HOO.out]
                  obtain ⟨A', c', e, hcap, hE⟩ := HROW.out.els
                  rw [hacc] at e
                  cases e
                  rw [hacc] at hcap
                  have hsame := set5_same32 (a := .int .i64 2) (x := .bool false) (y := .slice none 0 0) (z := .slice none 0 0) (v := .slice A4 k cc) q rfl rfl
                  have hE2 : ElsC (newB w.heap.size) 70000 (set5 wr w.heap.size (.int .i64 2) (.bool false) (.slice none 0 0) (.slice none 0 0) (.slice A4 k cc)) A4 acc := hE.map (fun g hg _ => set5_block wr w.heap.size _ _ _ _ _ (by simp only [newB] at hg; omega)) hsame (fun g hg _ => by simp only [newB] at hg ⊢; omega) (Nat.le_refl _)
                  refine redPost_yes (cs := [.int .i64 2, .bool false, .slice none 0 0, .slice none 0 0, .slice A4 k cc]) (keeps5 hkw (Nat.le_refl _) _ _ _ _ _) hj3 ?_
                  have hmk := ValC.make (k := 2) (n := false) (g := []) (x := []) (N := 70000) (ok := newB w.heap.size) (G := .slice none 0 0) (T := .slice none 0 0) (l := acc) (L := A4) (c := cc) ⟨by simp, by simp, by omega⟩ U32.nil SlK.nil (by rw [hacc]; exact hcap) hE2
                  rw [hacc] at hmk
                  exact hmk
            · have HOO : Hid (O = none) := Lib.hid (by
                rw [← HO.out]
                exact redP_none H105.out HNM2.out (fun m u e hcd => hnu (by cases e; have := hcd.2.2.1; rwa [HLU.out] at this)))
              have t5 : decide ((xs.length : Int) - ((j : Int) + 1) < (n : Int)) = true := decide_eq_true (by have := H2.out; omega)
              clear hnu h116 h108
              go_wp2
              have r5 := (q0).put5 (a := .int .i64 0) (x := .bool false) (y := .slice none 0 0) (z := .slice none 0 0) (v := .slice none 0 0)
              have r0 := r5.cell 0
              have r1 := r5.cell 1
              have r2 := r5.cell 2
              have r3 := r5.cell 3
              have r4 := r5.cell 4
              simp only [List.getElem?_cons_zero, List.getElem?_cons_succ] at r0 r1 r2 r3 r4
              refine bodyPost_ret (v := .tuple #[.agg #[.int .i64 0, .bool false, .slice none 0 0, .slice none 0 0, .slice none 0 0], .int .i64 0, .bool false]) (by simp [results, Tryz.results28, go_sem, r0, r1, r2, r3, r4]) rfl ?_
              rw [HOO.out]
              exact redPost_no (keeps5 hk0 (Nat.le_refl _) _ _ _ _ _) ⟨_, _, _, _, _, _, _, _, _, _, _, rfl⟩ _
          · have HOO : Hid (O = none) := Lib.hid (by
              rw [← HO.out]
              exact redP_none H105.out HNM2.out (fun m u e hcd => hcd.2.2.2.elim h116 h108))
            have t6 : (((ch.toNat : Nat) : Int) == 116) = false := u8_ne (k := 116) h116
            have t7 : (((ch.toNat : Nat) : Int) == 108) = false := u8_ne (k := 108) h108
            rw [HVV.out] at t6 t7
            have t8 : ((v : Int) != 108) = true := by rw [bne, t7]; rfl
            clear h116 h108
            go_wp2
            have r5 := (q0).put5 (a := .int .i64 0) (x := .bool false) (y := .slice none 0 0) (z := .slice none 0 0) (v := .slice none 0 0)
            have r0 := r5.cell 0
            have r1 := r5.cell 1
            have r2 := r5.cell 2
            have r3 := r5.cell 3
            have r4 := r5.cell 4
            simp only [List.getElem?_cons_zero, List.getElem?_cons_succ] at r0 r1 r2 r3 r4
            refine bodyPost_ret (v := .tuple #[.agg #[.int .i64 0, .bool false, .slice none 0 0, .slice none 0 0, .slice none 0 0], .int .i64 0, .bool false]) (by simp [results, Tryz.results28, go_sem, r0, r1, r2, r3, r4]) rfl ?_
            rw [HOO.out]
            exact redPost_no (keeps5 hk0 (Nat.le_refl _) _ _ _ _ _) ⟨_, _, _, _, _, _, _, _, _, _, _, rfl⟩ _
      · have HOO : Hid (O = none) := Lib.hid (by
          rw [← HO.out]
          have hnm2 := HNM.out
          rw [HD.out] at hnm2
          exact redP_none H105.out hnm2 (fun m u e hcd => h58 (by cases e; exact hcd.2.1)))
        have t6 : (((u2.toNat : Nat) : Int) == 58) = false := u8_ne (k := 58) h58
        clear h58
        obtain ⟨v2, hv2⟩ : ∃ v2, u2.toNat = v2 := ⟨_, rfl⟩
        rw [hv2] at c2 t6
        clear hv2
        have t7 : ((v2 : Int) != 58) = true := by rw [bne, t6]; rfl
        go_wp2
        have r5 := (q0).put5 (a := .int .i64 0) (x := .bool false) (y := .slice none 0 0) (z := .slice none 0 0) (v := .slice none 0 0)
        have r0 := r5.cell 0
        have r1 := r5.cell 1
        have r2 := r5.cell 2
        have r3 := r5.cell 3
        have r4 := r5.cell 4
        simp only [List.getElem?_cons_zero, List.getElem?_cons_succ] at r0 r1 r2 r3 r4
        refine bodyPost_ret (v := .tuple #[.agg #[.int .i64 0, .bool false, .slice none 0 0, .slice none 0 0, .slice none 0 0], .int .i64 0, .bool false]) (by simp [results, Tryz.results28, go_sem, r0, r1, r2, r3, r4]) rfl ?_
        rw [HOO.out]
        exact redPost_no (keeps5 hk0 (Nat.le_refl _) _ _ _ _ _) ⟨_, _, _, _, _, _, _, _, _, _, _, rfl⟩ _
    · obtain rfl : j = xs.length := by omega
      have HOO : Hid (O = none) := Lib.hid (by
        rw [← HO.out]
        have hnm2 := HNM.out
        rw [List.drop_length] at hnm2
        exact redP_none H105.out hnm2 (fun m u e hcd => by cases e))
      have t4 : decide ((xs.length : Int) ≤ (xs.length : Int)) = true := decide_eq_true (by omega)
      clear h2
      go_wp2
      have r5 := (q0).put5 (a := .int .i64 0) (x := .bool false) (y := .slice none 0 0) (z := .slice none 0 0) (v := .slice none 0 0)
      have r0 := r5.cell 0
      have r1 := r5.cell 1
      have r2 := r5.cell 2
      have r3 := r5.cell 3
      have r4 := r5.cell 4
      simp only [List.getElem?_cons_zero, List.getElem?_cons_succ] at r0 r1 r2 r3 r4
      refine bodyPost_ret (v := .tuple #[.agg #[.int .i64 0, .bool false, .slice none 0 0, .slice none 0 0, .slice none 0 0], .int .i64 0, .bool false]) (by simp [results, Tryz.results28, go_sem, r0, r1, r2, r3, r4]) rfl ?_
      rw [HOO.out]
      exact redPost_no (keeps5 hk0 (Nat.le_refl _) _ _ _ _ _) ⟨_, _, _, _, _, _, _, _, _, _, _, rfl⟩ _
  · obtain rfl : j = p + 1 := by omega
    have HOO : Hid (O = none) := Lib.hid (by
      rw [← HO.out]
      exact redP_none H105.out HNM.out (fun m u e hcd => by rw [e] at hcd; simp at hcd))
    have t3 : decide ((p : Int) + 1 < ((p + 1 : Nat) : Int)) = false := decide_eq_false (by omega)
    have t3' : decide ((p : Int) + 1 < (p : Int) + 1) = false := decide_eq_false (by omega)
    clear h1
    go_wp2
    have r5 := (q0).put5 (a := .int .i64 0) (x := .bool false) (y := .slice none 0 0) (z := .slice none 0 0) (v := .slice none 0 0)
    have r0 := r5.cell 0
    have r1 := r5.cell 1
    have r2 := r5.cell 2
    have r3 := r5.cell 3
    have r4 := r5.cell 4
    simp only [List.getElem?_cons_zero, List.getElem?_cons_succ] at r0 r1 r2 r3 r4
    refine bodyPost_ret (v := .tuple #[.agg #[.int .i64 0, .bool false, .slice none 0 0, .slice none 0 0, .slice none 0 0], .int .i64 0, .bool false]) (by simp [results, Tryz.results28, go_sem, r0, r1, r2, r3, r4]) rfl ?_
    rw [HOO.out]
    exact redPost_no (keeps5 hk0 (Nat.le_refl _) _ _ _ _ _) ⟨_, _, _, _, _, _, _, _, _, _, _, rfl⟩ _
/-- read -/
theorem red_any : ∀ d, RedAt d := by
  intro d
  induction d with
  | zero =>
    intro m hm w A c xs p hb hl hp
    obtain rfl : m = 9 := by omega
    rw [show redP 0 (xs.drop p) = none from rfl]
    rcases Nat.lt_or_ge p xs.length with h | h
    · exact red_deep hl h
    · obtain rfl : p = xs.length := by omega
      exact red_end 9 hl
  | succ d ih =>
    intro m hm w A c xs p hb hl hp
    rcases Nat.lt_or_ge p xs.length with h | h
    · by_cases h0 : xs.getD p 0 = 105
      · exact red_int d m (by omega) hb hl h h0
      · exact red_num d m (by omega) ih hb hl h h0
    · obtain rfl : p = xs.length := by omega
      rw [List.drop_length, show redP (d + 1) [] = none from rfl]
      exact red_end m hl
end Go.Proofs.YtomjnjpehokjbaaGreatDoor
