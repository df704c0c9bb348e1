/- fiducialref12.Decode: the walk. -/
import Derived.Test.YtomjnjpehokjbaaGreatDoorRRn
import Derived.Test.YtomjnjpehokjbaaGreatDoorMgRefP
import Derived.Test.YtomjnjpehokjbaaGreatDoorMgREq
import Derived.Test.YtomjnjpehokjbaaGreatDoorLawEnc
namespace Go.Proofs.YtomjnjpehokjbaaGreatDoor
open Go.RowKit Go.Shelf
theorem frm_chk {t : Tr} (h : chkC t = 0) : frmT t = true := by
  rw [chkC_ref] at h
  cases hf : frmT t with
  | true => rfl
  | false => rw [hf] at h; simp at h
theorem dec_no1 {b : List UInt8} (h : redP 9 b = none) : decT b = none := by
  cases hd : decT b with
  | none => rfl
  | some v => rw [(red_dec hd).1] at h; cases h
theorem dec_no2 {b : List UInt8} {v : Tr} {j : Nat} (h : redP 9 b = some (v, b.drop j)) (hj : j < b.length) : decT b = none := by
  cases hd : decT b with
  | none => rfl
  | some v' =>
    rw [(red_dec hd).1] at h
    have := congrArg (fun o => o.map fun p => p.2.length) h
    simp only [Option.map_some, List.length_nil, List.length_drop, Option.some.injEq] at this
    omega
theorem dec_no3 {b u : List UInt8} {v : Tr} (h : redP 9 b = some (v, u)) (hc : ¬ (chkC v = 0 ∧ encT v = b)) : decT b = none := by
  cases hd : decT b with
  | none => rfl
  | some v' =>
    obtain ⟨h1, h2⟩ := red_dec hd
    rw [h1] at h
    cases h
    exact absurd h2 hc
set_option maxRecDepth 100000 in
set_option maxHeartbeats 1000000 in
theorem rdecode_long {w : World} {A : Option Addr} {c : Nat} {xs : List UInt8} (h : 65536 < xs.length) :
    Calls Tryz.prog 8 #[.slice A xs.length c] w (DecPost xs w) := by
  obtain ⟨W0, hW0⟩ : ∃ W0, w.alloc (.cells #[.int .i64 0, .bool false, .slice none 0 0, .slice none 0 0, .slice none 0 0] 30) = W0 := ⟨_, rfl⟩
  have hk0 : Keeps w W0 := hW0 ▸ box2 w _
  have q0 : Own W0 w.heap.size 30 [.int .i64 0, .bool false, .slice none 0 0, .slice none 0 0, .slice none 0 0] := hW0 ▸ Own.new w _ _
  have t1 : decide ((65536 : Int) < (xs.length : Int)) = true := decide_eq_true (by omega)
  have H := Lib.hid h
  clear h
  have x0 := q0.cell 0
  have x1 := q0.cell 1
  have x2 := q0.cell 2
  have x3 := q0.cell 3
  have x4 := q0.cell 4
  have f0 := q0.frozen 0
  have f1 := q0.frozen 1
  have f2 := q0.frozen 2
  have f3 := q0.frozen 3
  have f4 := q0.frozen 4
  simp only [List.getElem?_cons_zero, List.getElem?_cons_succ] at x0 x1 x2 x3 x4
  go_enter Tryz.func8, Tryz.ntmps8
  go_wp2
  have r5 := (q0).put5 (a := .int .i64 0) (x := .bool false) (y := .slice none 0 0) (z := .slice none 0 0) (v := .slice none 0 0)
  have r0 := r5.cell 0
  have r1 := r5.cell 1
  have r2 := r5.cell 2
  have r3 := r5.cell 3
  have r4 := r5.cell 4
  simp only [List.getElem?_cons_zero, List.getElem?_cons_succ] at r0 r1 r2 r3 r4
  refine bodyPost_ret (v := .tuple #[.agg #[.int .i64 0, .bool false, .slice none 0 0, .slice none 0 0, .slice none 0 0], .int .i64 9]) (by simp [results, Tryz.results8, go_sem, r0, r1, r2, r3, r4]) rfl ?_
  exact ⟨keeps5 hk0 (Nat.le_refl _) _ _ _ _ _, fun _ => rfl, fun h => by have := H.out; omega⟩
set_option maxRecDepth 100000 in
set_option maxHeartbeats 2000000 in
theorem rdecode_short {w : World} {A : Option Addr} {c : Nat} {xs : List UInt8} (hb : Byt w A c xs) (hl : xs.length ≤ 600) :
    Calls Tryz.prog 8 #[.slice A xs.length c] w (DecPost xs w) := by
  obtain ⟨W0, hW0⟩ : ∃ W0, w.alloc (.cells #[.int .i64 0, .bool false, .slice none 0 0, .slice none 0 0, .slice none 0 0] 30) = W0 := ⟨_, rfl⟩
  have hk0 : Keeps w W0 := hW0 ▸ box2 w _
  have q0 : Own W0 w.heap.size 30 [.int .i64 0, .bool false, .slice none 0 0, .slice none 0 0, .slice none 0 0] := hW0 ▸ Own.new w _ _
  have hlI : (xs.length : Int) ≤ 600 := by omega
  have t1 : decide ((65536 : Int) < (xs.length : Int)) = false := decide_eq_false (by omega)
  have HL : Hid (xs.length ≤ 65536) := Lib.hid (by omega)
  have HL6 := Lib.hid hl
  have hr := red_any 9 0 rfl W0 A c xs 0 (hb.keep hk0) (by omega) (Nat.zero_le _)
  rw [List.drop_zero] at hr
  have HR := Lib.hid hr
  have HB := Lib.hid (hb.keep hk0)
  clear hr hb
  have x0 := q0.cell 0
  have x1 := q0.cell 1
  have x2 := q0.cell 2
  have x3 := q0.cell 3
  have x4 := q0.cell 4
  have f0 := q0.frozen 0
  have f1 := q0.frozen 1
  have f2 := q0.frozen 2
  have f3 := q0.frozen 3
  have f4 := q0.frozen 4
  simp only [List.getElem?_cons_zero, List.getElem?_cons_succ] at x0 x1 x2 x3 x4
  go_enter Tryz.func8, Tryz.ntmps8
  go_wp2_with fail
  refine HR.out.mono ?_
  rintro e w2 ⟨hk2, hno, hyes⟩
  have q2 := q0.below hk2
  have hk02 := hk0.trans' hk2
  cases hq : redP 9 xs with
  | none =>
    obtain ⟨V, z, ⟨k1, z1, A1, n1, c1, B1, m1, d1, D1, l1, e1, rfl⟩, rfl⟩ := hno hq
    have HN := Lib.hid (dec_no1 hq)
    clear hno hyes hq
    obtain ⟨W4, hW4⟩ : ∃ W4, w2.alloc (.cells #[.int .i64 k1, .bool z1, .slice A1 n1 c1, .slice B1 m1 d1, .slice D1 l1 e1] 30) = W4 := ⟨_, rfl⟩
    have hk4 : Keeps w2 W4 := hW4 ▸ box2 w2 _
    have q4 := q2.below hk4
    have hkk := hk02.trans' hk4
    clear x0 x1 x2 x3 x4 f0 f1 f2 f3 f4
    have x0 := q4.cell 0
    have x1 := q4.cell 1
    have x2 := q4.cell 2
    have x3 := q4.cell 3
    have x4 := q4.cell 4
    have f0 := q4.frozen 0
    have f1 := q4.frozen 1
    have f2 := q4.frozen 2
    have f3 := q4.frozen 3
    have f4 := q4.frozen 4
    simp only [List.getElem?_cons_zero, List.getElem?_cons_succ] at x0 x1 x2 x3 x4
    go_wp2
    have r5 := (q4).put5 (a := .int .i64 0) (x := .bool false) (y := .slice none 0 0) (z := .slice none 0 0) (v := .slice none 0 0)
    have r0 := r5.cell 0
    have r1 := r5.cell 1
    have r2 := r5.cell 2
    have r3 := r5.cell 3
    have r4 := r5.cell 4
    simp only [List.getElem?_cons_zero, List.getElem?_cons_succ] at r0 r1 r2 r3 r4
    refine bodyPost_ret (v := .tuple #[.agg #[.int .i64 0, .bool false, .slice none 0 0, .slice none 0 0, .slice none 0 0], .int .i64 8]) (by simp [results, Tryz.results8, go_sem, r0, r1, r2, r3, r4]) rfl ?_
    exact decPost_no (keeps5 hkk (Nat.le_refl _) _ _ _ _ _) HL.out HN.out
  | some pr =>
    obtain ⟨x, ys⟩ := pr
    obtain ⟨cs, j, hj, rfl, rfl, hv⟩ := hyes x ys hq
    obtain ⟨k1, z1, A1, n1, c1, B1, m1, d1, D1, l1, e1, rfl⟩ := hv.form
    have HQ := Lib.hid hq
    obtain ⟨hwt, hdp⟩ := redP_wt 9 xs x _ hq
    clear hno hyes hq
    obtain ⟨W4, hW4⟩ : ∃ W4, w2.alloc (.cells #[.int .i64 k1, .bool z1, .slice A1 n1 c1, .slice B1 m1 d1, .slice D1 l1 e1] 30) = W4 := ⟨_, rfl⟩
    have hk4 : Keeps w2 W4 := hW4 ▸ box2 w2 _
    have q4 := q2.below hk4
    have hkk := hk02.trans' hk4
    have b4 : Own W4 w2.heap.size 30 [.int .i64 k1, .bool z1, .slice A1 n1 c1, .slice B1 m1 d1, .slice D1 l1 e1] := hW4 ▸ Own.new w2 _ _
    have hv4 := hv.keep hk4
    have HV4 := Lib.hid hv4
    have hvA : ValC anyB 70000 W4 x [.int .i64 k1, .bool z1, .slice A1 n1 c1, .slice B1 m1 d1, .slice D1 l1 e1] := hv4.any
    have hen : (encT x).length ≤ 100000000 := by
      have := encT_len x (by omega)
      omega
    have HEN := Lib.hid hen
    have HC := Lib.hid (rcheck_any (N := 70000) (by decide) hvA (by omega) hen)
    have HVA := Lib.hid hvA
    have hjI : (j : Int) ≤ xs.length := by omega
    have v0 := b4.cell 0
    have v1 := b4.cell 1
    have v2 := b4.cell 2
    have v3 := b4.cell 3
    have v4 := b4.cell 4
    simp only [List.getElem?_cons_zero, List.getElem?_cons_succ] at v0 v1 v2 v3 v4
    clear hv hv4 hvA hwt hdp hen
    clear x0 x1 x2 x3 x4 f0 f1 f2 f3 f4
    have x0 := q4.cell 0
    have x1 := q4.cell 1
    have x2 := q4.cell 2
    have x3 := q4.cell 3
    have x4 := q4.cell 4
    have f0 := q4.frozen 0
    have f1 := q4.frozen 1
    have f2 := q4.frozen 2
    have f3 := q4.frozen 3
    have f4 := q4.frozen 4
    simp only [List.getElem?_cons_zero, List.getElem?_cons_succ] at x0 x1 x2 x3 x4
    by_cases hje : j < xs.length
    · have HN := Lib.hid (dec_no2 HQ.out hje)
      have t2 : ((j : Int) != (xs.length : Int)) = true := by simp; omega
      clear hje
      go_wp2
      have r5 := (q4).put5 (a := .int .i64 0) (x := .bool false) (y := .slice none 0 0) (z := .slice none 0 0) (v := .slice none 0 0)
      have r0 := r5.cell 0
      have r1 := r5.cell 1
      have r2 := r5.cell 2
      have r3 := r5.cell 3
      have r4 := r5.cell 4
      simp only [List.getElem?_cons_zero, List.getElem?_cons_succ] at r0 r1 r2 r3 r4
      refine bodyPost_ret (v := .tuple #[.agg #[.int .i64 0, .bool false, .slice none 0 0, .slice none 0 0, .slice none 0 0], .int .i64 8]) (by simp [results, Tryz.results8, go_sem, r0, r1, r2, r3, r4]) rfl ?_
      exact decPost_no (keeps5 hkk (Nat.le_refl _) _ _ _ _ _) HL.out HN.out
    · obtain rfl : j = xs.length := by omega
      clear hje
      obtain ⟨cx, hcx⟩ : ∃ cx, chkC x = cx := ⟨_, rfl⟩
      rw [hcx] at HC
      have HCX := Lib.hid hcx
      clear hcx
      by_cases hc : cx = 0
      · subst hc
        have HF := Lib.hid (frm_chk HCX.out)
        go_wp2_with fail
        refine HC.out.mono ?_
        rintro e w5 ⟨rfl, hk5⟩
        have HBO := Lib.hid (rbytesOf_any (N := 70000) (by decide) x _ w5 (HVA.out.keep hk5) HF.out HEN.out)
        have q5 := q4.below hk5
        have b5 := b4.below hk5
        have hkk5 := hkk.trans' hk5
        clear v0 v1 v2 v3 v4
        have v0 := b5.cell 0
        have v1 := b5.cell 1
        have v2 := b5.cell 2
        have v3 := b5.cell 3
        have v4 := b5.cell 4
        simp only [List.getElem?_cons_zero, List.getElem?_cons_succ] at v0 v1 v2 v3 v4
        clear x0 x1 x2 x3 x4 f0 f1 f2 f3 f4
        have x0 := q5.cell 0
        have x1 := q5.cell 1
        have x2 := q5.cell 2
        have x3 := q5.cell 3
        have x4 := q5.cell 4
        have f0 := q5.frozen 0
        have f1 := q5.frozen 1
        have f2 := q5.frozen 2
        have f3 := q5.frozen 3
        have f4 := q5.frozen 4
        simp only [List.getElem?_cons_zero, List.getElem?_cons_succ] at x0 x1 x2 x3 x4
        go_wp2_with fail
        refine HBO.out.mono ?_
        rintro e w6 ⟨V, rfl, hov, hk6⟩
        obtain ⟨g, cap, rfl⟩ := hov.form
        have hkk6 := hkk5.trans' hk6
        have HSB := Lib.hid (rsameB_any (c := cap) (d := c) (SlK.row (hov.slk rfl)) (SlK.row (((((HB.out.keep hk2).keep hk4).keep hk5).keep hk6))) rfl rfl (by have := HEN.out; omega) (by omega))
        have q6 := q5.below hk6
        have b6 := b5.below hk6
        clear v0 v1 v2 v3 v4 hov
        obtain ⟨ne, hne⟩ : ∃ ne, (encT x).length = ne := ⟨_, rfl⟩
        rw [hne] at HSB ⊢
        clear hne
        by_cases heq : encT x = xs
        · have HN := Lib.hid (dec_red HCX.out heq)
          rw [decide_eq_true heq] at HSB
          clear heq
          go_wp2_with fail
          refine HSB.out.mono ?_
          rintro e w7 ⟨rfl, hk7⟩
          have q7 := q6.below hk7
          have b7 := b6.below hk7
          have hkk7 := hkk6.trans' hk7
          have v0 := b7.cell 0
          have v1 := b7.cell 1
          have v2 := b7.cell 2
          have v3 := b7.cell 3
          have v4 := b7.cell 4
          simp only [List.getElem?_cons_zero, List.getElem?_cons_succ] at v0 v1 v2 v3 v4
          clear x0 x1 x2 x3 x4 f0 f1 f2 f3 f4
          have x0 := q7.cell 0
          have x1 := q7.cell 1
          have x2 := q7.cell 2
          have x3 := q7.cell 3
          have x4 := q7.cell 4
          have f0 := q7.frozen 0
          have f1 := q7.frozen 1
          have f2 := q7.frozen 2
          have f3 := q7.frozen 3
          have f4 := q7.frozen 4
          simp only [List.getElem?_cons_zero, List.getElem?_cons_succ] at x0 x1 x2 x3 x4
          go_wp2
          have r5 := (q7).put5 (a := .int .i64 k1) (x := .bool z1) (y := .slice A1 n1 c1) (z := .slice B1 m1 d1) (v := .slice D1 l1 e1)
          have r0 := r5.cell 0
          have r1 := r5.cell 1
          have r2 := r5.cell 2
          have r3 := r5.cell 3
          have r4 := r5.cell 4
          simp only [List.getElem?_cons_zero, List.getElem?_cons_succ] at r0 r1 r2 r3 r4
          refine bodyPost_ret (v := .tuple #[.agg #[.int .i64 k1, .bool z1, .slice A1 n1 c1, .slice B1 m1 d1, .slice D1 l1 e1], .int .i64 0]) (by simp [results, Tryz.results8, go_sem, r0, r1, r2, r3, r4]) rfl ?_
          have hv6 := (((HV4.out.keep hk5).keep hk6).keep hk7).mono (ok' := fun g => w.heap.size < g) (fun g hg _ => by have := q0.lt; simp only [newB] at hg; omega)
          exact decPost_yes (keeps5 hkk7 (Nat.le_refl _) _ _ _ _ _) HL.out HN.out (hv6.put5 (by omega) q7 rfl rfl).any
        · have HN := Lib.hid (dec_no3 HQ.out (fun h => heq h.2))
          rw [decide_eq_false heq] at HSB
          clear heq
          go_wp2_with fail
          refine HSB.out.mono ?_
          rintro e w7 ⟨rfl, hk7⟩
          have q7 := q6.below hk7
          have hkk7 := hkk6.trans' hk7
          clear x0 x1 x2 x3 x4 f0 f1 f2 f3 f4
          have x0 := q7.cell 0
          have x1 := q7.cell 1
          have x2 := q7.cell 2
          have x3 := q7.cell 3
          have x4 := q7.cell 4
          have f0 := q7.frozen 0
          have f1 := q7.frozen 1
          have f2 := q7.frozen 2
          have f3 := q7.frozen 3
          have f4 := q7.frozen 4
          simp only [List.getElem?_cons_zero, List.getElem?_cons_succ] at x0 x1 x2 x3 x4
          go_wp2
          have r5 := (q7).put5 (a := .int .i64 0) (x := .bool false) (y := .slice none 0 0) (z := .slice none 0 0) (v := .slice none 0 0)
          have r0 := r5.cell 0
          have r1 := r5.cell 1
          have r2 := r5.cell 2
          have r3 := r5.cell 3
          have r4 := r5.cell 4
          simp only [List.getElem?_cons_zero, List.getElem?_cons_succ] at r0 r1 r2 r3 r4
          refine bodyPost_ret (v := .tuple #[.agg #[.int .i64 0, .bool false, .slice none 0 0, .slice none 0 0, .slice none 0 0], .int .i64 8]) (by simp [results, Tryz.results8, go_sem, r0, r1, r2, r3, r4]) rfl ?_
          exact decPost_no (keeps5 hkk7 (Nat.le_refl _) _ _ _ _ _) HL.out HN.out
      · have HN := Lib.hid (dec_no3 HQ.out (fun h => hc (HCX.out.symm.trans h.1)))
        have tc : (cx != 0) = true := by simpa using hc
        clear hc
        go_wp2_with fail
        refine HC.out.mono ?_
        rintro e w5 ⟨rfl, hk5⟩
        have q5 := q4.below hk5
        have hkk5 := hkk.trans' hk5
        clear v0 v1 v2 v3 v4
        clear x0 x1 x2 x3 x4 f0 f1 f2 f3 f4
        have x0 := q5.cell 0
        have x1 := q5.cell 1
        have x2 := q5.cell 2
        have x3 := q5.cell 3
        have x4 := q5.cell 4
        have f0 := q5.frozen 0
        have f1 := q5.frozen 1
        have f2 := q5.frozen 2
        have f3 := q5.frozen 3
        have f4 := q5.frozen 4
        simp only [List.getElem?_cons_zero, List.getElem?_cons_succ] at x0 x1 x2 x3 x4
        go_wp2
        have r5 := (q5).put5 (a := .int .i64 0) (x := .bool false) (y := .slice none 0 0) (z := .slice none 0 0) (v := .slice none 0 0)
        have r0 := r5.cell 0
        have r1 := r5.cell 1
        have r2 := r5.cell 2
        have r3 := r5.cell 3
        have r4 := r5.cell 4
        simp only [List.getElem?_cons_zero, List.getElem?_cons_succ] at r0 r1 r2 r3 r4
        refine bodyPost_ret (v := .tuple #[.agg #[.int .i64 0, .bool false, .slice none 0 0, .slice none 0 0, .slice none 0 0], .int .i64 8]) (by simp [results, Tryz.results8, go_sem, r0, r1, r2, r3, r4]) rfl ?_
        exact decPost_no (keeps5 hkk5 (Nat.le_refl _) _ _ _ _ _) HL.out HN.out
theorem rdecode_any {w : World} {A : Option Addr} {c : Nat} {xs : List UInt8} (hb : Byt w A c xs) (hl : xs.length ≤ 600 ∨ 65536 < xs.length) :
    Calls Tryz.prog 8 #[.slice A xs.length c] w (DecPost xs w) := by
  rcases hl with h | h
  · exact rdecode_short hb h
  · exact rdecode_long h
end Go.Proofs.YtomjnjpehokjbaaGreatDoor
