/- codec.reader.value of a list: the walk. codec.Decode: the walk. -/
import Derived.Test.YtomjnjpehokjbaaGreatDoorMgSet5
import Derived.Maps.AppendAt
import Derived.Test.YtomjnjpehokjbaaGreatDoorMgWrtA
namespace Go.Proofs.YtomjnjpehokjbaaGreatDoor
open Go.RowKit Go.Shelf
theorem own_cellsV {w : World} {b : Nat} {t : TypeId} {vs : List Value} (h : Own w b t vs) : ∀ j u, vs[j]? = some u → w.cell? ((⟨b, 0, none⟩ : Addr).add j) = some u := fun j u hj => by
  rw [Lib.addr_add, Nat.zero_add, h.cell]
  exact hj
def ValAt (d : Nat) : Prop := ∀ (w : World) (B r : Nat) (xs : List UInt8), Rd w B r xs → EnvB B w → B ≤ w.heap.size → xs.length ≤ 100000 → Calls Tryz.prog 26 #[.pointer (some ⟨r, 0, none⟩), .int .i64 (d : Nat)] w (ValPost B r (valP d xs) w)
theorem Rd.same {w w' : World} {B r : Nat} {xs : List UInt8} (h : Rd w B r xs) (hs : ∀ k, k < B ∨ k = r → k < w.heap.size → w'.heap[k]? = w.heap[k]?) : Rd w' B r xs := by
  have hlt := h.lt
  obtain ⟨hB, b, o, c, h1, h2⟩ := h
  exact ⟨hB, b, o, c, (hs r (.inr rfl) hlt).trans h1, h2.map (fun k hk hl => hs k (.inl hk) hl) (fun _ h _ => h)⟩
theorem Trn.grown {r : Nat} {w w1 w2 : World} {row : Option Nat} (h : Trn r w w1) (hg : w1.grownBy w2 row) (hr : ∀ g, row = some g → w.heap.size ≤ g) (h32 : Same32 w1 w2) : Trn r w w2 :=
  ⟨⟨hg.os.trans h.1.os, hg.tape.trans h.1.tape, hg.output.trans h.1.output, Nat.le_trans h.1.size hg.size, fun k hk hn =>
    (hg.block k (Nat.lt_of_lt_of_le hk h.1.size) fun e => by have := hr k e.symm; omega).trans (h.1.block k hk hn)⟩, h.2.trans h32⟩
set_option maxRecDepth 100000 in
set_option maxHeartbeats 2000000 in
theorem val_lst0 {w : World} {B r : Nat} {t : List UInt8} (h : Rd w B r (108 :: t)) (he : EnvB B w) (hB : B ≤ w.heap.size) (hl : t.length ≤ 100000) :
    Calls Tryz.prog 26 #[.pointer (some ⟨r, 0, none⟩), .int .i64 0] w (ValPost B r (valP 0 (108 :: t)) w) := by
  rw [valP_lst0]
  obtain ⟨hBr, b, o, c, hO0, hS0⟩ := id h
  obtain ⟨A', c', eA, hnc, hcm, -, hrow, -⟩ := id hS0
  cases eA
  obtain ⟨W0, hW0⟩ : ∃ W0, w.alloc (.cells #[.int .i64 0, .bool false, .slice none 0 0, .slice none 0 0, .slice none 0 0] 30) = W0 := ⟨_, rfl⟩
  have hk0 : Keeps w W0 := hW0 ▸ box2 w _
  have q0 : Own W0 w.heap.size 30 [.int .i64 0, .bool false, .slice none 0 0, .slice none 0 0, .slice none 0 0] := hW0 ▸ Own.new w _ _
  have hrlt := h.lt
  have hrne : w.heap.size ≠ r := by omega
  have rd0 := h.keep hk0
  have hOr := hO0.below hk0
  have rx0 := hOr.cell 0
  have rf0 := hOr.frozen 0
  simp only [List.getElem?_cons_zero] at rx0
  obtain ⟨b', o', eb, hb, hcell⟩ := id hrow (by simp)
  cases eb
  have hch : W0.cell? ⟨b, o, none⟩ = some (.int .u8 108) := by
    have h1 := hcell 0 (by simp)
    rw [Nat.add_zero] at h1
    exact (hk0.cell (p := ⟨b, o, none⟩) hb).trans h1
  have hdrop := (hS0.drop8 (k := 1) (by simp)).below hk0
  simp only [List.length_cons, Nat.add_sub_cancel, List.drop_succ_cons, List.drop_zero] at hdrop rx0 hnc
  obtain ⟨o2, hX⟩ := drop_addr b o c 1
  rw [hX] at hdrop
  obtain ⟨W1, hW1⟩ : ∃ W1, W0.setCell ⟨r, 0, none⟩ (.slice (some ⟨b, o2, none⟩) t.length (c - 1)) = W1 := ⟨_, rfl⟩
  have rd1 : Rd W1 B r t := hW1 ▸ rd0.put hdrop
  have ht1 : Trn r w W1 := hW1 ▸ (Trn.keeps hk0).trans rd0.trn_set
  have q1 : Own W1 w.heap.size 30 [.int .i64 0, .bool false, .slice none 0 0, .slice none 0 0, .slice none 0 0] := hW1 ▸ q0.far (p := ⟨r, 0, none⟩) hrne _
  have hcmI : (c : Int) ≤ 9223372036854775807 := by unfold maxLen at hcm; omega
  have hncI : (t.length : Int) + 1 ≤ c := by omega
  have hsz1 := ht1.1.size
  have he1 := he.turn ht1 hBr hB
  cases hc : cutM 58 t with
  | none =>
    have HU := Lib.hid (count_none rd1 he1 hc)
    clear h hO0 hS0 hrow hOr rd0 hcell hdrop hc he he1
    go_enter Tryz.func26, Tryz.ntmps26
    go_wp2_with fail
    refine HU.out.mono ?_
    rintro e w2 ⟨⟨v, rfl⟩, ht2⟩
    have q2 := ht2.own q1 hrne
    have ht3 := ht1.trans ht2
    have x0 := q2.cell 0
    have x1 := q2.cell 1
    have x2 := q2.cell 2
    have x3 := q2.cell 3
    have x4 := q2.cell 4
    have f0 := q2.frozen 0
    have f1 := q2.frozen 1
    have f2 := q2.frozen 2
    have f3 := q2.frozen 3
    have f4 := q2.frozen 4
    simp only [List.getElem?_cons_zero, List.getElem?_cons_succ] at x0 x1 x2 x3 x4
    go_wp2
    have r5 := (q2).put5 (a := .int .i64 0) (x := .bool false) (y := .slice none 0 0) (z := .slice none 0 0) (v := .slice none 0 0)
    have r0 := r5.cell 0
    have r1 := r5.cell 1
    have r2 := r5.cell 2
    have r3 := r5.cell 3
    have r4 := r5.cell 4
    simp only [List.getElem?_cons_zero, List.getElem?_cons_succ] at r0 r1 r2 r3 r4
    refine bodyPost_ret (v := .tuple #[.agg #[.int .i64 0, .bool false, .slice none 0 0, .slice none 0 0, .slice none 0 0], .bool false]) (by simp [results, Tryz.results26, go_sem, r0, r1, r2, r3, r4]) rfl ?_
    exact valPost_no (Trn.put5 ht3 q2 (Nat.le_refl _) rfl rfl) ⟨_, _, _, _, _, _, _, _, _, _, _, rfl⟩
  | some p =>
    obtain ⟨s, u⟩ := p
    have HU := Lib.hid (count_some rd1 he1 (by omega) (by omega) hc)
    clear h hO0 hS0 hrow hOr rd0 hcell hdrop hc he he1
    go_enter Tryz.func26, Tryz.ntmps26
    go_wp2_with fail
    refine HU.out.mono ?_
    rintro e w2 ⟨⟨v, bb, rfl, hiff, hnat⟩, rd2, ht2⟩
    have q2 := ht2.own q1 hrne
    have ht3 := ht1.trans ht2
    cases bb
    all_goals
      clear hiff hnat rd2
      have x0 := q2.cell 0
      have x1 := q2.cell 1
      have x2 := q2.cell 2
      have x3 := q2.cell 3
      have x4 := q2.cell 4
      have f0 := q2.frozen 0
      have f1 := q2.frozen 1
      have f2 := q2.frozen 2
      have f3 := q2.frozen 3
      have f4 := q2.frozen 4
      simp only [List.getElem?_cons_zero, List.getElem?_cons_succ] at x0 x1 x2 x3 x4
      go_wp2
      have r5 := (q2).put5 (a := .int .i64 0) (x := .bool false) (y := .slice none 0 0) (z := .slice none 0 0) (v := .slice none 0 0)
      have r0 := r5.cell 0
      have r1 := r5.cell 1
      have r2 := r5.cell 2
      have r3 := r5.cell 3
      have r4 := r5.cell 4
      simp only [List.getElem?_cons_zero, List.getElem?_cons_succ] at r0 r1 r2 r3 r4
      refine bodyPost_ret (v := .tuple #[.agg #[.int .i64 0, .bool false, .slice none 0 0, .slice none 0 0, .slice none 0 0], .bool false]) (by simp [results, Tryz.results26, go_sem, r0, r1, r2, r3, r4]) rfl ?_
      exact valPost_no (Trn.put5 ht3 q2 (Nat.le_refl _) rfl rfl) ⟨_, _, _, _, _, _, _, _, _, _, _, rfl⟩
/-- what a round of the list's loop keeps -/
def LstInv (d : Nat) (w : World) (B r base lb n : Nat) (u : List UInt8) (i : Value) (wr : World) : Prop :=
  ∃ (k : Nat) (acc : List Tr) (A : Option Addr) (c : Nat) (tk : List UInt8), k ≤ n ∧ i = .int .i64 (k : Nat) ∧ acc.length = k ∧ tk.length ≤ u.length ∧
    Own wr base 30 [.int .i64 0, .bool false, .slice none 0 0, .slice none 0 0, .slice none 0 0] ∧
    Own wr lb 30 [.int .i64 2, .bool false, .slice none 0 0, .slice none 0 0, .slice A k c] ∧
    RowV 70000 wr (lb + 1) (.slice A k c) acc ∧ Rd wr B r tk ∧ Trn r w wr ∧
    repP (valP d) n u = (repP (valP d) (n - k) tk).map fun p => (acc ++ p.1, p.2)
set_option maxRecDepth 100000 in
set_option maxHeartbeats 4000000 in
theorem val_lst (d : Nat) (IH : ValAt d) (hd : d ≤ 8) {w : World} {B r : Nat} {t : List UInt8} (h : Rd w B r (108 :: t)) (he : EnvB B w) (hB : B ≤ w.heap.size) (hl : t.length ≤ 100000) :
    Calls Tryz.prog 26 #[.pointer (some ⟨r, 0, none⟩), .int .i64 ((d : Int) + 1)] w (ValPost B r (valP (d + 1) (108 :: t)) w) := by
  obtain ⟨i0, hi, hz0, hz1, hz2⟩ := info_parts info_val
  obtain ⟨O, hO⟩ : ∃ O, valP (d + 1) (108 :: t) = O := ⟨_, rfl⟩
  rw [hO]
  have hdI : (d : Int) ≤ 8 := by omega
  have td : (((d : Int) + 1) == 0) = false := by rw [beq_eq_false_iff_ne]; omega
  obtain ⟨hBr, b, o, c, hO0, hS0⟩ := id h
  obtain ⟨A', c', eA, hnc, hcm, -, hrow, -⟩ := id hS0
  cases eA
  obtain ⟨W0, hW0⟩ : ∃ W0, w.alloc (.cells #[.int .i64 0, .bool false, .slice none 0 0, .slice none 0 0, .slice none 0 0] 30) = W0 := ⟨_, rfl⟩
  have hk0 : Keeps w W0 := hW0 ▸ box2 w _
  have q0 : Own W0 w.heap.size 30 [.int .i64 0, .bool false, .slice none 0 0, .slice none 0 0, .slice none 0 0] := hW0 ▸ Own.new w _ _
  have hrlt := h.lt
  have hrne : w.heap.size ≠ r := by omega
  have rd0 := h.keep hk0
  have hOr := hO0.below hk0
  have rx0 := hOr.cell 0
  have rf0 := hOr.frozen 0
  simp only [List.getElem?_cons_zero] at rx0
  obtain ⟨b', o', eb, hb, hcell⟩ := id hrow (by simp)
  cases eb
  have hch : W0.cell? ⟨b, o, none⟩ = some (.int .u8 108) := by
    have h1 := hcell 0 (by simp)
    rw [Nat.add_zero] at h1
    exact (hk0.cell (p := ⟨b, o, none⟩) hb).trans h1
  have hdrop := (hS0.drop8 (k := 1) (by simp)).below hk0
  simp only [List.length_cons, Nat.add_sub_cancel, List.drop_succ_cons, List.drop_zero] at hdrop rx0 hnc
  obtain ⟨o2, hX⟩ := drop_addr b o c 1
  rw [hX] at hdrop
  obtain ⟨W1, hW1⟩ : ∃ W1, W0.setCell ⟨r, 0, none⟩ (.slice (some ⟨b, o2, none⟩) t.length (c - 1)) = W1 := ⟨_, rfl⟩
  have rd1 : Rd W1 B r t := hW1 ▸ rd0.put hdrop
  have ht1 : Trn r w W1 := hW1 ▸ (Trn.keeps hk0).trans rd0.trn_set
  have q1 : Own W1 w.heap.size 30 [.int .i64 0, .bool false, .slice none 0 0, .slice none 0 0, .slice none 0 0] := hW1 ▸ q0.far (p := ⟨r, 0, none⟩) hrne _
  have hcmI : (c : Int) ≤ 9223372036854775807 := by unfold maxLen at hcm; omega
  have hncI : (t.length : Int) + 1 ≤ c := by omega
  have hsz1 := ht1.1.size
  have he1 := he.turn ht1 hBr hB
  cases hc : cutM 58 t with
  | none =>
    have HU := Lib.hid (count_none rd1 he1 hc)
    obtain rfl := hO.symm.trans (valP_lst_no (hdP_none hc))
    clear h hO0 hS0 hrow hOr rd0 hcell hdrop hc hO he he1 IH
    go_enter Tryz.func26, Tryz.ntmps26
    go_wp2_with fail
    refine HU.out.mono ?_
    rintro e w2 ⟨⟨v, rfl⟩, ht2⟩
    have q2 := ht2.own q1 hrne
    have ht3 := ht1.trans ht2
    have x0 := q2.cell 0
    have x1 := q2.cell 1
    have x2 := q2.cell 2
    have x3 := q2.cell 3
    have x4 := q2.cell 4
    have f0 := q2.frozen 0
    have f1 := q2.frozen 1
    have f2 := q2.frozen 2
    have f3 := q2.frozen 3
    have f4 := q2.frozen 4
    simp only [List.getElem?_cons_zero, List.getElem?_cons_succ] at x0 x1 x2 x3 x4
    go_wp2
    have r5 := (q2).put5 (a := .int .i64 0) (x := .bool false) (y := .slice none 0 0) (z := .slice none 0 0) (v := .slice none 0 0)
    have r0 := r5.cell 0
    have r1 := r5.cell 1
    have r2 := r5.cell 2
    have r3 := r5.cell 3
    have r4 := r5.cell 4
    simp only [List.getElem?_cons_zero, List.getElem?_cons_succ] at r0 r1 r2 r3 r4
    refine bodyPost_ret (v := .tuple #[.agg #[.int .i64 0, .bool false, .slice none 0 0, .slice none 0 0, .slice none 0 0], .bool false]) (by simp [results, Tryz.results26, go_sem, r0, r1, r2, r3, r4]) rfl ?_
    exact valPost_no (Trn.put5 ht3 q2 (Nat.le_refl _) rfl rfl) ⟨_, _, _, _, _, _, _, _, _, _, _, rfl⟩
  | some p =>
    obtain ⟨s, u⟩ := p
    have HU := Lib.hid (count_some rd1 he1 (by omega) (by omega) hc)
    have HH := Lib.hid (hdP_some hc)
    have hul : u.length ≤ 100000 := by
      have := (cutM_some hc).1
      rw [this] at hl
      simp at hl
      omega
    have HE := Lib.hid he
    have HIH : Hid (ValAt d) := Lib.hid IH
    clear h hO0 hS0 hrow hOr rd0 hcell hdrop hc he he1 IH
    go_enter Tryz.func26, Tryz.ntmps26
    go_wp2_with fail
    refine HU.out.mono ?_
    rintro e w2 ⟨⟨v, bb, rfl, hiff, hnat⟩, rd2, ht2⟩
    have q2 := ht2.own q1 hrne
    have ht3 := ht1.trans ht2
    cases bb with
    | false =>
      obtain rfl := hO.symm.trans (valP_lst_no (HH.out.trans (map_none hiff.out rfl)))
      clear hO rd2 hiff hnat
      have x0 := q2.cell 0
      have x1 := q2.cell 1
      have x2 := q2.cell 2
      have x3 := q2.cell 3
      have x4 := q2.cell 4
      have f0 := q2.frozen 0
      have f1 := q2.frozen 1
      have f2 := q2.frozen 2
      have f3 := q2.frozen 3
      have f4 := q2.frozen 4
      simp only [List.getElem?_cons_zero, List.getElem?_cons_succ] at x0 x1 x2 x3 x4
      go_wp2
      have r5 := (q2).put5 (a := .int .i64 0) (x := .bool false) (y := .slice none 0 0) (z := .slice none 0 0) (v := .slice none 0 0)
      have r0 := r5.cell 0
      have r1 := r5.cell 1
      have r2 := r5.cell 2
      have r3 := r5.cell 3
      have r4 := r5.cell 4
      simp only [List.getElem?_cons_zero, List.getElem?_cons_succ] at r0 r1 r2 r3 r4
      refine bodyPost_ret (v := .tuple #[.agg #[.int .i64 0, .bool false, .slice none 0 0, .slice none 0 0, .slice none 0 0], .bool false]) (by simp [results, Tryz.results26, go_sem, r0, r1, r2, r3, r4]) rfl ?_
      exact valPost_no (Trn.put5 ht3 q2 (Nat.le_refl _) rfl rfl) ⟨_, _, _, _, _, _, _, _, _, _, _, rfl⟩
    | true =>
      obtain ⟨n, rfl⟩ := hnat.out rfl
      have hcn := (hiff.out n).1 ⟨rfl, rfl⟩
      have hhd : hdP t = some (n, u) := by rw [HH.out, hcn]; rfl
      have hn6 := (hdP_iff.1 hhd).1
      have HO : Hid (O = (repP (valP d) n u).map fun p => (lstT p.1, p.2)) := Lib.hid (hO.symm.trans (valP_lst_ok hhd))
      have hnI : (n : Int) ≤ 65536 := by omega
      have hbase : w.heap.size < w2.heap.size := q2.lt
      clear hiff hnat hcn hhd hO
      go_upto_region 24 with fail
      obtain ⟨W3, hW3⟩ : ∃ W3, w2.alloc (.cells #[.int .i64 2, .bool false, .slice none 0 0, .slice none 0 0, .slice none 0 0] 30) = W3 := ⟨_, rfl⟩
      rw [hW3]
      have hk3 : Keeps w2 W3 := hW3 ▸ box2 w2 _
      have p3 : Own W3 w2.heap.size 30 [.int .i64 2, .bool false, .slice none 0 0, .slice none 0 0, .slice none 0 0] := hW3 ▸ Own.new w2 _ _
      have hinv0 : LstInv d w B r w.heap.size w2.heap.size n u (.int .i64 ((0 : Nat) : Int)) W3 := ⟨0, [], none, 0, u, Nat.zero_le _, rfl, rfl, Nat.le_refl _, q2.below hk3, p3, RowV.nil, rd2.keep hk3, ht3.thenk hk3, by
        rw [Nat.sub_zero]
        cases repP (valP d) n u with
        | none => rfl
        | some p => rfl⟩
      have HINV := Lib.hid hinv0
      obtain ⟨lb, hlb⟩ : ∃ lb, w2.heap.size = lb := ⟨_, rfl⟩
      rw [hlb] at HINV hbase ⊢
      clear hinv0 p3 hk3 hW3 q2 rd2 ht3 q1 ht1 rd1 ht2 hlb
      go_wp2
      go_loopw [113] (fun i wr => LstInv d w B r w.heap.size lb n u i wr) (fun i _ => n - (intOf i).toNat)
      case atStart => exact HINV.out
      case round =>
        clear HINV
        obtain ⟨k, acc, A, cc, tk, hkn, rfl, hacc, htk, q, p, hrow, rd, ht, hrep⟩ := hrel
        have hwsz := ht.1.size
        have hlbr : lb ≠ r := by omega
        by_cases hlt : k < n
        · have hkI : (k : Int) < n := by omega
          have HC := Lib.hid (HIH.out wr B r tk rd (HE.out.turn ht hBr hB) (by omega) (by omega))
          have HACC := Lib.hid hacc
          have HREP := Lib.hid hrep
          have hnk : n - k = (n - k - 1) + 1 := by omega
          have HNK := Lib.hid hnk
          clear hacc hrep hnk rd
          go_wp2_with fail
          refine HC.out.mono ?_
          rintro e w3 ⟨ht3, hno, hyes⟩
          have ht4 := ht.trans ht3
          have q3 := ht3.own q hrne
          have p3 := ht3.own p hlbr
          have hr3 := hrow.turn ht3.1 ht3.2 (fun k hk => by simp at hk; omega)
          have hb3 := ht3.1.size
          cases hq : valP d tk with
          | none =>
            obtain ⟨V, ⟨k1, z1, A1, n1, c1, B1, m1, d1, D1, l1, e1, rfl⟩, rfl⟩ := hno hq
            have HN : Hid (O = none) := Lib.hid (by rw [HO.out, HREP.out, HNK.out, repP_fail _ _ hq]; rfl)
            clear hno hyes hq
            obtain ⟨W4, hW4⟩ : ∃ W4, w3.alloc (.cells #[.int .i64 k1, .bool z1, .slice A1 n1 c1, .slice B1 m1 d1, .slice D1 l1 e1] 30) = W4 := ⟨_, rfl⟩
            have hk4 : Keeps w3 W4 := hW4 ▸ box2 w3 _
            have q4 := q3.below hk4
            have ht5 := ht4.thenk hk4
            clear p3 hr3 p hrow q q3
            have x0 := q4.cell 0
            have x1 := q4.cell 1
            have x2 := q4.cell 2
            have x3 := q4.cell 3
            have x4 := q4.cell 4
            have f0 := q4.frozen 0
            have f1 := q4.frozen 1
            have f2 := q4.frozen 2
            have f3 := q4.frozen 3
            have f4 := q4.frozen 4
            simp only [List.getElem?_cons_zero, List.getElem?_cons_succ] at x0 x1 x2 x3 x4
            go_wp2
            have r5 := (q4).put5 (a := .int .i64 0) (x := .bool false) (y := .slice none 0 0) (z := .slice none 0 0) (v := .slice none 0 0)
            have r0 := r5.cell 0
            have r1 := r5.cell 1
            have r2 := r5.cell 2
            have r3 := r5.cell 3
            have r4 := r5.cell 4
            simp only [List.getElem?_cons_zero, List.getElem?_cons_succ] at r0 r1 r2 r3 r4
            refine bodyPost_ret (v := .tuple #[.agg #[.int .i64 0, .bool false, .slice none 0 0, .slice none 0 0, .slice none 0 0], .bool false]) (by simp [results, Tryz.results26, go_sem, r0, r1, r2, r3, r4]) rfl ?_
            rw [HN.out]
            exact valPost_no (Trn.put5 ht5 q4 (Nat.le_refl _) rfl rfl) ⟨_, _, _, _, _, _, _, _, _, _, _, rfl⟩
          | some pr =>
            obtain ⟨x, ys⟩ := pr
            obtain ⟨cs, rfl, hv, rd3⟩ := hyes x ys hq
            obtain ⟨k1, z1, A1, n1, c1, B1, m1, d1, D1, l1, e1, rfl⟩ := hv.form
            have HQ := Lib.hid hq
            clear hno hyes hq
            obtain ⟨W4, hW4⟩ : ∃ W4, w3.alloc (.cells #[.int .i64 k1, .bool z1, .slice A1 n1 c1, .slice B1 m1 d1, .slice D1 l1 e1] 30) = W4 := ⟨_, rfl⟩
            have hk4 : Keeps w3 W4 := hW4 ▸ box2 w3 _
            have b4 : Own W4 w3.heap.size 30 [.int .i64 k1, .bool z1, .slice A1 n1 c1, .slice B1 m1 d1, .slice D1 l1 e1] := hW4 ▸ Own.new w3 _ _
            obtain ⟨W5, hW5⟩ : ∃ W5, W4.alloc (.cells #[.int .i64 k1, .bool z1, .slice A1 n1 c1, .slice B1 m1 d1, .slice D1 l1 e1] 30) = W5 := ⟨_, rfl⟩
            have hk5 : Keeps W4 W5 := hW5 ▸ box2 W4 _
            have b5 : Own W5 W4.heap.size 30 [.int .i64 k1, .bool z1, .slice A1 n1 c1, .slice B1 m1 d1, .slice D1 l1 e1] := hW5 ▸ Own.new W4 _ _
            have hk45 := hk4.trans' hk5
            have hr5 := hr3.keep hk45
            have hrb := hr3.blk
            obtain ⟨xs, hown, hels⟩ := hr5
            have hv5 : ValC (fun q => lb + 1 ≤ q ∧ some q ≠ (Value.slice A k cc).ownBlock) 70000 W5 x [.int .i64 k1, .bool z1, .slice A1 n1 c1, .slice B1 m1 d1, .slice D1 l1 e1] := (hv.mono (fun g hg _ => ⟨by have := p.lt; simp only [newB] at hg; omega, fun e => by
              have := (hrow.blk g e.symm).2
              simp only [newB] at hg
              omega⟩)).keep hk45
            rw [HACC.out] at hown
            have hown0 := hown
            have p4 := p3.below hk4
            have x4 := p4.cell 4
            have b0 := b4.cell 0
            have b1 := b4.cell 1
            have b2 := b4.cell 2
            have b3' := b4.cell 3
            have b4' := b4.cell 4
            simp only [List.getElem?_cons_zero, List.getElem?_cons_succ] at x4 b0 b1 b2 b3' b4'
            have hsz5 : lb + 1 ≤ W5.heap.size := by have := p4.lt; have := hk5.size; omega
            have HOWN := Lib.hid hown
            have HB5 := Lib.hid b5
            clear hown
            have hneL : some lb ≠ (Value.slice A k cc).ownBlock := fun e => by have := (hown0.blk lb e.symm).1; omega
            have p5 := p4.below hk5
            go_wp2_with (at_builtin; refine wpList_append_cln rfl _ _ 28 rfl (lb + 1) 30 i0 (.agg #[.int .i64 0, .bool false, .slice none 0 0, .slice none 0 0, .slice none 0 0]) 5 88 Tryz.underlying28 hi hz0 hz1 hz2 rfl rfl (.slice A k cc) k xs rfl HOWN.out ⟨W4.heap.size, 0, none⟩ 1 1 [.int .i64 k1, .bool z1, .slice A1 n1 c1, .slice B1 m1 d1, .slice D1 l1 e1] rfl rfl (by decide) (own_cellsV HB5.out) (by simp [Value.oneCell']) rfl (by simp only [maxLen]; omega) (by omega) hsz5 ?_; intro V' w6 hown6 hgrow hat; obtain ⟨A6, c6, rfl, -⟩ := hown6.1.sl; have p6 := p5.grown hgrow hneL; have x6 := p6.cell 4; have f6 := p6.frozen 4; simp only [List.getElem?_cons_zero, List.getElem?_cons_succ] at x6)
            have hlw : w.heap.size < lb := hbase
            have hneB : some w.heap.size ≠ (Value.slice A k cc).ownBlock := fun e => by have := (hown0.blk _ e.symm).1; omega
            have hneR : some r ≠ (Value.slice A k cc).ownBlock := fun e => by have := (hown0.blk _ e.symm).1; omega
            have rd6 : Rd w6 B r ys := (rd3.keep hk45).same fun g hg hlt => hgrow.block g hlt fun e => by have := (hown0.blk _ e.symm).1; omega
            have rd7 : Rd (w6.setCell ⟨lb, 4, none⟩ (.slice A6 (k + 1) c6)) B r ys := rd6.same fun g hg _ => Below.heap_setCell w6 ⟨lb, 4, none⟩ _ g (by simp only; omega)
            have q7 : Own (w6.setCell ⟨lb, 4, none⟩ (.slice A6 (k + 1) c6)) w.heap.size 30 [.int .i64 0, .bool false, .slice none 0 0, .slice none 0 0, .slice none 0 0] := ((q3.below hk45).grown hgrow hneB).far (p := ⟨lb, 4, none⟩) (by simp only; omega) _
            have s7 := same32_set p6 rfl 4 (.slice A6 (k + 1) c6)
            have r6 : RowV 70000 w6 (lb + 1) (.slice A6 (k + 1) c6) (acc ++ [x]) := RowV.grow (l := acc) (by rw [HACC.out]; exact HOWN.out) hels hv5 (by rw [HACC.out]; exact hown6) hgrow hat
            have ht6 : Trn r w w6 := (ht4.thenk hk45).grown hgrow (fun g hg => by have := (hown0.blk _ hg).1; omega) (hown0.same32 hgrow)
            have hrep2 : repP (valP d) n u = (repP (valP d) (n - (k + 1)) ys).map fun p => ((acc ++ [x]) ++ p.1, p.2) := by
              rw [HREP.out, HNK.out, repP_step _ _ HQ.out, show n - (k + 1) = n - k - 1 by omega, Option.map_map]
              congr 1
              funext p
              simp
            go_roundw
            case rel => exact ⟨k + 1, acc ++ [x], A6, c6, ys, by omega, by go_num, by rw [List.length_append, HACC.out]; rfl, by
              have := valP_len HQ.out
              omega, q7, p6.set 4 _, r6.put (by simp only; omega) _ s7, rd7, ⟨ht6.1.setNew (p := ⟨lb, 4, none⟩) (by simp only; omega) _, ht6.2.trans s7⟩, hrep2⟩
            case measure => simp [intOf]; omega
        · obtain rfl : k = n := by omega
          have HO2 : Hid (O = some (lstT acc, tk)) := Lib.hid (by
            rw [HO.out, hrep, Nat.sub_self]
            simp [repP])
          have HROW := Lib.hid hrow
          have x4 := p.cell 4
          have p0 := p.cell 0
          have p1 := p.cell 1
          have p2 := p.cell 2
          have p3 := p.cell 3
          simp only [List.getElem?_cons_zero, List.getElem?_cons_succ] at x4 p0 p1 p2 p3
          have hd0 : decide ((k : Int) < (k : Int)) = false := decide_eq_false (by omega)
          clear hrep hrow
          have y0 := q.cell 0
          have y1 := q.cell 1
          have y2 := q.cell 2
          have y3 := q.cell 3
          have y4 := q.cell 4
          have f0 := q.frozen 0
          have f1 := q.frozen 1
          have f2 := q.frozen 2
          have f3 := q.frozen 3
          have f4 := q.frozen 4
          simp only [List.getElem?_cons_zero, List.getElem?_cons_succ] at y0 y1 y2 y3 y4
          go_wp2
          have r5 := (q).put5 (a := .int .i64 2) (x := .bool false) (y := .slice none 0 0) (z := .slice none 0 0) (v := .slice A k cc)
          have r0 := r5.cell 0
          have r1 := r5.cell 1
          have r2 := r5.cell 2
          have r3 := r5.cell 3
          have r4 := r5.cell 4
          simp only [List.getElem?_cons_zero, List.getElem?_cons_succ] at r0 r1 r2 r3 r4
          refine bodyPost_ret (v := .tuple #[.agg #[.int .i64 2, .bool false, .slice none 0 0, .slice none 0 0, .slice A k cc], .bool true]) (by simp [results, Tryz.results26, go_sem, r0, r1, r2, r3, r4]) rfl ?_
          rw [HO2.out]
          obtain ⟨A', c', e, hcap, hE⟩ := HROW.out.els
          rw [hacc] at e
          cases e
          rw [hacc] at hcap
          have hsame := set5_same32 (a := .int .i64 2) (x := .bool false) (y := .slice none 0 0) (z := .slice none 0 0) (v := .slice A k cc) q rfl rfl
          have hE2 : ElsC (newB w.heap.size) 70000 (set5 wr w.heap.size (.int .i64 2) (.bool false) (.slice none 0 0) (.slice none 0 0) (.slice A k cc)) A acc := hE.map (fun g hg _ => set5_block wr w.heap.size _ _ _ _ _ (by simp only [newB] at hg; omega)) hsame (fun g hg _ => by simp only [newB] at hg ⊢; omega) (Nat.le_refl _)
          refine valPost_yes (cs := [.int .i64 2, .bool false, .slice none 0 0, .slice none 0 0, .slice A k cc]) (Trn.put5 ht q (Nat.le_refl _) rfl rfl) ?_ (rd.put5 hrne.symm (by omega))
          have hmk := ValC.make (k := 2) (n := false) (g := []) (x := []) (N := 70000) (ok := newB w.heap.size) (G := .slice none 0 0) (T := .slice none 0 0) (l := acc) (L := A) (c := cc) ⟨by simp, by simp, by omega⟩ U32.nil SlK.nil (by rw [hacc]; exact hcap) hE2
          rw [hacc] at hmk
          exact hmk
end Go.Proofs.YtomjnjpehokjbaaGreatDoor

namespace Go.Proofs.YtomjnjpehokjbaaGreatDoor
open Go.RowKit Go.Shelf
theorem value_case {d : Nat} {w : World} {B r : Nat} {xs : List UInt8} (h : Rd w B r xs) (he : EnvB B w) (hB : B ≤ w.heap.size) (hl : xs.length ≤ 100000)
    (hL : ∀ t, xs = 108 :: t → Calls Tryz.prog 26 #[.pointer (some ⟨r, 0, none⟩), .int .i64 (d : Nat)] w (ValPost B r (valP d (108 :: t)) w)) :
    Calls Tryz.prog 26 #[.pointer (some ⟨r, 0, none⟩), .int .i64 (d : Nat)] w (ValPost B r (valP d xs) w) := by
  cases xs with
  | nil =>
    rw [valP_nil]
    obtain ⟨-, b, o, c, h1, -⟩ := h
    exact val_nil d h1
  | cons ch t =>
    have hl2 : t.length ≤ 100000 := by simp at hl; omega
    by_cases h1 : ch = 105
    · subst h1; exact val_int d h (by omega)
    · by_cases h2 : ch = 116
      · subst h2; exact val_txt d h he hB hl2
      · by_cases h3 : ch = 108
        · subst h3; exact hL t rfl
        · rw [valP_else d t h1 h2 h3]
          exact val_else d h h1 h2 h3
theorem value_any : ∀ d, d ≤ 8 → ValAt d
  | 0, _ => fun w B r xs h he hB hl => value_case h he hB hl fun t e => by
    subst e
    exact val_lst0 h he hB (by simp at hl; omega)
  | d + 1, hd => fun w B r xs h he hB hl => value_case h he hB hl fun t e => by
    subst e
    have := val_lst d (value_any d (by omega)) (by omega) h he hB (by simp at hl; omega)
    rw [show (((d + 1 : Nat) : Nat) : Int) = (d : Int) + 1 by omega]
    exact this
def zeroV : Value := .agg #[.int .i64 0, .bool false, .slice none 0 0, .slice none 0 0, .slice none 0 0]
/-- what Decode hands back -/
def DecPost (xs : List UInt8) (w : World) (e : Ending) (w' : World) : Prop :=
  Keeps w w' ∧ (65536 < xs.length → e = .returned (.tuple #[zeroV, .int .i64 9])) ∧ (xs.length ≤ 65536 → (decT xs = none → e = .returned (.tuple #[zeroV, .int .i64 8])) ∧ ∀ v, decT xs = some v → ∃ cs, e = .returned (.tuple #[.agg cs.toArray, .int .i64 0]) ∧ ValC anyB 70000 w' v cs)
theorem decPost_no {xs : List UInt8} {w w' : World} (hk : Keeps w w') (hl : xs.length ≤ 65536) (h : decT xs = none) : DecPost xs w (.returned (.tuple #[zeroV, .int .i64 8])) w' :=
  ⟨hk, (fun h => by omega), fun _ => ⟨fun _ => rfl, fun v hv => by rw [h] at hv; cases hv⟩⟩
theorem decPost_yes {xs : List UInt8} {w w' : World} {v : Tr} {cs : List Value} (hk : Keeps w w') (hl : xs.length ≤ 65536) (h : decT xs = some v) (hv : ValC anyB 70000 w' v cs) : DecPost xs w (.returned (.tuple #[.agg cs.toArray, .int .i64 0])) w' :=
  ⟨hk, (fun h => by omega), fun _ => ⟨(fun h2 => by rw [h] at h2; cases h2), fun v' hv' => by rw [h] at hv'; cases hv'; exact ⟨cs, rfl, hv⟩⟩⟩
/-- the bytes of an argument -/
def Byt (w : World) (A : Option Addr) (c : Nat) (xs : List UInt8) : Prop := SlK anyB w (.slice A xs.length c) xs.length (b8 xs)
theorem Byt.keep {w w' : World} {A : Option Addr} {c : Nat} {xs : List UInt8} (h : Byt w A c xs) (hk : Keeps w w') : Byt w' A c xs := SlK.below h hk
theorem keeps5 {w w' : World} {b : Nat} (h : Keeps w w') (hb : w.heap.size ≤ b) (a x y z v : Value) : Keeps w (set5 w' b a x y z v) := ((((h.set (p := ⟨b, 0, none⟩) hb a).set (p := ⟨b, 1, none⟩) hb x).set (p := ⟨b, 2, none⟩) hb y).set (p := ⟨b, 3, none⟩) hb z).set (p := ⟨b, 4, none⟩) hb v
set_option maxRecDepth 100000 in
set_option maxHeartbeats 1000000 in
theorem decode_long {w : World} {A : Option Addr} {c : Nat} {xs : List UInt8} (h : 65536 < xs.length) :
    Calls Tryz.prog 7 #[.slice A xs.length c] w (DecPost xs w) := by
  obtain ⟨W0, hW0⟩ : ∃ W0, w.alloc (.cells #[.int .i64 0, .bool false, .slice none 0 0, .slice none 0 0, .slice none 0 0] 30) = W0 := ⟨_, rfl⟩
  have hk0 : Keeps w W0 := hW0 ▸ box2 w _
  have q0 : Own W0 w.heap.size 30 [.int .i64 0, .bool false, .slice none 0 0, .slice none 0 0, .slice none 0 0] := hW0 ▸ Own.new w _ _
  have t1 : decide ((65536 : Int) < (xs.length : Int)) = true := decide_eq_true (by omega)
  have H := Lib.hid h
  clear h
  have x0 := q0.cell 0
  have x1 := q0.cell 1
  have x2 := q0.cell 2
  have x3 := q0.cell 3
  have x4 := q0.cell 4
  have f0 := q0.frozen 0
  have f1 := q0.frozen 1
  have f2 := q0.frozen 2
  have f3 := q0.frozen 3
  have f4 := q0.frozen 4
  simp only [List.getElem?_cons_zero, List.getElem?_cons_succ] at x0 x1 x2 x3 x4
  go_enter Tryz.func7, Tryz.ntmps7
  go_wp2
  have r5 := (q0).put5 (a := .int .i64 0) (x := .bool false) (y := .slice none 0 0) (z := .slice none 0 0) (v := .slice none 0 0)
  have r0 := r5.cell 0
  have r1 := r5.cell 1
  have r2 := r5.cell 2
  have r3 := r5.cell 3
  have r4 := r5.cell 4
  simp only [List.getElem?_cons_zero, List.getElem?_cons_succ] at r0 r1 r2 r3 r4
  refine bodyPost_ret (v := .tuple #[.agg #[.int .i64 0, .bool false, .slice none 0 0, .slice none 0 0, .slice none 0 0], .int .i64 9]) (by simp [results, Tryz.results7, go_sem, r0, r1, r2, r3, r4]) rfl ?_
  exact ⟨keeps5 hk0 (Nat.le_refl _) _ _ _ _ _, fun _ => rfl, fun h => by have := H.out; omega⟩
theorem value_entry {w : World} {B r : Nat} {A : Option Addr} {c : Nat} {xs : List UInt8} (hO : Own w r 58 [.slice A xs.length c]) (hS : SlK (fun k => k < B) w (.slice A xs.length c) xs.length (b8 xs)) (hr : B ≤ r) (he : EnvB B w) (hB : B ≤ w.heap.size) (hl : xs.length ≤ 65536) :
    Calls Tryz.prog 26 #[.pointer (some ⟨r, 0, none⟩), .int .i64 8] w (ValPost B r (valP 8 xs) w) := by
  cases xs with
  | nil => rw [valP_nil]; exact val_nil 8 hO
  | cons x t =>
    obtain ⟨A', c', e, -, -, -, hrow, -⟩ := id hS
    cases e
    obtain ⟨b, o, rfl, -, -⟩ := hrow (by simp)
    exact value_any 8 (by omega) w B r _ ⟨hr, b, o, c, hO, hS⟩ he hB (by omega)
set_option maxRecDepth 100000 in
set_option maxHeartbeats 2000000 in
theorem decode_short {w : World} {A : Option Addr} {c : Nat} {xs : List UInt8} (hb : Byt w A c xs) (he : EnvB w.heap.size w) (hl : xs.length ≤ 65536) :
    Calls Tryz.prog 7 #[.slice A xs.length c] w (DecPost xs w) := by
  obtain ⟨W0, hW0⟩ : ∃ W0, w.alloc (.cells #[.int .i64 0, .bool false, .slice none 0 0, .slice none 0 0, .slice none 0 0] 30) = W0 := ⟨_, rfl⟩
  have hk0 : Keeps w W0 := hW0 ▸ box2 w _
  have q0 : Own W0 w.heap.size 30 [.int .i64 0, .bool false, .slice none 0 0, .slice none 0 0, .slice none 0 0] := hW0 ▸ Own.new w _ _
  obtain ⟨W1, hW1⟩ : ∃ W1, W0.alloc (.cells #[.slice A xs.length c] 58) = W1 := ⟨_, rfl⟩
  have hk1 : Keeps W0 W1 := hW1 ▸ box2 W0 _
  have o1 : Own W1 W0.heap.size 58 [.slice A xs.length c] := hW1 ▸ Own.new W0 _ _
  have hr0 : w.heap.size < W0.heap.size := q0.lt
  have hk01 := hk0.trans' hk1
  have q1 := q0.below hk1
  have hne : w.heap.size ≠ W0.heap.size := by omega
  have hS : SlK (fun k => k < w.heap.size) W1 (.slice A xs.length c) xs.length (b8 xs) := (SlK.map hb (fun _ _ _ => rfl) (fun k _ hk => hk)).below hk01
  have HV := Lib.hid (value_entry o1 hS (by omega) (he.keep hk01) hk01.size hl)
  have HE := Lib.hid he
  have hlI : (xs.length : Int) ≤ 65536 := by omega
  have t1 : decide ((65536 : Int) < (xs.length : Int)) = false := decide_eq_false (by omega)
  have hsz1 := hk01.size
  clear o1 hS hb he
  go_enter Tryz.func7, Tryz.ntmps7
  go_wp2_with fail
  refine HV.out.mono ?_
  rintro e w2 ⟨ht2, hno, hyes⟩
  have q2 := ht2.own q1 hne
  have hk2 : Keeps w w2 := hk01.trans (ht2.below (by omega) hsz1)
  cases hq : valP 8 xs with
  | none =>
    obtain ⟨V, ⟨k1, z1, A1, n1, c1, B1, m1, d1, D1, l1, e1, rfl⟩, rfl⟩ := hno hq
    have HN := Lib.hid (decT_none hq)
    clear hno hyes hq ht2
    obtain ⟨W4, hW4⟩ : ∃ W4, w2.alloc (.cells #[.int .i64 k1, .bool z1, .slice A1 n1 c1, .slice B1 m1 d1, .slice D1 l1 e1] 30) = W4 := ⟨_, rfl⟩
    have hk4 : Keeps w2 W4 := hW4 ▸ box2 w2 _
    have q4 := q2.below hk4
    have hkk := hk2.trans' hk4
    have x0 := q4.cell 0
    have x1 := q4.cell 1
    have x2 := q4.cell 2
    have x3 := q4.cell 3
    have x4 := q4.cell 4
    have f0 := q4.frozen 0
    have f1 := q4.frozen 1
    have f2 := q4.frozen 2
    have f3 := q4.frozen 3
    have f4 := q4.frozen 4
    simp only [List.getElem?_cons_zero, List.getElem?_cons_succ] at x0 x1 x2 x3 x4
    go_wp2
    have r5 := (q4).put5 (a := .int .i64 0) (x := .bool false) (y := .slice none 0 0) (z := .slice none 0 0) (v := .slice none 0 0)
    have r0 := r5.cell 0
    have r1 := r5.cell 1
    have r2 := r5.cell 2
    have r3 := r5.cell 3
    have r4 := r5.cell 4
    simp only [List.getElem?_cons_zero, List.getElem?_cons_succ] at r0 r1 r2 r3 r4
    refine bodyPost_ret (v := .tuple #[.agg #[.int .i64 0, .bool false, .slice none 0 0, .slice none 0 0, .slice none 0 0], .int .i64 8]) (by simp [results, Tryz.results7, go_sem, r0, r1, r2, r3, r4]) rfl ?_
    exact decPost_no (keeps5 hkk (Nat.le_refl _) _ _ _ _ _) hl HN.out
  | some pr =>
    obtain ⟨x, ys⟩ := pr
    obtain ⟨cs, rfl, hv, rd⟩ := hyes x ys hq
    obtain ⟨k1, z1, A1, n1, c1, B1, m1, d1, D1, l1, e1, rfl⟩ := hv.form
    have HQ := Lib.hid hq
    clear hno hyes hq ht2
    obtain ⟨W4, hW4⟩ : ∃ W4, w2.alloc (.cells #[.int .i64 k1, .bool z1, .slice A1 n1 c1, .slice B1 m1 d1, .slice D1 l1 e1] 30) = W4 := ⟨_, rfl⟩
    have hk4 : Keeps w2 W4 := hW4 ▸ box2 w2 _
    have q4 := q2.below hk4
    have hkk := hk2.trans' hk4
    have b4 : Own W4 w2.heap.size 30 [.int .i64 k1, .bool z1, .slice A1 n1 c1, .slice B1 m1 d1, .slice D1 l1 e1] := hW4 ▸ Own.new w2 _ _
    obtain ⟨-, bb, oo, cc, hO, -⟩ := rd.keep hk4
    have rx := hO.cell 0
    simp only [List.getElem?_cons_zero] at rx
    have hv4 := hv.keep hk4
    have hvA : ValC anyB 800000 W4 x [.int .i64 k1, .bool z1, .slice A1 n1 c1, .slice B1 m1 d1, .slice D1 l1 e1] := hv4.any.le (by omega)
    have HC := Lib.hid (check_any hvA (HE.out.keep hkk).1.1)
    have HV4 := Lib.hid hv4
    have v0 := b4.cell 0
    have v1 := b4.cell 1
    have v2 := b4.cell 2
    have v3 := b4.cell 3
    have v4 := b4.cell 4
    simp only [List.getElem?_cons_zero, List.getElem?_cons_succ] at v0 v1 v2 v3 v4
    clear hv hv4 hvA rd hO
    cases ys with
    | cons y yr =>
      have HN := Lib.hid (decT_rest HQ.out)
      have tl : decide ((0 : Int) < ((y :: yr).length : Int)) = true := decide_eq_true (by simp only [List.length_cons]; omega)
      have tl2 : 0 < (y :: yr).length := by simp
      obtain ⟨N, hN⟩ : ∃ N, (y :: yr).length = N := ⟨_, rfl⟩
      rw [hN] at tl tl2 rx
      clear hN HC
      have x0 := q4.cell 0
      have x1 := q4.cell 1
      have x2 := q4.cell 2
      have x3 := q4.cell 3
      have x4 := q4.cell 4
      have f0 := q4.frozen 0
      have f1 := q4.frozen 1
      have f2 := q4.frozen 2
      have f3 := q4.frozen 3
      have f4 := q4.frozen 4
      simp only [List.getElem?_cons_zero, List.getElem?_cons_succ] at x0 x1 x2 x3 x4
      go_wp2
      have r5 := (q4).put5 (a := .int .i64 0) (x := .bool false) (y := .slice none 0 0) (z := .slice none 0 0) (v := .slice none 0 0)
      have r0 := r5.cell 0
      have r1 := r5.cell 1
      have r2 := r5.cell 2
      have r3 := r5.cell 3
      have r4 := r5.cell 4
      simp only [List.getElem?_cons_zero, List.getElem?_cons_succ] at r0 r1 r2 r3 r4
      refine bodyPost_ret (v := .tuple #[.agg #[.int .i64 0, .bool false, .slice none 0 0, .slice none 0 0, .slice none 0 0], .int .i64 8]) (by simp [results, Tryz.results7, go_sem, r0, r1, r2, r3, r4]) rfl ?_
      exact decPost_no (keeps5 hkk (Nat.le_refl _) _ _ _ _ _) hl HN.out
    | nil =>
      simp only [List.length_nil] at rx
      by_cases hc : chkC x = 0
      · have HN := Lib.hid (decT_ok HQ.out hc)
        rw [hc] at HC
        clear hc
        go_wp2_with fail
        refine HC.out.mono ?_
        rintro e w5 ⟨rfl, hk5⟩
        have q5 := q4.below hk5
        have b5 := b4.below hk5
        have hkk5 := hkk.trans' hk5
        clear v0 v1 v2 v3 v4
        have v0 := b5.cell 0
        have v1 := b5.cell 1
        have v2 := b5.cell 2
        have v3 := b5.cell 3
        have v4 := b5.cell 4
        simp only [List.getElem?_cons_zero, List.getElem?_cons_succ] at v0 v1 v2 v3 v4
        have x0 := q5.cell 0
        have x1 := q5.cell 1
        have x2 := q5.cell 2
        have x3 := q5.cell 3
        have x4 := q5.cell 4
        have f0 := q5.frozen 0
        have f1 := q5.frozen 1
        have f2 := q5.frozen 2
        have f3 := q5.frozen 3
        have f4 := q5.frozen 4
        simp only [List.getElem?_cons_zero, List.getElem?_cons_succ] at x0 x1 x2 x3 x4
        go_wp2
        have r5 := (q5).put5 (a := .int .i64 k1) (x := .bool z1) (y := .slice A1 n1 c1) (z := .slice B1 m1 d1) (v := .slice D1 l1 e1)
        have r0 := r5.cell 0
        have r1 := r5.cell 1
        have r2 := r5.cell 2
        have r3 := r5.cell 3
        have r4 := r5.cell 4
        simp only [List.getElem?_cons_zero, List.getElem?_cons_succ] at r0 r1 r2 r3 r4
        refine bodyPost_ret (v := .tuple #[.agg #[.int .i64 k1, .bool z1, .slice A1 n1 c1, .slice B1 m1 d1, .slice D1 l1 e1], .int .i64 0]) (by simp [results, Tryz.results7, go_sem, r0, r1, r2, r3, r4]) rfl ?_
        have hv6 := (HV4.out.keep hk5).mono (ok' := fun g => w.heap.size < g) (fun g hg _ => by have := hk01.size; have := q1.lt; simp only [newB] at hg; omega)
        exact decPost_yes (keeps5 hkk5 (Nat.le_refl _) _ _ _ _ _) hl HN.out (hv6.put5 (by omega) q5 rfl rfl).any
      · have HN := Lib.hid (decT_chk HQ.out hc)
        have tc : (chkC x != 0) = true := by simpa using hc
        obtain ⟨cx, hcx⟩ : ∃ cx, chkC x = cx := ⟨_, rfl⟩
        rw [hcx] at HC tc
        clear hc hcx
        go_wp2_with fail
        refine HC.out.mono ?_
        rintro e w5 ⟨rfl, hk5⟩
        have q5 := q4.below hk5
        have hkk5 := hkk.trans' hk5
        clear v0 v1 v2 v3 v4
        have x0 := q5.cell 0
        have x1 := q5.cell 1
        have x2 := q5.cell 2
        have x3 := q5.cell 3
        have x4 := q5.cell 4
        have f0 := q5.frozen 0
        have f1 := q5.frozen 1
        have f2 := q5.frozen 2
        have f3 := q5.frozen 3
        have f4 := q5.frozen 4
        simp only [List.getElem?_cons_zero, List.getElem?_cons_succ] at x0 x1 x2 x3 x4
        go_wp2
        have r5 := (q5).put5 (a := .int .i64 0) (x := .bool false) (y := .slice none 0 0) (z := .slice none 0 0) (v := .slice none 0 0)
        have r0 := r5.cell 0
        have r1 := r5.cell 1
        have r2 := r5.cell 2
        have r3 := r5.cell 3
        have r4 := r5.cell 4
        simp only [List.getElem?_cons_zero, List.getElem?_cons_succ] at r0 r1 r2 r3 r4
        refine bodyPost_ret (v := .tuple #[.agg #[.int .i64 0, .bool false, .slice none 0 0, .slice none 0 0, .slice none 0 0], .int .i64 8]) (by simp [results, Tryz.results7, go_sem, r0, r1, r2, r3, r4]) rfl ?_
        exact decPost_no (keeps5 hkk5 (Nat.le_refl _) _ _ _ _ _) hl HN.out
theorem decode_any {w : World} {A : Option Addr} {c : Nat} {xs : List UInt8} (hb : Byt w A c xs) (he : EnvB w.heap.size w) : Calls Tryz.prog 7 #[.slice A xs.length c] w (DecPost xs w) := by
  by_cases hl : xs.length ≤ 65536
  · exact decode_short hb he hl
  · exact decode_long (by omega)
end Go.Proofs.YtomjnjpehokjbaaGreatDoor
