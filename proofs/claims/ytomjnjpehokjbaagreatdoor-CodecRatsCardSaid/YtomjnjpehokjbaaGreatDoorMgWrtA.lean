/- codec.write: what it keeps, its plain laws. (*bytes.Buffer).Write of no bytes, and of some. codec.write of a text: the walk. codec.write of an integer: the walk. codec.write of a list, and of any value: the walk. codec.Encode, Check, Size: the walks. -/
import Derived.Test.YtomjnjpehokjbaaGreatDoorMgVIdx
import Derived.Test.YtomjnjpehokjbaaGreatDoorMgBytes
import Derived.Test.YtomjnjpehokjbaaGreatDoorMgText
import Derived.Test.YtomjnjpehokjbaaGreatDoorMgNum
import Derived.Lib.BufferKept
namespace Go.Proofs.YtomjnjpehokjbaaGreatDoor
open Go.RowKit Go.Shelf

/-- the table of powers, its block below B -/
def PowB (B : Nat) (w : World) : Prop := PowTab w ∧ 4 < B
theorem PowB.keep {B : Nat} {w w' : World} (h : PowB B w) (hb : Below B w w') : PowB B w' := by
  refine ⟨?_, h.2⟩
  have ht := h.1
  unfold PowTab Lib.TabIs World.var? at ht ⊢
  have hg : Tryz.prog.globalNamed "internal/strconv.uint64pow10" = some 4 := by rfl
  rw [hg] at ht ⊢
  simp only [Option.bind_some] at ht ⊢
  rw [hb.block _ h.2]
  exact ht
theorem PowB.of {w : World} (h : PowTab w) : PowB w.heap.size w := by
  refine ⟨h, ?_⟩
  unfold PowTab Lib.TabIs World.var? at h
  have hg : Tryz.prog.globalNamed "internal/strconv.uint64pow10" = some 4 := by rfl
  rw [hg] at h
  simp only [Option.bind_some] at h
  rcases Nat.lt_or_ge 4 w.heap.size with h' | h'
  · exact h'
  · rw [Array.getElem?_eq_none h'] at h; simp at h
abbrev BufL (B b : Nat) (l : List UInt8) (w : World) : Prop := Buf B b (Lib.byteCells l) w
theorem itoaL_any (x : Nat) (hx : x ≤ 9223372036854775807) (w : World) (h : PowTab w) :
    Calls Tryz.prog 86 #[.int .i64 (x : Nat)] w fun e w' => e = .returned (.string ⟨(Lib.decDigits x).toArray⟩) ∧ Keeps w w' := by
  refine (Tryz.strconv_Itoa (x : Nat) (by omega) (by omega) w h).mono ?_
  rintro e w' ⟨rfl, k, os, rfl⟩
  exact ⟨by rw [Lib.itoa_nonneg], Go.Lib.below_grow _ _ (Nat.le_refl _) _ _⟩
/-- what write hands back: whether all fits, and then the bytes -/
def WrPost (B b : Nat) (pre out : List UInt8) (short : Bool) (w : World) (e : Ending) (w' : World) : Prop :=
  ∃ ok : Bool, e = .returned (.bool ok) ∧ Wrote B b w w' ∧ (ok = (short && decide ((pre ++ out).length ≤ 65536))) ∧ (ok = true → BufL B b (pre ++ out) w')
def WrtAt (d : Nat) : Prop := ∀ (t : Tr) (cs : List Value) (w0 w : World) (B b : Nat) (pre : List UInt8), ValC anyB 800000 w0 t cs → Keeps w0 w → w0.heap.size = B → vldD d t = true → PowB B w → BufL B b pre w → B ≤ w.heap.size → pre.length + 30 * (d + 1) ≤ 70000 →
  Calls Tryz.prog 48 #[.pointer (some ⟨b, 0, none⟩), .agg cs.toArray] w (WrPost B b pre (enD d t) (shD d t) w)
theorem decDigits_pos (u : Nat) : 0 < (Lib.decDigits u).length := by
  rw [Lib.decDigits]
  split <;> simp
theorem textL_pos (z : Int) : 0 < (textL z).length := by
  unfold textL
  split
  · simp
  · have := decDigits_pos z.natAbs
    rw [List.length_append]
    omega
theorem textL_head (z : Int) : ((textL z).head? = some 45) ↔ z < 0 := by
  unfold textL
  by_cases h0 : z = 0
  · subst h0; simp
  · rw [if_neg h0]
    by_cases hz : z < 0
    · simp [hz]
    · rw [if_neg hz, List.nil_append]
      have h1 : Lib.decDigits z.natAbs = txt z.natAbs := (txt_pos _ (by omega)).symm
      obtain ⟨h2, -, -⟩ := txt_digits z.natAbs
      rw [h1]
      constructor
      · intro h
        cases ht : txt z.natAbs with
        | nil => rw [ht] at h; cases h
        | cons c r =>
          rw [ht] at h
          have hc : c = 45 := by simpa using h
          rw [ht, hc] at h2
          exact absurd h2 (by simp [isDg])
      · intro h; omega
theorem enD_int (d : Nat) (z : Int) : enD d (intT z) = 105 :: (textL z ++ [59]) := by cases d <;> simp [enD, intT, cnt_rep]
theorem shD_int (d : Nat) (z : Int) : shD d (intT z) = shortZ z := by cases d <;> simp [shD, intT, cnt_rep]
theorem enD_txt (d : Nat) (x : List UInt8) : enD d (txtT x) = 116 :: (Lib.decDigits x.length ++ 58 :: x) := by cases d <;> simp [enD, txtT]
theorem shD_txt (d : Nat) (x : List UInt8) : shD d (txtT x) = true := by cases d <;> simp [shD, txtT]
theorem enD_lst (d : Nat) (l : List Tr) : enD (d + 1) (lstT l) = 108 :: (Lib.decDigits l.length ++ 58 :: (l.map (enD d)).flatten) := by simp [enD, lstT]
theorem shD_lst (d : Nat) (l : List Tr) : shD (d + 1) (lstT l) = l.all (shD d) := by simp [shD, lstT]
theorem bytes_head {tb : ByteArray} (h : 0 < tb.size) : tb.data.toList.head? = some tb[0] := by
  obtain ⟨⟨l⟩⟩ := tb
  cases l with
  | nil => simp [ByteArray.size] at h
  | cons a r => rfl
theorem tb_head {tb : ByteArray} {z : Int} (h : 0 < tb.size) (hl : tb.data.toList = textL z) : tb[0].toNat = 45 ↔ z < 0 := by
  rw [← textL_head z, ← hl, bytes_head h]
  constructor
  · intro h
    have : tb[0] = 45 := UInt8.toNat_inj.1 h
    rw [this]
  · intro h
    have : tb[0] = 45 := by simpa using h
    rw [this]
    rfl
theorem shortZ_iff (z : Int) : shortZ z = true ↔ (textL z).length ≤ 2000 + if z < 0 then 1 else 0 := by unfold shortZ; simp
theorem wstr_any {w : World} {B b : Nat} {pre l : List UInt8} {s : ByteArray} (hb : BufL B b pre w) (hB : B ≤ w.heap.size) (hs : s.data.toList = l) (hl : pre.length + l.length ≤ 100000000) :
    Calls Tryz.prog 85 #[.pointer (some ⟨b, 0, none⟩), .string s] w fun e w' => (∃ V, e = .returned (.tuple #[V, .nilIface])) ∧ BufL B b (pre ++ l) w' ∧ Wrote B b w w' := by
  have hsz : s.size = l.length := by rw [← hs, Array.length_toList]; rfl
  refine (Tryz.Buffer_WriteString_k B b _ s w hb hB (one_cells pre) (by rw [byteCells_length]; omega)).mono ?_
  rintro e w' ⟨rfl, h1, h2, h3⟩
  refine ⟨⟨_, rfl⟩, ?_, h2, h3⟩
  rw [hs, ← byteCells_append] at h1
  exact h1
theorem blen_any {w : World} {B b : Nat} {pre : List UInt8} (hb : BufL B b pre w) :
    Calls Tryz.prog 88 #[.pointer (some ⟨b, 0, none⟩)] w fun e w' => e = .returned (.int .i64 (pre.length : Nat)) ∧ ∃ n, w' = w.drewN n := by
  refine (Tryz.Buffer_Len B b _ w hb).mono ?_
  rintro e w' ⟨rfl, h⟩
  exact ⟨by rw [byteCells_length], h⟩
theorem Wrote.drewN {B b : Nat} {w w2 : World} (h : Wrote B b w w2) (n : Nat) : Wrote B b w (w2.drewN n) := ⟨below_drewN h.1 n, h.2.drewN n⟩
theorem wrPost_mk {B b : Nat} {pre out : List UInt8} {w w2 : World} {n : Nat} (h : Wrote B b w w2) (hb : BufL B b (pre ++ out) w2) {N : Nat} (hN : (pre ++ out).length = N) :
    WrPost B b pre out true w (.returned (.bool (decide ((N : Int) ≤ 65536)))) (w2.drewN n) := by
  refine ⟨_, rfl, h.drewN n, ?_, fun _ => hb.drewN n⟩
  rw [Bool.true_and, hN]
  apply decide_eq_decide.2
  omega
theorem wrPost_no {B b : Nat} {pre out : List UInt8} {s : Bool} {w w2 : World} (h : Wrote B b w w2) (hN : (s && decide ((pre ++ out).length ≤ 65536)) = false) :
    WrPost B b pre out s w (.returned (.bool false)) w2 := ⟨false, rfl, h, hN.symm, fun h => by cases h⟩
end Go.Proofs.YtomjnjpehokjbaaGreatDoor

namespace Go.Proofs.YtomjnjpehokjbaaGreatDoor
open Go.RowKit Go.Shelf

set_option maxRecDepth 100000 in
set_option maxHeartbeats 1000000 in
theorem write0_any {w : World} {B b : Nat} {pre : List UInt8} {A : Option Addr} {c : Nat} (h : BufL B b pre w) :
    Calls Tryz.prog 87 #[.pointer (some ⟨b, 0, none⟩), .slice A 0 c] w fun e w' => (∃ V, e = .returned (.tuple #[V, .nilIface])) ∧ BufL B b pre w' ∧ Wrote B b w w' := by
  obtain ⟨hB, v0, lr, hbk, -, -⟩ := id h
  have c2 : w.cell? ⟨b, 2, none⟩ = some (.int .i8 lr) := by rw [Lib.cell_of_heap hbk]; rfl
  have f2 : w.frozen? ⟨b, 2, none⟩ = false := Lib.frozen_of_heap hbk 2
  have h' : BufL B b pre (w.setCell ⟨b, 2, none⟩ (.int .i8 0)) := h.setLast 0
  have hbel0 : Below B w (w.setCell ⟨b, 2, none⟩ (.int .i8 0)) := (Below.refl B w).setCell (p := ⟨b, 2, none⟩) hB _
  have hk0 : Lib.OthersKept 5 (some b) w (w.setCell ⟨b, 2, none⟩ (.int .i8 0)) := (Lib.OthersKept.refl _ _ w).setCell ⟨b, 2, none⟩ rfl _
  have hinfo : (Tryz.prog.info? 5).map (·.size) = some 1 := by
    obtain ⟨i0, hi, -, hz1, -⟩ := info_parts info_u8
    rw [hi]; simp [hz1]
  have hce : ∀ d dLen dCap W, (Builtin.copy_ #[22, 22] 3 #[.slice d dLen dCap, .slice A 0 c]).run Tryz.prog W = .ok (goInt 0) W := fun d dLen dCap W => run_copy_none W 22 22 3 5 d A dLen dCap 0 c Tryz.underlying22 hinfo (by simp)
  have HT := Lib.hid (Tryz.Buffer_tryGrow_kept B b 0 _ _ h')
  clear hbk v0
  go_enter Tryz.func87, Tryz.ntmps87
  go_wp2_with fail
  refine HT.out.mono ?_
  rintro e W1 (⟨rfl, xs, hxl, hI, hbel, hk⟩ | ⟨rfl, rfl, hnr⟩)
  · clear h' c2 f2 HT
    have hx0 : xs = [] := List.eq_nil_of_length_eq_zero hxl
    subst hx0
    rw [List.append_nil] at hI
    have hI2 : BufL B b pre W1 := hI
    obtain ⟨-, lr2, hc⟩ := hI.cases
    rcases hc with ⟨hb0, hbk2⟩ | ⟨g, cap, cur, hbk2, -, -, hnc, hcm, -, -, -⟩
    · have d0 : W1.cell? ⟨b, 0, none⟩ = some (.slice none 0 0) := by rw [Lib.cell_of_heap hbk2]; rfl
      rw [hb0]
      go_wp2
      all_goals (go_ret2; exact ⟨⟨_, rfl⟩, hI2, hbel0.trans hbel, hk0.trans hk⟩)
    · have d0 : W1.cell? ⟨b, 0, none⟩ = some (.slice (some ⟨g, 0, none⟩) (Lib.byteCells pre).length cap) := by rw [Lib.cell_of_heap hbk2]; rfl
      unfold maxLen at hcm
      go_wp2
      all_goals (go_ret2; exact ⟨⟨_, rfl⟩, hI2, hbel0.trans hbel, hk0.trans hk⟩)
  · obtain ⟨_, _, _, _, hlt⟩ := hnr
    omega
theorem write_any {w : World} {B b : Nat} {pre l : List UInt8} {A : Option Addr} {c : Nat} (h : BufL B b pre w) (hBw : B ≤ w.heap.size) (hs : SlK (fun k => k < B) w (.slice A l.length c) l.length (b8 l)) (hl : pre.length + l.length ≤ 100000000) :
    Calls Tryz.prog 87 #[.pointer (some ⟨b, 0, none⟩), .slice A l.length c] w fun e w' => (∃ V, e = .returned (.tuple #[V, .nilIface])) ∧ BufL B b (pre ++ l) w' ∧ Wrote B b w w' := by
  cases l with
  | nil => rw [List.append_nil]; exact write0_any h
  | cons x r =>
    obtain ⟨A', c', e, -, -, -, hr, hok⟩ := hs
    cases e
    obtain ⟨k, o, rfl, -, hc⟩ := hr (by simp)
    have hkB := hok k o (by simp) rfl
    refine (Tryz.Buffer_Write_k B b _ (Lib.byteCells (x :: r)) ⟨k, o, none⟩ (x :: r).length c w h hBw (one_cells pre) (byteCells_length _) hkB (fun j v hj => ?_) (one_cells _) (by rw [byteCells_length]; omega)).mono ?_
    · obtain ⟨rfl, hlt⟩ := b8_cells _ j v hj
      rw [Lib.addr_add]
      exact hc j hlt
    · rintro e w' ⟨rfl, h1, h2, h3⟩
      rw [← byteCells_append] at h1
      exact ⟨⟨_, rfl⟩, h1, h2, h3⟩
end Go.Proofs.YtomjnjpehokjbaaGreatDoor

namespace Go.Proofs.YtomjnjpehokjbaaGreatDoor
open Go.RowKit Go.Shelf
theorem cat2 (a c : UInt8) {tb : ByteArray} {l : List UInt8} (h : tb.data.toList = l) : ((⟨#[a]⟩ : ByteArray) ++ tb ++ ⟨#[c]⟩).data.toList = a :: (l ++ [c]) := by
  rw [← h]; simp
theorem Wrote.slK {B b : Nat} {w w' : World} {v : Value} {n : Nat} {f : Nat → Value} (h : Wrote B b w w') (hs : SlK (fun k => k < B) w v n f) : SlK (fun k => k < B) w' v n f := hs.map (fun k hk _ => h.1.block k hk) (fun _ h _ => h)
set_option maxRecDepth 100000 in
set_option maxHeartbeats 1000000 in
theorem wr_txt (d : Nat) (x : List UInt8) (cs : List Value) (w0 w : World) (B b : Nat) (pre : List UInt8) (hv0 : ValC anyB 800000 w0 (txtT x) cs) (hw0 : Keeps w0 w) (hB0 : w0.heap.size = B) (ht : PowB B w) (hb : BufL B b pre w) (hB : B ≤ w.heap.size) (hp : pre.length ≤ 70000) :
    Calls Tryz.prog 48 #[.pointer (some ⟨b, 0, none⟩), .agg cs.toArray] w (WrPost B b pre (enD d (txtT x)) (shD d (txtT x)) w) := by
  rw [enD_txt, shD_txt]
  have hv : ValC (fun k => k < B) 800000 w (txtT x) cs := (hv0.mono (fun b _ hb => by omega)).keep hw0
  clear hv0 hw0 hB0
  obtain ⟨A, n1, c1, A2, n2, c2, L, c, rfl, ⟨-, hbx, -⟩, ⟨rfl, -⟩, ⟨rfl, hT⟩, -, -⟩ := ValC.open_ hv
  obtain ⟨W1, hW1⟩ : ∃ W1, w.alloc (.cells #[.int .i64 1, .bool false, .slice A ([] : List Nat).length c1, .slice A2 x.length c2, .slice L ([] : List Tr).length c] 30) = W1 := ⟨_, rfl⟩
  have hk1 : Keeps w W1 := hW1 ▸ box2 w _
  have q1 : Own W1 w.heap.size 30 [.int .i64 1, .bool false, .slice A ([] : List Nat).length c1, .slice A2 x.length c2, .slice L ([] : List Tr).length c] := hW1 ▸ Own.new w _ _
  simp only [List.length_nil] at q1 hW1 ⊢
  have hlt : w.heap.size < W1.heap.size := q1.lt
  have hb1 := hb.old hk1
  have hsl := SlK.below hT hk1
  have hxI : (x.length : Int) ≤ 800000 := by omega
  obtain ⟨tb, htb⟩ : ∃ tb : ByteArray, (⟨(Lib.decDigits x.length).toArray⟩ : ByteArray) = tb := ⟨_, rfl⟩
  have hI := itoaL_any x.length (by omega) W1 (ht.keep (hk1.mono hB)).1
  rw [htb] at hI
  have hcat := cat2 116 58 (show tb.data.toList = Lib.decDigits x.length by rw [← htb])
  have hdl : (Lib.decDigits x.length).length ≤ 9 := (decDigits_len x.length (by omega)).1
  have htbs : tb.size ≤ 9 := by rw [← htb]; exact Nat.le_trans (Nat.le_of_eq List.size_toArray) hdl
  have htbI : (tb.size : Int) ≤ 9 := by omega
  have HI := Lib.hid hI
  have HCAT := Lib.hid hcat
  have HDL := Lib.hid hdl
  have HTXT := Lib.hid hsl
  have HBUF := Lib.hid hb1
  have hne : w.heap.size ≠ b := fun e => by have := hb.lt; omega
  clear hv hT hI hcat hdl htb hb hb1 hsl
  have x0 := q1.cell 0
  have x1 := q1.cell 1
  have x2 := q1.cell 2
  have x3 := q1.cell 3
  have x4 := q1.cell 4
  simp only [List.getElem?_cons_zero, List.getElem?_cons_succ] at x0 x1 x2 x3 x4
  go_enter Tryz.func48, Tryz.ntmps48
  go_wp2_with fail
  refine HI.out.mono ?_
  rintro e w1 ⟨rfl, hk2⟩
  go_wp2_with fail
  refine (wstr_any (HBUF.out.old hk2) (by have := hk2.size; have := hk1.size; omega) HCAT.out (by have := HDL.out; simp only [List.length_cons, List.length_append, List.length_nil]; omega)).mono ?_
  rintro e w2 ⟨⟨V2, rfl⟩, hb2, hw2⟩
  have hww := (Wrote.of (hk1.trans' hk2) hB).trans hw2
  have q2 := hw2.own (q1.below hk2) hne (by decide)
  have hs2 := hw2.slK (HTXT.out.below hk2)
  have HB2 := Lib.hid hb2
  have HS2 := Lib.hid hs2
  clear hb2 hs2
  clear x0 x1 x2 x3 x4
  have x0 := q2.cell 0
  have x1 := q2.cell 1
  have x2 := q2.cell 2
  have x3 := q2.cell 3
  have x4 := q2.cell 4
  simp only [List.getElem?_cons_zero, List.getElem?_cons_succ] at x0 x1 x2 x3 x4
  by_cases hlim : x.length ≤ 65536
  · have t1 : decide ((65536 : Int) < (x.length : Int)) = false := decide_eq_false (by omega)
    have HSZ : Hid (B ≤ w2.heap.size) := Lib.hid (by have := hww.size; omega)
    go_wp2_with fail
    refine (write_any HB2.out HSZ.out HS2.out (by have := HDL.out; simp only [List.length_cons, List.length_append, List.length_nil]; omega)).mono ?_
    rintro e w3 ⟨⟨V3, rfl⟩, hb3, hw3⟩
    have he : pre ++ 116 :: (Lib.decDigits x.length ++ [58]) ++ x = pre ++ 116 :: (Lib.decDigits x.length ++ 58 :: x) := by simp
    rw [he] at hb3
    have hbl := blen_any hb3
    obtain ⟨N, hN⟩ : ∃ N, (pre ++ 116 :: (Lib.decDigits x.length ++ 58 :: x)).length = N := ⟨_, rfl⟩
    rw [hN] at hbl
    have HN := Lib.hid hN
    have HBL := Lib.hid hbl
    have hw4 := hww.trans hw3
    clear hN hbl he
    go_wp2_with fail
    refine HBL.out.mono ?_
    rintro e w4 ⟨rfl, n4, rfl⟩
    go_wp2
    go_ret
    exact wrPost_mk hw4 hb3 HN.out
  · have t1 : decide ((65536 : Int) < (x.length : Int)) = true := decide_eq_true (by omega)
    have HNO : Hid ((true && decide ((pre ++ 116 :: (Lib.decDigits x.length ++ 58 :: x)).length ≤ 65536)) = false) := Lib.hid (by
      rw [Bool.true_and]
      apply decide_eq_false
      simp only [List.length_cons, List.length_append]
      omega)
    go_wp2
    go_ret
    exact wrPost_no hww HNO.out
end Go.Proofs.YtomjnjpehokjbaaGreatDoor

namespace Go.Proofs.YtomjnjpehokjbaaGreatDoor
open Go.RowKit Go.Shelf
set_option maxRecDepth 100000 in
set_option maxHeartbeats 1000000 in
theorem wr_int (d : Nat) (z : Int) (cs : List Value) (w0 w : World) (B b : Nat) (pre : List UInt8) (hv0 : ValC anyB 800000 w0 (intT z) cs) (hw0 : Keeps w0 w) (ht : PowB B w) (hb : BufL B b pre w) (hB : B ≤ w.heap.size) (hp : pre.length ≤ 70000) :
    Calls Tryz.prog 48 #[.pointer (some ⟨b, 0, none⟩), .agg cs.toArray] w (WrPost B b pre (enD d (intT z)) (shD d (intT z)) w) := by
  rw [enD_int, shD_int]
  have hv := hv0.keep hw0
  clear hv0 hw0
  obtain ⟨A, n1, c1, A2, n2, c2, L, c, rfl, ⟨hbg, -, -⟩, ⟨rfl, hG⟩, -, -, -⟩ := ValC.open_ hv
  obtain ⟨W1, hW1⟩ : ∃ W1, w.alloc (.cells #[.int .i64 0, .bool (decide (z < 0)), .slice A (dig z.natAbs).length c1, .slice A2 n2 c2, .slice L ([] : List Tr).length c] 30) = W1 := ⟨_, rfl⟩
  have hk1 : Keeps w W1 := hW1 ▸ box2 w _
  have q1 : Own W1 w.heap.size 30 [.int .i64 0, .bool (decide (z < 0)), .slice A (dig z.natAbs).length c1, .slice A2 n2 c2, .slice L ([] : List Tr).length c] := hW1 ▸ Own.new w _ _
  have hI : IntNum W1 (.agg #[.bool (decide (z < 0)), .slice A (dig z.natAbs).length c1]) z := ⟨_, _, ⟨_, rfl, hG.below hk1⟩, cnt_rep z, by omega⟩
  obtain ⟨tb, htb⟩ : ∃ tb : ByteArray, (⟨(textL z).toArray⟩ : ByteArray) = tb := ⟨_, rfl⟩
  have hsz : tb.size = (textL z).length := by rw [← htb]; exact List.size_toArray
  have HT := Lib.hid (text_num hI (ht.keep (hk1.mono hB)).1)
  rw [htb] at HT
  have hpos := textL_pos z
  have h0 : 0 < tb.size := by omega
  have hlist : tb.data.toList = textL z := by rw [← htb]
  have HL := Lib.hid hlist
  have hhd := tb_head h0 hlist
  have HB := Lib.hid (hb.old hk1)
  have hsz1 := hk1.size
  have HH := Lib.hid hhd
  have HS := Lib.hid hsz
  clear hv hG hI hlist hhd htb hb hpos hsz
  have x0 := q1.cell 0
  have x1 := q1.cell 1
  have x2 := q1.cell 2
  have x3 := q1.cell 3
  have x4 := q1.cell 4
  simp only [List.getElem?_cons_zero, List.getElem?_cons_succ] at x0 x1 x2 x3 x4
  simp only [List.length_nil] at x4 q1 hW1
  have hcases : (shortZ z = true ∧ tb.size ≤ 2001 ∧ (z < 0 ∨ (¬ z < 0 ∧ tb.size ≤ 2000))) ∨ (shortZ z = false ∧ (2001 < tb.size ∨ (¬ z < 0 ∧ tb.size = 2001))) := by
    have h1 := shortZ_iff z
    rw [← HS.out] at h1
    cases hq : shortZ z with
    | true =>
      have := h1.1 hq
      split at this
      · exact .inl ⟨rfl, by omega, .inl (by assumption)⟩
      · exact .inl ⟨rfl, by omega, .inr ⟨by assumption, by omega⟩⟩
    | false =>
      have : ¬ (tb.size ≤ 2000 + if z < 0 then 1 else 0) := fun h => by rw [h1.2 h] at hq; cases hq
      split at this
      · exact .inr ⟨rfl, .inl (by omega)⟩
      · by_cases h : tb.size = 2001
        · exact .inr ⟨rfl, .inr ⟨by assumption, h⟩⟩
        · exact .inr ⟨rfl, .inl (by omega)⟩
  have hcat : ((⟨#[105]⟩ : ByteArray) ++ tb ++ ⟨#[59]⟩).data.toList = 105 :: (textL z ++ [59]) := by rw [← HL.out]; simp
  have HCAT := Lib.hid hcat
  clear hcat
  rcases hcases with ⟨hq, hn, hz⟩ | ⟨hq, hz⟩
  · rw [hq]
    have hnI : (tb.size : Int) ≤ 2001 := by omega
    have t1 : decide ((2001 : Int) < (tb.size : Int)) = false := decide_eq_false (by omega)
    have hlen : pre.length + (105 :: (textL z ++ [59]) : List UInt8).length ≤ 100000000 := by
      have := HS.out
      simp only [List.length_cons, List.length_append, List.length_nil]
      omega
    have HLEN := Lib.hid hlen
    rcases hz with hz | ⟨hz, hn2⟩
    · have hh : ((tb[0].toNat : Int) != 45) = false := by have := HH.out.2 hz; simp [this]
      clear hz hq hn hlen
      go_enter Tryz.func48, Tryz.ntmps48
      go_wp2_with fail
      refine HT.out.mono ?_
      rintro e w1 ⟨rfl, hk2⟩
      go_wp2_with fail
      refine (wstr_any (HB.out.old hk2) (by have := (hk2).size; omega) HCAT.out HLEN.out).mono ?_
      rintro e w2 ⟨⟨V2, rfl⟩, hb2, hw2⟩
      have hww := (Wrote.of (hk1.trans' hk2) hB).trans hw2
      have hbl := blen_any hb2
      obtain ⟨N, hN⟩ : ∃ N, (pre ++ 105 :: (textL z ++ [59])).length = N := ⟨_, rfl⟩
      rw [hN] at hbl
      have HN := Lib.hid hN
      have HBL := Lib.hid hbl
      clear hN hbl
      go_wp2_with fail
      refine HBL.out.mono ?_
      rintro e w3 ⟨rfl, n3, rfl⟩
      go_wp2
      go_ret
      exact wrPost_mk hww hb2 HN.out
    · have hh : ((tb[0].toNat : Int) != 45) = true := by
        have h1 : ¬ tb[0].toNat = 45 := fun h => hz (HH.out.1 h)
        simp; omega
      have t2 : decide ((2000 : Int) < (tb.size : Int)) = false := decide_eq_false (by omega)
      clear hz hq hn hlen
      go_enter Tryz.func48, Tryz.ntmps48
      go_wp2_with fail
      refine HT.out.mono ?_
      rintro e w1 ⟨rfl, hk2⟩
      go_wp2_with fail
      refine (wstr_any (HB.out.old hk2) (by have := (hk2).size; omega) HCAT.out HLEN.out).mono ?_
      rintro e w2 ⟨⟨V2, rfl⟩, hb2, hw2⟩
      have hww := (Wrote.of (hk1.trans' hk2) hB).trans hw2
      have hbl := blen_any hb2
      obtain ⟨N, hN⟩ : ∃ N, (pre ++ 105 :: (textL z ++ [59])).length = N := ⟨_, rfl⟩
      rw [hN] at hbl
      have HN := Lib.hid hN
      have HBL := Lib.hid hbl
      clear hN hbl
      go_wp2_with fail
      refine HBL.out.mono ?_
      rintro e w3 ⟨rfl, n3, rfl⟩
      go_wp2
      go_ret
      exact wrPost_mk hww hb2 HN.out
  · rw [hq]
    have hno : (false && decide ((pre ++ 105 :: (textL z ++ [59])).length ≤ 65536)) = false := rfl
    have HNO := Lib.hid hno
    rcases hz with hz | ⟨hz, hn2⟩
    · have t1 : decide ((2001 : Int) < (tb.size : Int)) = true := decide_eq_true (by omega)
      clear hq hno hz
      go_enter Tryz.func48, Tryz.ntmps48
      go_wp2_with fail
      refine HT.out.mono ?_
      rintro e w1 ⟨rfl, hk2⟩
      go_wp2
      go_ret
      exact wrPost_no (Wrote.of (hk1.trans' hk2) hB) HNO.out
    · have t1 : decide ((2001 : Int) < (tb.size : Int)) = false := decide_eq_false (by omega)
      have t2 : decide ((2000 : Int) < (tb.size : Int)) = true := decide_eq_true (by omega)
      have hh : ((tb[0].toNat : Int) != 45) = true := by
        have h1 : ¬ tb[0].toNat = 45 := fun h => hz (HH.out.1 h)
        simp; omega
      clear hq hno hz hn2
      go_enter Tryz.func48, Tryz.ntmps48
      go_wp2_with fail
      refine HT.out.mono ?_
      rintro e w1 ⟨rfl, hk2⟩
      go_wp2
      go_ret
      exact wrPost_no (Wrote.of (hk1.trans' hk2) hB) HNO.out
end Go.Proofs.YtomjnjpehokjbaaGreatDoor

namespace Go.Proofs.YtomjnjpehokjbaaGreatDoor
open Go.RowKit Go.Shelf
/-- the bytes of the first k elements -/
def encs (d : Nat) (l : List Tr) (k : Nat) : List UInt8 := ((l.take k).map (enD d)).flatten
theorem encs_zero (d : Nat) (l : List Tr) : encs d l 0 = [] := by simp [encs]
theorem encs_succ {d : Nat} {l : List Tr} {k : Nat} {x : Tr} (h : l[k]? = some x) : encs d l (k + 1) = encs d l k ++ enD d x := by
  obtain ⟨h1, rfl⟩ := List.getElem?_eq_some_iff.1 h
  unfold encs
  rw [List.take_succ_eq_append_getElem h1, List.map_append, List.flatten_append, List.map_singleton, List.flatten_singleton]
theorem encs_all (d : Nat) (l : List Tr) : encs d l l.length = (l.map (enD d)).flatten := by rw [encs, List.take_length]
theorem encs_le (d : Nat) (l : List Tr) (k : Nat) : (encs d l k).length ≤ ((l.map (enD d)).flatten).length := by
  have h : l.map (enD d) = (l.take k).map (enD d) ++ (l.drop k).map (enD d) := by rw [← List.map_append, List.take_append_drop]
  rw [h, List.flatten_append, List.length_append]
  unfold encs
  omega
theorem all_take_succ {p : Tr → Bool} {l : List Tr} {k : Nat} {x : Tr} (h : l[k]? = some x) (h1 : (l.take k).all p = true) (h2 : p x = true) : (l.take (k + 1)).all p = true := by
  obtain ⟨h3, rfl⟩ := List.getElem?_eq_some_iff.1 h
  rw [List.take_succ_eq_append_getElem h3, List.all_append, h1]
  simp [h2]
set_option maxRecDepth 100000 in
set_option maxHeartbeats 2000000 in
theorem wr_lst (d : Nat) (hd : d ≤ 8) (IH : WrtAt d) (l : List Tr) (cs : List Value) (w0 w : World) (B b : Nat) (pre : List UInt8) (hv0 : ValC anyB 800000 w0 (lstT l) cs) (hw0 : Keeps w0 w) (hB0 : w0.heap.size = B) (hvl : ∀ x ∈ l, vldD d x = true) (ht : PowB B w) (hb : BufL B b pre w) (hB : B ≤ w.heap.size) (hp : pre.length + 30 * (d + 2) ≤ 70000) :
    Calls Tryz.prog 48 #[.pointer (some ⟨b, 0, none⟩), .agg cs.toArray] w (WrPost B b pre (enD (d + 1) (lstT l)) (shD (d + 1) (lstT l)) w) := by
  rw [enD_lst, shD_lst]
  obtain ⟨A, n1, c1, A2, n2, c2, L, c, rfl, ⟨-, -, hbl⟩, ⟨rfl, -⟩, ⟨rfl, -⟩, -, hE⟩ := ValC.open_ hv0
  obtain ⟨W1, hW1⟩ : ∃ W1, w.alloc (.cells #[.int .i64 2, .bool false, .slice A ([] : List Nat).length c1, .slice A2 ([] : List UInt8).length c2, .slice L l.length c] 30) = W1 := ⟨_, rfl⟩
  have hk1 : Keeps w W1 := hW1 ▸ box2 w _
  have q1 : Own W1 w.heap.size 30 [.int .i64 2, .bool false, .slice A ([] : List Nat).length c1, .slice A2 ([] : List UInt8).length c2, .slice L l.length c] := hW1 ▸ Own.new w _ _
  simp only [List.length_nil] at q1 hW1 ⊢
  have hlt : w.heap.size < W1.heap.size := q1.lt
  have hb1 := hb.old hk1
  have hlI : (l.length : Int) ≤ 800000 := by omega
  obtain ⟨tb, htb⟩ : ∃ tb : ByteArray, (⟨(Lib.decDigits l.length).toArray⟩ : ByteArray) = tb := ⟨_, rfl⟩
  have hI := itoaL_any l.length (by omega) W1 (ht.keep (hk1.mono hB)).1
  rw [htb] at hI
  have hcat := cat2 108 58 (show tb.data.toList = Lib.decDigits l.length by rw [← htb])
  have hdl : (Lib.decDigits l.length).length ≤ 9 := (decDigits_len l.length (by omega)).1
  have htbs : tb.size ≤ 9 := by rw [← htb]; exact Nat.le_trans (Nat.le_of_eq List.size_toArray) hdl
  have htbI : (tb.size : Int) ≤ 9 := by omega
  obtain ⟨p2, hp2⟩ : ∃ p2, pre ++ 108 :: (Lib.decDigits l.length ++ [58]) = p2 := ⟨_, rfl⟩
  have hp2l : p2.length ≤ pre.length + 11 := by
    rw [← hp2]
    simp only [List.length_cons, List.length_append, List.length_nil]
    omega
  have hfin : pre ++ 108 :: (Lib.decDigits l.length ++ 58 :: (l.map (enD d)).flatten) = p2 ++ (l.map (enD d)).flatten := by rw [← hp2]; simp
  have HFIN := Lib.hid hfin
  have HP2 := Lib.hid hp2
  have HI := Lib.hid hI
  have HCAT := Lib.hid hcat
  have HDL := Lib.hid hdl
  have HBUF := Lib.hid hb1
  have HE := Lib.hid hE
  have HVL := Lib.hid hvl
  have HIH : Hid (WrtAt d) := Lib.hid IH
  have HT := Lib.hid ht
  have hne : w.heap.size ≠ b := fun e => by have := hb.lt; omega
  have HB0 := Lib.hid hB0
  clear hB0
  clear hv0 hE hvl IH hI hcat hdl htb hb hb1 ht hfin hp2
  have x0 := q1.cell 0
  have x1 := q1.cell 1
  have x2 := q1.cell 2
  have x3 := q1.cell 3
  have x4 := q1.cell 4
  simp only [List.getElem?_cons_zero, List.getElem?_cons_succ] at x0 x1 x2 x3 x4
  go_enter Tryz.func48, Tryz.ntmps48
  go_wp2_with fail
  refine HI.out.mono ?_
  rintro e w1 ⟨rfl, hk2⟩
  go_wp2_with fail
  refine (wstr_any (HBUF.out.old hk2) (by have := hk2.size; have := hk1.size; omega) HCAT.out (by have := HDL.out; simp only [List.length_cons, List.length_append, List.length_nil]; omega)).mono ?_
  rintro e w2 ⟨⟨V2, rfl⟩, hb2, hw2⟩
  rw [HP2.out] at hb2
  have hww := (Wrote.of (hk1.trans' hk2) hB).trans hw2
  have q2 := hw2.own (q1.below hk2) hne (by decide)
  have HB2 := Lib.hid hb2
  clear hb2 hw2
  clear x0 x1 x2 x3 x4
  have x0 := q2.cell 0
  have x1 := q2.cell 1
  have x2 := q2.cell 2
  have x3 := q2.cell 3
  have x4 := q2.cell 4
  simp only [List.getElem?_cons_zero, List.getElem?_cons_succ] at x0 x1 x2 x3 x4
  go_wp2
  go_loopw [21] (fun i wr => ∃ k : Nat, k ≤ l.length ∧ i = .int .i64 (k : Nat) ∧ Hid (BufL B b (p2 ++ encs d l k) wr) ∧ Wrote B b w wr ∧ Hid ((l.take k).all (shD d) = true) ∧ Hid (k = 0 ∨ (p2 ++ encs d l k).length ≤ 65536)) (fun i _ => l.length - (intOf i).toNat)
  case atStart => exact ⟨0, Nat.zero_le _, rfl, Lib.hid (by rw [encs_zero, List.append_nil]; exact HB2.out), hww, Lib.hid (by simp), Lib.hid (.inl rfl)⟩
  case round =>
    obtain ⟨k, hk, rfl, HBR, hwr, HAL, HLE⟩ := hrel
    by_cases hlt2 : k < l.length
    · have hkI : (k : Int) < l.length := by omega
      obtain ⟨x, hx⟩ : ∃ x, l[k]? = some x := ⟨_, List.getElem?_eq_getElem hlt2⟩
      have hkr : Keeps w0 wr := Below.trans hw0 (hwr.1.mono (Nat.le_of_eq HB0.out))
      obtain ⟨bb, o, k0, n0, A0, m0, d0, B0, l0, e0, D0, j0, f0, rfl, -, hbs, ⟨y0, y1, y2, y3, y4⟩, hv⟩ := HE.out.get5 hx
      have g0 := (hkr.cell (p := ⟨bb, o + k * 5, none⟩) hbs).trans y0
      have g1 := (hkr.cell (p := ⟨bb, o + k * 5 + 1, none⟩) hbs).trans y1
      have g2 := (hkr.cell (p := ⟨bb, o + k * 5 + 2, none⟩) hbs).trans y2
      have g3 := (hkr.cell (p := ⟨bb, o + k * 5 + 3, none⟩) hbs).trans y3
      have g4 := (hkr.cell (p := ⟨bb, o + k * 5 + 4, none⟩) hbs).trans y4
      clear y0 y1 y2 y3 y4
      obtain ⟨W3, hW3⟩ : ∃ W3, wr.alloc (.cells #[.int .i64 k0, .bool n0, .slice A0 m0 d0, .slice B0 l0 e0, .slice D0 j0 f0] 30) = W3 := ⟨_, rfl⟩
      have hk3 : Keeps wr W3 := hW3 ▸ box2 wr _
      have q3 : Own W3 wr.heap.size 30 [.int .i64 k0, .bool n0, .slice A0 m0 d0, .slice B0 l0 e0, .slice D0 j0 f0] := hW3 ▸ Own.new wr _ _
      have hwsz := hwr.size
      have hw3 := hwr.trans (Wrote.of (b := b) hk3 (by omega))
      have HC := Lib.hid (HIH.out x _ w0 W3 B b (p2 ++ encs d l k) hv (hkr.trans' hk3) HB0.out (HVL.out x (List.mem_of_getElem? hx)) (HT.out.keep hw3.1) (HBR.out.old hk3) (by have := hk3.size; omega) (by
        rcases HLE.out with rfl | h
        · rw [encs_zero, List.append_nil]; omega
        · omega))
      have HX := Lib.hid hx
      have z0 := q3.cell 0
      have z1 := q3.cell 1
      have z2 := q3.cell 2
      have z3 := q3.cell 3
      have z4 := q3.cell 4
      simp only [List.getElem?_cons_zero, List.getElem?_cons_succ] at z0 z1 z2 z3 z4
      clear hx hv q3
      go_wp2_with fail
      refine HC.out.mono ?_
      rintro e w4 ⟨ok, rfl, hw4, hok, hbo⟩
      have HOK := Lib.hid hok
      have HBO := Lib.hid hbo
      have hw5 := hw3.trans hw4
      clear hok hbo hw4
      cases ok with
      | true =>
        have h1 := HOK.out.symm
        rw [Bool.and_eq_true, decide_eq_true_eq] at h1
        have HB3 : Hid (BufL B b (p2 ++ encs d l (k + 1)) w4) := Lib.hid (by rw [encs_succ HX.out, ← List.append_assoc]; exact HBO.out rfl)
        have HA3 : Hid ((l.take (k + 1)).all (shD d) = true) := Lib.hid (all_take_succ HX.out HAL.out h1.1)
        have HL3 : Hid (k + 1 = 0 ∨ (p2 ++ encs d l (k + 1)).length ≤ 65536) := Lib.hid (.inr (by rw [encs_succ HX.out, ← List.append_assoc]; exact h1.2))
        clear h1
        go_wp2
        go_roundw
        case rel => exact ⟨k + 1, by omega, by go_num, HB3, hw5, HA3, HL3⟩
        case measure => simp [intOf]; omega
      | false =>
        have HNO : Hid ((l.all (shD d) && decide ((pre ++ 108 :: (Lib.decDigits l.length ++ 58 :: (l.map (enD d)).flatten)).length ≤ 65536)) = false) := Lib.hid (by
          have h1 := HOK.out.symm
          rw [Bool.and_eq_false_iff] at h1 ⊢
          rcases h1 with h1 | h1
          · refine .inl ?_
            cases hq : l.all (shD d) with
            | false => rfl
            | true =>
              have := List.all_eq_true.1 hq x (List.mem_of_getElem? HX.out)
              rw [this] at h1
              cases h1
          · refine .inr (decide_eq_false fun h2 => ?_)
            have h3 := of_decide_eq_false h1
            have h4 := encs_le d l (k + 1)
            rw [HFIN.out, List.length_append] at h2
            rw [encs_succ HX.out] at h4
            simp only [List.length_append] at h3 h4
            omega)
        go_wp2
        go_ret
        exact wrPost_no hw5 HNO.out
    · obtain rfl : k = l.length := by omega
      have hbf := HBR.out
      rw [encs_all] at hbf
      have hal := HAL.out
      rw [List.take_length] at hal
      have HAL2 := Lib.hid hal
      have hbf2 : BufL B b (pre ++ 108 :: (Lib.decDigits l.length ++ 58 :: (l.map (enD d)).flatten)) wr := by rw [HFIN.out]; exact hbf
      have hbl := blen_any hbf2
      obtain ⟨N, hN⟩ : ∃ N, (pre ++ 108 :: (Lib.decDigits l.length ++ 58 :: (l.map (enD d)).flatten)).length = N := ⟨_, rfl⟩
      rw [hN] at hbl
      have HN := Lib.hid hN
      have HBL := Lib.hid hbl
      have HB5 := Lib.hid hbf2
      clear hN hbl hbf2 hbf hal
      go_wp2_with fail
      refine HBL.out.mono ?_
      rintro e w4 ⟨rfl, n4, rfl⟩
      go_wp2
      go_ret
      rw [HAL2.out]
      exact wrPost_mk hwr HB5.out HN.out
theorem write_all : ∀ d, d ≤ 8 → WrtAt d
  | 0, _ => fun t cs w0 w B b pre hv hw0 hB0 hvl ht hb hB hp => by
    rcases vld_cases hvl with ⟨z, rfl⟩ | ⟨x, rfl⟩ | ⟨e, l, h, -⟩
    · exact wr_int 0 z cs w0 w B b pre hv hw0 ht hb hB (by omega)
    · exact wr_txt 0 x cs w0 w B b pre hv hw0 hB0 ht hb hB (by omega)
    · cases h
  | d + 1, hd => fun t cs w0 w B b pre hv hw0 hB0 hvl ht hb hB hp => by
    rcases vld_cases hvl with ⟨z, rfl⟩ | ⟨x, rfl⟩ | ⟨e, l, h, rfl, hl⟩
    · exact wr_int _ z cs w0 w B b pre hv hw0 ht hb hB (by omega)
    · exact wr_txt _ x cs w0 w B b pre hv hw0 hB0 ht hb hB (by omega)
    · obtain rfl : e = d := by omega
      exact wr_lst e (by omega) (write_all e (by omega)) l cs w0 w B b pre hv hw0 hB0 hl ht hb hB (by omega)
end Go.Proofs.YtomjnjpehokjbaaGreatDoor

namespace Go.Proofs.YtomjnjpehokjbaaGreatDoor
open Go.RowKit Go.Shelf
/-- what Encode hands back -/
def EncPost (t : Tr) (w : World) (e : Ending) (w' : World) : Prop :=
  ∃ V, e = .returned (.tuple #[V, .int .i64 (chkC t)]) ∧ Keeps w w' ∧ (chkC t = 0 → w'.ownsRow w.heap.size 5 1 V (enD 8 t).length (Lib.byteCells (enD 8 t))) ∧ (chkC t ≠ 0 → V = .slice none 0 0)
theorem chk_no {t : Tr} (h : vldD 8 t = false) : chkC t = 1 := by unfold chkC; rw [h]; rfl
theorem chk_long {t : Tr} (h : vldD 8 t = true) (h2 : (shD 8 t && decide ((enD 8 t).length ≤ 65536)) = false) : chkC t = 9 := by unfold chkC; rw [h, h2]; rfl
theorem chk_ok {t : Tr} (h : vldD 8 t = true) (h2 : (shD 8 t && decide ((enD 8 t).length ≤ 65536)) = true) : chkC t = 0 := by unfold chkC; rw [h, h2]; rfl
theorem encPost_err {t : Tr} {w w' : World} {c : Int} (h : chkC t = c) (hc : c ≠ 0) (hk : Keeps w w') : EncPost t w (.returned (.tuple #[.slice none 0 0, .int .i64 c])) w' := ⟨_, by rw [h], hk, fun h0 => absurd (h.symm.trans h0) hc, fun _ => rfl⟩
set_option maxRecDepth 100000 in
set_option maxHeartbeats 1000000 in
theorem encode_any {t : Tr} {cs : List Value} {w : World} (hv : ValC anyB 800000 w t cs) (ht : PowTab w) : Calls Tryz.prog 22 #[.agg cs.toArray] w (EncPost t w) := by
  obtain ⟨k0, n0, A0, m0, d0, B0, l0, e0, D0, j0, f0, rfl⟩ := hv.form
  obtain ⟨W1, hW1⟩ : ∃ W1, w.alloc (.cells #[.int .i64 k0, .bool n0, .slice A0 m0 d0, .slice B0 l0 e0, .slice D0 j0 f0] 30) = W1 := ⟨_, rfl⟩
  have hk1 : Keeps w W1 := hW1 ▸ box2 w _
  have q1 : Own W1 w.heap.size 30 [.int .i64 k0, .bool n0, .slice A0 m0 d0, .slice B0 l0 e0, .slice D0 j0 f0] := hW1 ▸ Own.new w _ _
  have HV := Lib.hid hv
  have HVL := Lib.hid (vvalid_any 8 (by omega) t _ W1 (hv.keep hk1))
  have HPT := Lib.hid ht
  clear hv ht
  have x0 := q1.cell 0
  have x1 := q1.cell 1
  have x2 := q1.cell 2
  have x3 := q1.cell 3
  have x4 := q1.cell 4
  simp only [List.getElem?_cons_zero, List.getElem?_cons_succ] at x0 x1 x2 x3 x4
  cases hq : vldD 8 t with
  | false =>
    have HN := Lib.hid (chk_no hq)
    rw [hq] at HVL
    clear hq
    go_enter Tryz.func22, Tryz.ntmps22
    go_wp2_with fail
    refine HVL.out.mono ?_
    rintro e w1 ⟨rfl, hk2⟩
    go_wp2
    go_ret2
    exact encPost_err HN.out (by omega) (hk1.trans' hk2)
  | true =>
    have HQ := Lib.hid hq
    rw [hq] at HVL
    clear hq
    go_enter Tryz.func22, Tryz.ntmps22
    go_wp2_with fail
    refine HVL.out.mono ?_
    rintro e w1 ⟨rfl, hk2⟩
    have q2 := q1.below hk2
    have hkw := hk1.trans' hk2
    obtain ⟨W3, hW3⟩ : ∃ W3, w1.alloc (.cells #[.slice none 0 0, .int .i64 0, .int .i8 0] 79) = W3 := ⟨_, rfl⟩
    have hk3 : Keeps w1 W3 := hW3 ▸ box2 w1 _
    have hbf : BufL w1.heap.size w1.heap.size [] W3 := hW3 ▸ Lib.fresh_isBuffer _ _ w1
    have q3 := q2.below hk3
    have hkw3 := hkw.trans' hk3
    have hv3 := HV.out.keep hkw
    have hpb : PowB w1.heap.size W3 := (PowB.of (HPT.out.keep hkw)).keep (hk3.mono (Nat.le_refl _))
    have HW := Lib.hid (write_all 8 (by omega) t _ w1 W3 w1.heap.size w1.heap.size [] hv3 hk3 rfl HQ.out hpb hbf hk3.size (by simp))
    have hsz := hkw.size
    clear hv3 hpb hbf
    clear x0 x1 x2 x3 x4
    have x0 := q3.cell 0
    have x1 := q3.cell 1
    have x2 := q3.cell 2
    have x3 := q3.cell 3
    have x4 := q3.cell 4
    simp only [List.getElem?_cons_zero, List.getElem?_cons_succ] at x0 x1 x2 x3 x4
    go_wp2_with fail
    refine HW.out.mono ?_
    rintro e w4 ⟨ok, rfl, hw4, hok, hbo⟩
    have HOK := Lib.hid hok
    have HBO := Lib.hid hbo
    have hk4 : Keeps w w4 := hw4.keeps hkw3 hsz
    clear hok hbo
    cases ok with
    | false =>
      have HN := Lib.hid (chk_long HQ.out (by have := HOK.out; simpa using this.symm))
      go_wp2
      go_ret2
      exact encPost_err HN.out (by omega) hk4
    | true =>
      have HN := Lib.hid (chk_ok HQ.out (by have := HOK.out; simpa using this.symm))
      have HBT := Lib.hid (Tryz.Buffer_Bytes w1.heap.size w1.heap.size _ w4 (HBO.out rfl))
      go_wp2_with fail
      refine HBT.out.mono ?_
      rintro e w5 ⟨V, rfl, hown, n5, rfl⟩
      go_wp2
      go_ret2
      rw [byteCells_length] at hown
      simp only [List.nil_append] at hown
      refine ⟨V, by rw [HN.out]; first | done | rfl, below_drewN hk4 n5, fun _ => World.ownsRow.down hown hsz, fun h => absurd HN.out h⟩
set_option maxRecDepth 100000 in
set_option maxHeartbeats 1000000 in
theorem check_any {t : Tr} {cs : List Value} {w : World} (hv : ValC anyB 800000 w t cs) (ht : PowTab w) : Calls Tryz.prog 27 #[.agg cs.toArray] w fun e w' => e = .returned (.int .i64 (chkC t)) ∧ Keeps w w' := by
  obtain ⟨k0, n0, A0, m0, d0, B0, l0, e0, D0, j0, f0, rfl⟩ := hv.form
  obtain ⟨W1, hW1⟩ : ∃ W1, w.alloc (.cells #[.int .i64 k0, .bool n0, .slice A0 m0 d0, .slice B0 l0 e0, .slice D0 j0 f0] 30) = W1 := ⟨_, rfl⟩
  have hk1 : Keeps w W1 := hW1 ▸ box2 w _
  have q1 : Own W1 w.heap.size 30 [.int .i64 k0, .bool n0, .slice A0 m0 d0, .slice B0 l0 e0, .slice D0 j0 f0] := hW1 ▸ Own.new w _ _
  have HE := Lib.hid (encode_any (hv.keep hk1) (ht.keep hk1))
  clear hv ht
  have x0 := q1.cell 0
  have x1 := q1.cell 1
  have x2 := q1.cell 2
  have x3 := q1.cell 3
  have x4 := q1.cell 4
  simp only [List.getElem?_cons_zero, List.getElem?_cons_succ] at x0 x1 x2 x3 x4
  go_enter Tryz.func27, Tryz.ntmps27
  go_wp2_with fail
  refine HE.out.mono ?_
  rintro e w1 ⟨V, rfl, hk2, -, -⟩
  go_wp2
  go_ret
  exact ⟨rfl, hk1.trans' hk2⟩
/-- the number of the canonical bytes, 0 where there are none -/
def szC (t : Tr) : Nat := if chkC t = 0 then (enD 8 t).length else 0
theorem szC_ok {t : Tr} (h : chkC t = 0) : szC t = (enD 8 t).length := if_pos h
theorem szC_no {t : Tr} (h : chkC t ≠ 0) : szC t = 0 := if_neg h
end Go.Proofs.YtomjnjpehokjbaaGreatDoor
