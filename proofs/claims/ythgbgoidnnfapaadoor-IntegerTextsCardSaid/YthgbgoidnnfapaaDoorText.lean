/- The walk of integer.Text. -/
import Derived.Test.YthgbgoidnnfapaaDoorBack
import Derived.Test.YthgbgoidnnfapaaDoorIntE
import Derived.Test.YthgbgoidnnfapaaDoorMem2
import Derived.Test.YthgbgoidnnfapaaDoorRefA
import Derived.Test.YthgbgoidnnfapaaDoorTxt
import Derived.Test.YthgbgoidnnfapaaDoorShelf
import Derived.Lib.LaidTab
import Derived.Lib.AppendIntMem
import Derived.Lib.BufferOld
namespace Go.Proofs.YthgbgoidnnfapaaDoor
open Go.RowKit Go.Shelf
attribute [local go_sem] Oper.semAt_some

section
variable {W W' : World} {B b : Nat} {bs : List Value}
abbrev Buf (B b : Nat) (bs : List Value) (w : World) : Prop := Lib.IsBuffer 68 5 B b bs w
/-- what a write into the buffer b keeps -/
def Wrote (B b : Nat) (W W' : World) : Prop := Below B W W' ∧ Lib.OthersKept 5 (some b) W W'
theorem Wrote.refl (B b : Nat) (W : World) : Wrote B b W W := ⟨Below.refl _ _, Lib.OthersKept.refl _ _ _⟩
theorem Wrote.trans {W'' : World} (h : Wrote B b W W') (k : Wrote B b W' W'') : Wrote B b W W'' := ⟨h.1.trans k.1, h.2.trans k.2⟩
theorem Wrote.of (h : Keeps W W') (hB : B ≤ W.heap.size) : Wrote B b W W' :=
  ⟨h.mono hB, fun k _ hk _ _ => (h.block k ((Array.getElem?_eq_some_iff.1 hk).1)).trans hk⟩
theorem Wrote.own {k : Nat} {t : TypeId} {vs : List Value} (h : Wrote B b W W') (ho : Own W k t vs) (hk : k ≠ b) (ht : t ≠ 5) : Own W' k t vs :=
  h.2 k _ ho (by simpa using hk) (fun c fz e => ht (by cases e; rfl))
theorem Wrote.size (h : Wrote B b W W') : W.heap.size ≤ W'.heap.size := h.1.size
theorem Wrote.from {m : Nat} (h : Wrote B b W W') (hb : Buf B b bs W) : KeepsFrom m W W' := by
  refine ⟨h.size, fun k o _ hk ho => ?_⟩
  obtain ⟨_, v, lr, hbk, _⟩ := hb
  refine h.2 k o hk (fun e => ?_) (fun c fz e => by subst e; simp [Obj.isCells] at ho)
  cases e
  rw [hbk] at hk
  cases hk
  simp [Obj.isCells] at ho
theorem Wrote.keeps {w : World} (h : Wrote B b W W') (hk : Keeps w W) (hB : w.heap.size ≤ B) : Keeps w W' := Below.trans hk (h.1.mono hB)
theorem Wrote.back {k : Nat} {t : TypeId} {vs : List Value} {n : Nat} (h : Wrote B b W W') (ho : Own W k t vs) (hk : k ≠ b) (ht : t ≠ 5) (hn : n ≤ B) : BackKp n k W W' :=
  ⟨h.1.mono hn, (h.own ho hk ht).trans ho.symm⟩
end
theorem Buf.nc {A B : World} {row : Option Nat} {B0 b : Nat} {bs : List Value} (h : Buf B0 b bs A) (hg : A.grownBy B row) (hr : ∀ r, row = some r → ∃ o : Obj, A.heap[r]? = some o ∧ o.isCells = false) : Buf B0 b bs B := by
  obtain ⟨hB, v, lr, hb, ⟨hl, hrow⟩, hne⟩ := h
  refine ⟨hB, v, lr, Own.nc (vs := [v, .int .i64 0, .int .i8 lr]) hb hg hr, ⟨hl, hrow.imp id ?_⟩, hne⟩
  rintro ⟨g, cap, cur, e, h1, h2, h3⟩
  exact ⟨g, cap, cur, e, h1, (by have := Own.nc (vs := cur.toList) (by simpa [Own] using h2) hg hr; simpa [Own] using this), h3⟩
theorem TabIs.keep {P : Program} {n : String} {g : Nat} {k : IntKind} {zs : List Int} {w w' : World} (hg : P.globalNamed n = some g) (h : Lib.TabIs P w n k zs) (hb : Keeps w w') : Lib.TabIs P w' n k zs := by
  unfold Lib.TabIs World.var? at h ⊢
  rw [hg] at h ⊢
  simp only [Option.bind_some] at h ⊢
  have hlt : g < w.heap.size := by
    rcases Nat.lt_or_ge g w.heap.size with h' | h'
    · exact h'
    · rw [Array.getElem?_eq_none h'] at h; simp at h
  rw [hb.block g hlt]
  exact h

def PowTab (w : World) : Prop := Lib.TabIs Tryd.prog w "internal/strconv.uint64pow10" .u64 Lib.pow10Tab
theorem PowTab.keep {w w' : World} (h : PowTab w) (hk : Keeps w w') : PowTab w' := TabIs.keep (g := 3) (by rfl) h hk
theorem itoa_any (x : Nat) (hx : x < 1000000000) (w : World) (h : PowTab w) :
    Calls Tryd.prog 67 #[.int .i64 (x : Nat)] w fun e w' => e = .returned (.string ⟨(Lib.decDigits x).toArray⟩) ∧ Keeps w w' := by
  refine (Tryd.strconv_Itoa (x : Nat) (by omega) (by omega) w h).mono ?_
  rintro e w' ⟨rfl, k, os, rfl⟩
  exact ⟨by rw [Lib.itoa_nonneg], Go.Lib.below_grow _ _ (Nat.le_refl _) _ _⟩
def sgnB (neg : Bool) : List UInt8 := if neg then [45] else []
theorem one_cells (l : List UInt8) : ∀ v ∈ Lib.byteCells l, v.oneCell' = true := by
  intro v hv
  simp only [Lib.byteCells, List.mem_map] at hv
  obtain ⟨b, -, rfl⟩ := hv
  rfl
theorem byteCells_append (a b : List UInt8) : Lib.byteCells (a ++ b) = Lib.byteCells a ++ Lib.byteCells b := by simp [Lib.byteCells]
theorem byteCells_length (a : List UInt8) : (Lib.byteCells a).length = a.length := by simp [Lib.byteCells]

set_option maxRecDepth 100000 in
set_option maxHeartbeats 400000 in
theorem text_zero (neg : Bool) (xs : List Nat) (V : Value) (w : World) (h : IntArg w V neg xs) (hm : xs.length ≤ 900000) (h0 : mag neg xs = 0) :
    Calls Tryd.prog 35 #[V] w fun e w' => e = .returned (.string ⟨#[48]⟩) ∧ Keeps w w' := by
  obtain ⟨v, rfl, hv⟩ := h
  have hkk := box2 w (.cells #[.bool neg, v] 24)
  have hG := Lib.hid (groups_any neg xs (.agg #[.bool neg, v]) _ ⟨v, rfl, hv.below hkk⟩ (by omega))
  rw [h0] at hG
  clear h0
  go_enter Tryd.func35, Tryd.ntmps35
  go_wp2_with fail
  refine hG.out.mono ?_
  rintro e w1 ⟨v1, rfl, hv1, hk1⟩
  obtain ⟨A, n, c, rfl, e1, -, -, -, -⟩ := hv1.open_
  rw [dig_zero] at e1
  simp only [List.length_nil] at e1
  subst e1
  go_wp2
  go_ret
  exact ⟨rfl, (hkk.trans' hk1).trans' (box2 _ _)⟩

set_option maxRecDepth 100000 in
set_option maxHeartbeats 1000000 in
theorem text_pos (neg : Bool) (xs : List Nat) (V : Value) (w : World) (m : Nat) (h : IntArg w V neg xs) (hm : xs.length ≤ 900000) (ht : PowTab w) (e0 : mag neg xs = m) (h0 : 0 < m) :
    Calls Tryd.prog 35 #[V] w fun e w' => e = .returned (.string ⟨(sgnB neg ++ Lib.decDigits m).toArray⟩) ∧ Keeps w w' := by
  obtain ⟨v, rfl, hv⟩ := h
  have hkk := box2 w (.cells #[.bool neg, v] 24)
  have hX := Own.new w 24 [.bool neg, v]
  have hG := Lib.hid (groups_any neg xs (.agg #[.bool neg, v]) _ ⟨v, rfl, hv.below hkk⟩ (by omega))
  have hle := mag_length neg xs
  have hpos : 0 < (dig m).length := by
    rcases Nat.eq_zero_or_pos (dig m).length with h | h
    · have := val_dig m
      rw [List.eq_nil_of_length_eq_zero h] at this
      simp [val] at this
      omega
    · exact h
  rw [e0] at hG hle
  clear e0
  refine (callsIn_wide (n := 4)).1 ?_
  refine callsIn_of_wp_marks Tryd.func35 rfl trivial ?_ rfl
  simp only [Tryd.ntmps35, List.size_toArray, List.length_cons, List.length_nil, Nat.reduceAdd, Nat.reduceSub, Array.replicate_succ, Array.replicate_zero, List.push_toArray, List.append_toArray, List.nil_append, List.cons_append]
  gi_wp2_with fail
  refine ⟨trivial, ?_⟩
  refine (callsIn_wide.2 hG.out).mono ?_
  rintro e w1 ⟨v1, rfl, hv1, hk1⟩
  have hk0 := hkk.trans' hk1
  obtain ⟨A, n, c, rfl, e1, hc, hcm, hA0, hr⟩ := hv1.open_
  have hX1 := hX.below hk1
  have hX2 := (hX1.alloc (.cells #[.slice A n c] 22)).alloc (.cells #[.slice none 0 0, .int .i64 0, .int .i8 0] 68)
  have x0 := hX2.c0
  have x0' := hX1.c0
  have hn : n ≤ 900000 := by omega
  have hn0 : ((n : Int) == 0) = false := by rw [beq_eq_false_iff_ne]; omega
  have hnz : ((0 : Int) < n) := by omega
  have HE := Lib.hid e1
  have hlt : ∀ b o, A = some ⟨b, o, none⟩ → 0 < n → b < w1.heap.size + 1 := fun b o e hp => Nat.lt_succ_of_lt (hr.lt e hp)
  clear e1 hle
  cases neg with
  | false =>
    have hB2 : Buf (w1.heap.size + 1) (w1.heap.size + 1) [] ((w1.alloc (.cells #[.slice A n c] 22)).alloc (.cells #[.slice none 0 0, .int .i64 0, .int .i8 0] 68)) := by
      have := Lib.fresh_isBuffer 68 5 (w1.alloc (.cells #[.slice A n c] 22))
      simpa using this
    have hG0 := (Own.new w1 22 [.slice A n c]).alloc (.cells #[.slice none 0 0, .int .i64 0, .int .i8 0] 68)
    have kW := keep2 w1 (.cells #[.slice A n c] 22) (.cells #[.slice none 0 0, .int .i64 0, .int .i8 0] 68)

    have hB0 : Buf (w1.heap.size + 1) (w1.heap.size + 1) (Lib.byteCells (sgnB false)) _ := hB2
    gi_wp2_with fail
    generalize ((w1.alloc (.cells #[.slice A n c] 22)).alloc (.cells #[.slice none 0 0, .int .i64 0, .int .i8 0] 68)) = W0 at *
    refine ⟨trivial, ?_⟩
    refine (callsIn_wide.2 (back_any A n c _)).mono ?_
    rintro e w' ⟨rfl, rfl⟩
    gi_wp2_with fail
    have hBl := hB0.lt
    have hS := Own.new W0 22 [.slice A n c]
    have hRW : Row (W0.alloc (.cells #[.slice A n c] 22)) A n (u32 (dig m)) := hr.below (kW.trans' (box2 _ _))
    have hB1 := hB0.alloc (.cells #[.slice A n c] 22)
    have hG1 := hG0.alloc (.cells #[.slice A n c] 22)
    have kW1 : Keeps w (W0.alloc (.cells #[.slice A n c] 22)) := (hk0.trans' kW).trans' (box2 _ _)
    have hkw : w.heap.size ≤ w1.heap.size := hk0.size
    apply wpIn_range_idx (N := n) rfl (by omega) (gf := 83) (lb := #[.pointer (some ⟨W0.heap.size, 0, none⟩)]) rfl trivial (enters_of Tryd.func83 (by kernel_rfl) rfl)
      (back_seq Fence.wide _ trivial rfl (by omega) W0.heap.size (w1.heap.size + 1) n c A (dig m) (by omega) _ hS hRW hlt) BackKp.t (BackKp.b (by simp; omega) (by simp)) (Below.refl _ _) (fun _ => rfl)
      (fun k W => Buf (w1.heap.size + 1) (w1.heap.size + 1) (Lib.byteCells (sgnB false ++ txt (val ((dig m).drop (n - k))))) W ∧ Own W w1.heap.size 22 [.slice A n c] ∧ Own W W0.heap.size 22 [.slice A n c] ∧ Keeps w W) (fun _ _ _ => False)
      (fun k A B row hs hg hr => ⟨hs.1.nc hg (fun r e => (hr r e).2), hs.2.1.nc hg (fun r e => (hr r e).2), hs.2.2.1.nc hg (fun r e => (hr r e).2), ownFrom_below (β := Nat) (Nat.le_refl _) (by simp; omega) k A B row hs.2.2.2 hg hr⟩)
      (fun _ _ _ _ _ hs _ _ => hs)
      ⟨by rw [Nat.sub_zero, List.drop_of_length_le (by rw [HE.out]; omega)]; simpa [val, txt] using hB1, hG1, hS, kW1⟩
    case hassign =>
      intro l x W K hK
      unfold backEnc
      gi_wp2
      exact hK
    case hbody =>
      rintro l k W ⟨h1, h2, h3, h4⟩ hk
      obtain ⟨q, hq⟩ : ∃ q, n - 1 - k = q := ⟨_, rfl⟩
      have hst := txt_round m n k q HE.out hk hq
      have hx := (AllB.dig m).ix q
      have hdl := decDigits_len (ix (dig m) q) hx
      have hI := Lib.hid (itoa_any (ix (dig m) q) hx W (PowTab.keep ht h4))
      have hxi : ((ix (dig m) q : Nat) : Int) < 1000000000 := by omega
      rw [hq]
      generalize ix (dig m) q = x at *
      generalize hds : Lib.decDigits x = ds at *
      generalize hV : txt (val ((dig m).drop (n - k))) = tv at *
      have htl : tv.length ≤ 8100000 := by
        have := txt_drop_len m (n - k)
        rw [hV, HE.out] at this
        omega
      have hqk : q + k + 1 = n := by omega
      have HQ := Lib.hid hqk
      have HST := Lib.hid hst
      have HDS := Lib.hid hds
      have HTL := Lib.hid htl
      have HK := Lib.hid hk
      have HL := Lib.hid hdl
      have hL9 : ((ds.length : Nat) : Int) ≤ 9 := by omega
      have hni : ((n : Nat) : Int) ≤ 900000 := by omega
      clear hq hst hds hV htl hx hdl hqk hk
      gi_wp2_with fail
      refine ⟨trivial, ?_⟩
      refine (CallsIn.inRound l (callsIn_wide.2 hI.out)).mono ?_
      rintro e W1 ⟨rfl, hkI⟩
      clear hI
      have g0 := (h2.below hkI).c0
      obtain ⟨P, hP⟩ : ∃ P, padN k ds.length = P := ⟨_, rfl⟩
      have HP := Lib.hid hP
      clear hP
      have b1 : Buf (w1.heap.size + 1) (w1.heap.size + 1) (Lib.byteCells (sgnB false ++ tv)) W1 := h1.old hkI
      have hsl : (sgnB false).length ≤ 1 := by decide
      have HSL := Lib.hid hsl
      clear hsl
      have hP9 : P ≤ 9 := by
        have := HP.out
        unfold padN at this
        split at this <;> omega
      gi_wp2
      gi_loopw [8] (fun i wr => ∃ j : Nat, j ≤ P ∧ i = .int .i64 (((ds.length : Nat) : Int) + (j : Nat)) ∧ Buf (w1.heap.size + 1) (w1.heap.size + 1) (Lib.byteCells (sgnB false ++ tv ++ List.replicate j 48)) wr ∧ Wrote (w1.heap.size + 1) (w1.heap.size + 1) W1 wr) (fun i _ => (((ds.length : Nat) : Int) + (P : Nat) - intOf i).toNat)
      case atStart => exact ⟨0, by omega, by go_num, by simpa using b1, Wrote.refl _ _ _⟩
      case round =>
        obtain ⟨j, hj, rfl, hb, hwr⟩ := hrel
        have gr := (hwr.own (h2.below hkI) (by omega) (by decide)).c0
        have hlen : (Lib.byteCells (sgnB false ++ tv ++ List.replicate j 48)).length ≤ 8100010 := by
          rw [byteCells_length, List.length_append, List.length_append, List.length_replicate]
          have := HTL.out
          have := HSL.out
          omega
        have HLN := Lib.hid hlen
        clear hlen
        have hsz : w1.heap.size + 1 ≤ wr.heap.size := Nat.le_of_lt hb.lt
        by_cases hjP : j < P
        · have hp : k ≠ 0 ∧ ds.length + j < 9 := by
            have := HP.out
            unfold padN at this
            split at this <;> omega
          have hq1 := HQ.out
          have t1 : decide (((ds.length : Nat) : Int) + ((j : Nat) : Int) < 9) = true := decide_eq_true (by omega)
          have t2 : decide (((q : Nat) : Int) < ((n : Nat) : Int) - 1) = true := decide_eq_true (by omega)
          clear hp hq1
          gi_wp2_with fail
          refine ⟨trivial, ?_⟩
          refine (CallsIn.inRound l (callsIn_wide.2 (Tryd.Buffer_WriteByte_k _ _ _ 48 wr hb hsz (one_cells _) (by have := HLN.out; omega)))).mono ?_
          rintro e W2 ⟨rfl, hb2, hbw, hok⟩
          gi_wp2
          go_roundw
          case rel => exact ⟨j + 1, hjP, by go_num, by rw [List.replicate_succ', ← List.append_assoc, byteCells_append]; exact hb2, hwr.trans ⟨hbw, hok⟩⟩
          case measure => simp [intOf]; omega
        · obtain rfl : j = P := by omega
          have fin : ∀ W2, Buf (w1.heap.size + 1) (w1.heap.size + 1) (Lib.byteCells (sgnB false ++ tv ++ List.replicate j 48) ++ Lib.byteCells ds) W2 → Wrote (w1.heap.size + 1) (w1.heap.size + 1) wr W2 →
              KeepsFrom (W0.alloc (.cells #[.slice A n c] 22)).heap.size W W2 ∧ BackKp (w1.heap.size + 1) W0.heap.size W W2 ∧ Buf (w1.heap.size + 1) (w1.heap.size + 1) (Lib.byteCells (sgnB false ++ txt (val ((dig m).drop (n - (k + 1)))))) W2 ∧ Own W2 w1.heap.size 22 [.slice A n c] ∧ Own W2 W0.heap.size 22 [.slice A n c] ∧ Keeps w W2 := fun W2 hb2 hw2 => by
            have hwI : Wrote (w1.heap.size + 1) (w1.heap.size + 1) W W1 := Wrote.of hkI (Nat.le_of_lt h1.lt)
            have hww := (hwI.trans hwr).trans hw2
            refine ⟨hww.from h1, hww.back h3 (by omega) (by decide) (Nat.le_refl _), ?_, hww.own h2 (by omega) (by decide), hww.own h3 (by omega) (by decide), hww.keeps h4 (by omega)⟩
            rw [HST.out, HP.out, ← List.append_assoc, ← List.append_assoc, byteCells_append]
            exact hb2
          by_cases h9 : ds.length + j < 9
          · have hp : k = 0 := by
              have := HP.out
              unfold padN at this
              split at this <;> omega
            have hq1 := HQ.out
            have t1 : decide (((ds.length : Nat) : Int) + ((j : Nat) : Int) < 9) = true := decide_eq_true (by omega)
            have t2 : decide (((q : Nat) : Int) < ((n : Nat) : Int) - 1) = false := decide_eq_false (by omega)
            clear hp hq1
            gi_wp2_with fail
            refine ⟨trivial, ?_⟩
            refine (CallsIn.inRound l (callsIn_wide.2 (Tryd.Buffer_WriteString_k _ _ _ ⟨ds.toArray⟩ wr hb hsz (one_cells _) (by have := HLN.out; have := HL.out; simp only [ByteArray.size, List.size_toArray]; omega)))).mono ?_
            rintro e W2 ⟨rfl, hb2, hbw, hok⟩
            gi_wp2
            exact fin W2 hb2 ⟨hbw, hok⟩
          · have t1 : decide (((ds.length : Nat) : Int) + ((j : Nat) : Int) < 9) = false := decide_eq_false (by omega)
            gi_wp2_with fail
            refine ⟨trivial, ?_⟩
            refine (CallsIn.inRound l (callsIn_wide.2 (Tryd.Buffer_WriteString_k _ _ _ ⟨ds.toArray⟩ wr hb hsz (one_cells _) (by have := HLN.out; have := HL.out; simp only [ByteArray.size, List.size_toArray]; omega)))).mono ?_
            rintro e W2 ⟨rfl, hb2, hbw, hok⟩
            gi_wp2
            exact fin W2 hb2 ⟨hbw, hok⟩
    case hdone =>
      rintro D W hD ⟨h1, h2, h3, h4⟩ hDf
      rw [Nat.sub_self, List.drop_zero, val_dig, txt_pos _ (by omega)] at h1
      gi_wp2_with fail
      refine ⟨trivial, ?_⟩
      refine (callsIn_wide.2 (Tryd.Buffer_String _ _ _ W h1)).mono ?_
      rintro e W2 ⟨rfl, N, rfl⟩
      gi_wp2
      refine ⟨by simp, .inl ⟨_, _, rfl, run_takeDeferred (hDf : (W.drewN N).heap[D]? = _), ?_⟩⟩
      refine ⟨_, by simp [results, Tryd.results35, go_sem], rfl, (h4.drewN N).trans (belowK_b (w := w) (Nat.le_refl _) (W.drewN N) D _ _ (by simp at hD; omega) hDf rfl rfl)⟩
    case hstop =>
      rintro D c k W _ _ h _
      exact h.elim
  | true =>
    have hB2 : Buf (w1.heap.size + 1) (w1.heap.size + 1) [] ((w1.alloc (.cells #[.slice A n c] 22)).alloc (.cells #[.slice none 0 0, .int .i64 0, .int .i8 0] 68)) := by
      have := Lib.fresh_isBuffer 68 5 (w1.alloc (.cells #[.slice A n c] 22))
      simpa using this
    have hG0 := (Own.new w1 22 [.slice A n c]).alloc (.cells #[.slice none 0 0, .int .i64 0, .int .i8 0] 68)
    have kW := keep2 w1 (.cells #[.slice A n c] 22) (.cells #[.slice none 0 0, .int .i64 0, .int .i8 0] 68)

    gi_wp2_with fail
    generalize ((w1.alloc (.cells #[.slice A n c] 22)).alloc (.cells #[.slice none 0 0, .int .i64 0, .int .i8 0] 68)) = W9 at *
    refine ⟨trivial, ?_⟩
    refine (callsIn_wide.2 (Tryd.Buffer_WriteByte_k _ _ _ 45 W9 hB2 (Nat.le_of_lt hB2.lt) (by simp) (by simp))).mono ?_
    rintro e W0 ⟨rfl, hB0, hbw, hok⟩
    have hwr : Wrote (w1.heap.size + 1) (w1.heap.size + 1) W9 W0 := ⟨hbw, hok⟩
    replace hG0 := hwr.own hG0 (by omega) (by decide)
    replace kW := hwr.keeps kW (by omega)
    replace hX2 := hwr.own hX2 (by have := hX1.lt; omega) (by decide)
    clear x0 hwr hbw hok
    have hB0 : Buf (w1.heap.size + 1) (w1.heap.size + 1) (Lib.byteCells (sgnB true)) _ := hB0
    have x0 := hX2.c0
    have gg := hG0.c0
    gi_wp2_with fail
    refine ⟨trivial, ?_⟩
    refine (callsIn_wide.2 (back_any A n c _)).mono ?_
    rintro e w' ⟨rfl, rfl⟩
    gi_wp2_with fail
    have hBl := hB0.lt
    have hS := Own.new W0 22 [.slice A n c]
    have hRW : Row (W0.alloc (.cells #[.slice A n c] 22)) A n (u32 (dig m)) := hr.below (kW.trans' (box2 _ _))
    have hB1 := hB0.alloc (.cells #[.slice A n c] 22)
    have hG1 := hG0.alloc (.cells #[.slice A n c] 22)
    have kW1 : Keeps w (W0.alloc (.cells #[.slice A n c] 22)) := (hk0.trans' kW).trans' (box2 _ _)
    have hkw : w.heap.size ≤ w1.heap.size := hk0.size
    apply wpIn_range_idx (N := n) rfl (by omega) (gf := 83) (lb := #[.pointer (some ⟨W0.heap.size, 0, none⟩)]) rfl trivial (enters_of Tryd.func83 (by kernel_rfl) rfl)
      (back_seq Fence.wide _ trivial rfl (by omega) W0.heap.size (w1.heap.size + 1) n c A (dig m) (by omega) _ hS hRW hlt) BackKp.t (BackKp.b (by simp; omega) (by simp)) (Below.refl _ _) (fun _ => rfl)
      (fun k W => Buf (w1.heap.size + 1) (w1.heap.size + 1) (Lib.byteCells (sgnB true ++ txt (val ((dig m).drop (n - k))))) W ∧ Own W w1.heap.size 22 [.slice A n c] ∧ Own W W0.heap.size 22 [.slice A n c] ∧ Keeps w W) (fun _ _ _ => False)
      (fun k A B row hs hg hr => ⟨hs.1.nc hg (fun r e => (hr r e).2), hs.2.1.nc hg (fun r e => (hr r e).2), hs.2.2.1.nc hg (fun r e => (hr r e).2), ownFrom_below (β := Nat) (Nat.le_refl _) (by simp; omega) k A B row hs.2.2.2 hg hr⟩)
      (fun _ _ _ _ _ hs _ _ => hs)
      ⟨by rw [Nat.sub_zero, List.drop_of_length_le (by rw [HE.out]; omega)]; simpa [val, txt] using hB1, hG1, hS, kW1⟩
    case hassign =>
      intro l x W K hK
      unfold backEnc
      gi_wp2
      exact hK
    case hbody =>
      rintro l k W ⟨h1, h2, h3, h4⟩ hk
      obtain ⟨q, hq⟩ : ∃ q, n - 1 - k = q := ⟨_, rfl⟩
      have hst := txt_round m n k q HE.out hk hq
      have hx := (AllB.dig m).ix q
      have hdl := decDigits_len (ix (dig m) q) hx
      have hI := Lib.hid (itoa_any (ix (dig m) q) hx W (PowTab.keep ht h4))
      have hxi : ((ix (dig m) q : Nat) : Int) < 1000000000 := by omega
      rw [hq]
      generalize ix (dig m) q = x at *
      generalize hds : Lib.decDigits x = ds at *
      generalize hV : txt (val ((dig m).drop (n - k))) = tv at *
      have htl : tv.length ≤ 8100000 := by
        have := txt_drop_len m (n - k)
        rw [hV, HE.out] at this
        omega
      have hqk : q + k + 1 = n := by omega
      have HQ := Lib.hid hqk
      have HST := Lib.hid hst
      have HDS := Lib.hid hds
      have HTL := Lib.hid htl
      have HK := Lib.hid hk
      have HL := Lib.hid hdl
      have hL9 : ((ds.length : Nat) : Int) ≤ 9 := by omega
      have hni : ((n : Nat) : Int) ≤ 900000 := by omega
      clear hq hst hds hV htl hx hdl hqk hk
      gi_wp2_with fail
      refine ⟨trivial, ?_⟩
      refine (CallsIn.inRound l (callsIn_wide.2 hI.out)).mono ?_
      rintro e W1 ⟨rfl, hkI⟩
      clear hI
      have g0 := (h2.below hkI).c0
      obtain ⟨P, hP⟩ : ∃ P, padN k ds.length = P := ⟨_, rfl⟩
      have HP := Lib.hid hP
      clear hP
      have b1 : Buf (w1.heap.size + 1) (w1.heap.size + 1) (Lib.byteCells (sgnB true ++ tv)) W1 := h1.old hkI
      have hsl : (sgnB true).length ≤ 1 := by decide
      have HSL := Lib.hid hsl
      clear hsl
      have hP9 : P ≤ 9 := by
        have := HP.out
        unfold padN at this
        split at this <;> omega
      gi_wp2
      gi_loopw [8] (fun i wr => ∃ j : Nat, j ≤ P ∧ i = .int .i64 (((ds.length : Nat) : Int) + (j : Nat)) ∧ Buf (w1.heap.size + 1) (w1.heap.size + 1) (Lib.byteCells (sgnB true ++ tv ++ List.replicate j 48)) wr ∧ Wrote (w1.heap.size + 1) (w1.heap.size + 1) W1 wr) (fun i _ => (((ds.length : Nat) : Int) + (P : Nat) - intOf i).toNat)
      case atStart => exact ⟨0, by omega, by go_num, by simpa using b1, Wrote.refl _ _ _⟩
      case round =>
        obtain ⟨j, hj, rfl, hb, hwr⟩ := hrel
        have gr := (hwr.own (h2.below hkI) (by omega) (by decide)).c0
        have hlen : (Lib.byteCells (sgnB true ++ tv ++ List.replicate j 48)).length ≤ 8100010 := by
          rw [byteCells_length, List.length_append, List.length_append, List.length_replicate]
          have := HTL.out
          have := HSL.out
          omega
        have HLN := Lib.hid hlen
        clear hlen
        have hsz : w1.heap.size + 1 ≤ wr.heap.size := Nat.le_of_lt hb.lt
        by_cases hjP : j < P
        · have hp : k ≠ 0 ∧ ds.length + j < 9 := by
            have := HP.out
            unfold padN at this
            split at this <;> omega
          have hq1 := HQ.out
          have t1 : decide (((ds.length : Nat) : Int) + ((j : Nat) : Int) < 9) = true := decide_eq_true (by omega)
          have t2 : decide (((q : Nat) : Int) < ((n : Nat) : Int) - 1) = true := decide_eq_true (by omega)
          clear hp hq1
          gi_wp2_with fail
          refine ⟨trivial, ?_⟩
          refine (CallsIn.inRound l (callsIn_wide.2 (Tryd.Buffer_WriteByte_k _ _ _ 48 wr hb hsz (one_cells _) (by have := HLN.out; omega)))).mono ?_
          rintro e W2 ⟨rfl, hb2, hbw, hok⟩
          gi_wp2
          go_roundw
          case rel => exact ⟨j + 1, hjP, by go_num, by rw [List.replicate_succ', ← List.append_assoc, byteCells_append]; exact hb2, hwr.trans ⟨hbw, hok⟩⟩
          case measure => simp [intOf]; omega
        · obtain rfl : j = P := by omega
          have fin : ∀ W2, Buf (w1.heap.size + 1) (w1.heap.size + 1) (Lib.byteCells (sgnB true ++ tv ++ List.replicate j 48) ++ Lib.byteCells ds) W2 → Wrote (w1.heap.size + 1) (w1.heap.size + 1) wr W2 →
              KeepsFrom (W0.alloc (.cells #[.slice A n c] 22)).heap.size W W2 ∧ BackKp (w1.heap.size + 1) W0.heap.size W W2 ∧ Buf (w1.heap.size + 1) (w1.heap.size + 1) (Lib.byteCells (sgnB true ++ txt (val ((dig m).drop (n - (k + 1)))))) W2 ∧ Own W2 w1.heap.size 22 [.slice A n c] ∧ Own W2 W0.heap.size 22 [.slice A n c] ∧ Keeps w W2 := fun W2 hb2 hw2 => by
            have hwI : Wrote (w1.heap.size + 1) (w1.heap.size + 1) W W1 := Wrote.of hkI (Nat.le_of_lt h1.lt)
            have hww := (hwI.trans hwr).trans hw2
            refine ⟨hww.from h1, hww.back h3 (by omega) (by decide) (Nat.le_refl _), ?_, hww.own h2 (by omega) (by decide), hww.own h3 (by omega) (by decide), hww.keeps h4 (by omega)⟩
            rw [HST.out, HP.out, ← List.append_assoc, ← List.append_assoc, byteCells_append]
            exact hb2
          by_cases h9 : ds.length + j < 9
          · have hp : k = 0 := by
              have := HP.out
              unfold padN at this
              split at this <;> omega
            have hq1 := HQ.out
            have t1 : decide (((ds.length : Nat) : Int) + ((j : Nat) : Int) < 9) = true := decide_eq_true (by omega)
            have t2 : decide (((q : Nat) : Int) < ((n : Nat) : Int) - 1) = false := decide_eq_false (by omega)
            clear hp hq1
            gi_wp2_with fail
            refine ⟨trivial, ?_⟩
            refine (CallsIn.inRound l (callsIn_wide.2 (Tryd.Buffer_WriteString_k _ _ _ ⟨ds.toArray⟩ wr hb hsz (one_cells _) (by have := HLN.out; have := HL.out; simp only [ByteArray.size, List.size_toArray]; omega)))).mono ?_
            rintro e W2 ⟨rfl, hb2, hbw, hok⟩
            gi_wp2
            exact fin W2 hb2 ⟨hbw, hok⟩
          · have t1 : decide (((ds.length : Nat) : Int) + ((j : Nat) : Int) < 9) = false := decide_eq_false (by omega)
            gi_wp2_with fail
            refine ⟨trivial, ?_⟩
            refine (CallsIn.inRound l (callsIn_wide.2 (Tryd.Buffer_WriteString_k _ _ _ ⟨ds.toArray⟩ wr hb hsz (one_cells _) (by have := HLN.out; have := HL.out; simp only [ByteArray.size, List.size_toArray]; omega)))).mono ?_
            rintro e W2 ⟨rfl, hb2, hbw, hok⟩
            gi_wp2
            exact fin W2 hb2 ⟨hbw, hok⟩
    case hdone =>
      rintro D W hD ⟨h1, h2, h3, h4⟩ hDf
      rw [Nat.sub_self, List.drop_zero, val_dig, txt_pos _ (by omega)] at h1
      gi_wp2_with fail
      refine ⟨trivial, ?_⟩
      refine (callsIn_wide.2 (Tryd.Buffer_String _ _ _ W h1)).mono ?_
      rintro e W2 ⟨rfl, N, rfl⟩
      gi_wp2
      refine ⟨by simp, .inl ⟨_, _, rfl, run_takeDeferred (hDf : (W.drewN N).heap[D]? = _), ?_⟩⟩
      refine ⟨_, by simp [results, Tryd.results35, go_sem], rfl, (h4.drewN N).trans (belowK_b (w := w) (Nat.le_refl _) (W.drewN N) D _ _ (by simp at hD; omega) hDf rfl rfl)⟩
    case hstop =>
      rintro D c k W _ _ h _
      exact h.elim

theorem text_any (neg : Bool) (xs : List Nat) (V : Value) (w : World) (h : IntArg w V neg xs) (hm : xs.length ≤ 900000) (ht : PowTab w) :
    Calls Tryd.prog 35 #[V] w fun e w' => e = .returned (.string ⟨(textL (cnt neg xs)).toArray⟩) ∧ Keeps w w' := by
  rcases Nat.eq_zero_or_pos (mag neg xs) with h0 | h0
  · have e : cnt neg xs = 0 := by unfold cnt; rw [h0]; exact sgn_zero neg
    rw [e]
    exact text_zero neg xs V w h hm h0
  · have e : textL (cnt neg xs) = sgnB neg ++ Lib.decDigits (mag neg xs) := by
      unfold textL cnt sgnB
      rw [sgn_natAbs]
      cases neg with
      | false => rw [if_neg (by simp [sgn]; omega), if_neg (by simp [sgn]), if_neg (by simp)]
      | true => rw [if_neg (by simp [sgn]; omega), if_pos (by simp [sgn]; omega), if_pos rfl]
    rw [e]
    exact text_pos neg xs V w _ h hm ht rfl h0
end Go.Proofs.YthgbgoidnnfapaaDoor
