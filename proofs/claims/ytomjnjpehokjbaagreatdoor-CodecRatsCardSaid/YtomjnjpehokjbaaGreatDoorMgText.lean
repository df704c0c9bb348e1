/- The walk of integer.Text. Text and Valid in the common form. The walk of the reference's Parse. The walk of Parse. NOT FINISHED. Texts of integers: what Text writes, what Parse reads. -/
import Derived.Test.YtomjnjpehokjbaaGreatDoorMgIntA
import Derived.Test.YtomjnjpehokjbaaGreatDoorMgNum
import Derived.Test.YtomjnjpehokjbaaGreatDoorShelf
import Derived.Lib.LaidTab
import Derived.Lib.AppendIntMem
import Derived.Lib.BufferOld
import Derived.Deep.DeepCutAuto
import Derived.Deep.LoopGhost
namespace Go.Proofs.YtomjnjpehokjbaaGreatDoor
open Go.RowKit Go.Shelf
attribute [local go_sem] Oper.semAt_some

section
variable {W W' : World} {B b : Nat} {bs : List Value}
abbrev Buf (B b : Nat) (bs : List Value) (w : World) : Prop := Lib.IsBuffer 79 5 B b bs w
/-- what a write into the buffer b keeps -/
def Wrote (B b : Nat) (W W' : World) : Prop := Below B W W' ∧ Lib.OthersKept 5 (some b) W W'
theorem Wrote.refl (B b : Nat) (W : World) : Wrote B b W W := ⟨Below.refl _ _, Lib.OthersKept.refl _ _ _⟩
theorem Wrote.trans {W'' : World} (h : Wrote B b W W') (k : Wrote B b W' W'') : Wrote B b W W'' := ⟨h.1.trans k.1, h.2.trans k.2⟩
theorem Wrote.of (h : Keeps W W') (hB : B ≤ W.heap.size) : Wrote B b W W' :=
  ⟨h.mono hB, fun k _ hk _ _ => (h.block k ((Array.getElem?_eq_some_iff.1 hk).1)).trans hk⟩
theorem Wrote.own {k : Nat} {t : TypeId} {vs : List Value} (h : Wrote B b W W') (ho : Own W k t vs) (hk : k ≠ b) (ht : t ≠ 5) : Own W' k t vs :=
  h.2 k _ ho (by simpa using hk) (fun c fz e => ht (by cases e; rfl))
theorem Wrote.size (h : Wrote B b W W') : W.heap.size ≤ W'.heap.size := h.1.size
theorem Wrote.from {m : Nat} (h : Wrote B b W W') (hb : Buf B b bs W) : KeepsFrom m W W' := by
  refine ⟨h.size, fun k o _ hk ho => ?_⟩
  obtain ⟨_, v, lr, hbk, _⟩ := hb
  refine h.2 k o hk (fun e => ?_) (fun c fz e => by subst e; simp [Obj.isCells] at ho)
  cases e
  rw [hbk] at hk
  cases hk
  simp [Obj.isCells] at ho
theorem Wrote.keeps {w : World} (h : Wrote B b W W') (hk : Keeps w W) (hB : w.heap.size ≤ B) : Keeps w W' := Below.trans hk (h.1.mono hB)
theorem Wrote.back {k : Nat} {t : TypeId} {vs : List Value} {n : Nat} (h : Wrote B b W W') (ho : Own W k t vs) (hk : k ≠ b) (ht : t ≠ 5) (hn : n ≤ B) : BackKp n k W W' :=
  ⟨h.1.mono hn, (h.own ho hk ht).trans ho.symm⟩
end
theorem Buf.nc {A B : World} {row : Option Nat} {B0 b : Nat} {bs : List Value} (h : Buf B0 b bs A) (hg : A.grownBy B row) (hr : ∀ r, row = some r → ∃ o : Obj, A.heap[r]? = some o ∧ o.isCells = false) : Buf B0 b bs B := by
  obtain ⟨hB, v, lr, hb, ⟨hl, hrow⟩, hne⟩ := h
  refine ⟨hB, v, lr, Own.nc (vs := [v, .int .i64 0, .int .i8 lr]) hb hg hr, ⟨hl, hrow.imp id ?_⟩, hne⟩
  rintro ⟨g, cap, cur, e, h1, h2, h3⟩
  exact ⟨g, cap, cur, e, h1, (by have := Own.nc (vs := cur.toList) (by simpa [Own] using h2) hg hr; simpa [Own] using this), h3⟩
theorem TabIs.keep {P : Program} {n : String} {g : Nat} {k : IntKind} {zs : List Int} {w w' : World} (hg : P.globalNamed n = some g) (h : Lib.TabIs P w n k zs) (hb : Keeps w w') : Lib.TabIs P w' n k zs := by
  unfold Lib.TabIs World.var? at h ⊢
  rw [hg] at h ⊢
  simp only [Option.bind_some] at h ⊢
  have hlt : g < w.heap.size := by
    rcases Nat.lt_or_ge g w.heap.size with h' | h'
    · exact h'
    · rw [Array.getElem?_eq_none h'] at h; simp at h
  rw [hb.block g hlt]
  exact h

def PowTab (w : World) : Prop := Lib.TabIs Tryz.prog w "internal/strconv.uint64pow10" .u64 Lib.pow10Tab
theorem PowTab.keep {w w' : World} (h : PowTab w) (hk : Keeps w w') : PowTab w' := TabIs.keep (g := 4) (by rfl) h hk
theorem itoa_any (x : Nat) (hx : x < 1000000000) (w : World) (h : PowTab w) :
    Calls Tryz.prog 86 #[.int .i64 (x : Nat)] w fun e w' => e = .returned (.string ⟨(Lib.decDigits x).toArray⟩) ∧ Keeps w w' := by
  refine (Tryz.strconv_Itoa (x : Nat) (by omega) (by omega) w h).mono ?_
  rintro e w' ⟨rfl, k, os, rfl⟩
  exact ⟨by rw [Lib.itoa_nonneg], Go.Lib.below_grow _ _ (Nat.le_refl _) _ _⟩
def sgnB (neg : Bool) : List UInt8 := if neg then [45] else []
theorem one_cells (l : List UInt8) : ∀ v ∈ Lib.byteCells l, v.oneCell' = true := by
  intro v hv
  simp only [Lib.byteCells, List.mem_map] at hv
  obtain ⟨b, -, rfl⟩ := hv
  rfl
theorem byteCells_append (a b : List UInt8) : Lib.byteCells (a ++ b) = Lib.byteCells a ++ Lib.byteCells b := by simp [Lib.byteCells]
theorem byteCells_length (a : List UInt8) : (Lib.byteCells a).length = a.length := by simp [Lib.byteCells]

set_option maxRecDepth 100000 in
set_option maxHeartbeats 400000 in
theorem text_zero (neg : Bool) (xs : List Nat) (V : Value) (w : World) (h : IntArg w V neg xs) (hm : xs.length ≤ 900000) (h0 : mag neg xs = 0) :
    Calls Tryz.prog 84 #[V] w fun e w' => e = .returned (.string ⟨#[48]⟩) ∧ Keeps w w' := by
  obtain ⟨v, rfl, hv⟩ := h
  have hkk := box2 w (.cells #[.bool neg, v] 27)
  have hG := Lib.hid (groups_any neg xs (.agg #[.bool neg, v]) _ ⟨v, rfl, hv.below hkk⟩ (by omega))
  rw [h0] at hG
  clear h0
  go_enter Tryz.func84, Tryz.ntmps84
  go_wp2_with fail
  refine hG.out.mono ?_
  rintro e w1 ⟨v1, rfl, hv1, hk1⟩
  obtain ⟨A, n, c, rfl, e1, -, -, -, -⟩ := hv1.open_
  rw [dig_zero] at e1
  simp only [List.length_nil] at e1
  subst e1
  go_wp2
  go_ret
  exact ⟨rfl, (hkk.trans' hk1).trans' (box2 _ _)⟩

set_option maxRecDepth 100000 in
set_option maxHeartbeats 1000000 in
theorem text_pos (neg : Bool) (xs : List Nat) (V : Value) (w : World) (m : Nat) (h : IntArg w V neg xs) (hm : xs.length ≤ 900000) (ht : PowTab w) (e0 : mag neg xs = m) (h0 : 0 < m) :
    Calls Tryz.prog 84 #[V] w fun e w' => e = .returned (.string ⟨(sgnB neg ++ Lib.decDigits m).toArray⟩) ∧ Keeps w w' := by
  obtain ⟨v, rfl, hv⟩ := h
  have hkk := box2 w (.cells #[.bool neg, v] 27)
  have hX := Own.new w 27 [.bool neg, v]
  have hG := Lib.hid (groups_any neg xs (.agg #[.bool neg, v]) _ ⟨v, rfl, hv.below hkk⟩ (by omega))
  have hle := mag_length neg xs
  have hpos : 0 < (dig m).length := by
    rcases Nat.eq_zero_or_pos (dig m).length with h | h
    · have := val_dig m
      rw [List.eq_nil_of_length_eq_zero h] at this
      simp [val] at this
      omega
    · exact h
  rw [e0] at hG hle
  clear e0
  refine (callsIn_wide (n := 4)).1 ?_
  refine callsIn_of_wp_marks Tryz.func84 rfl trivial ?_ rfl
  simp only [Tryz.ntmps84, List.size_toArray, List.length_cons, List.length_nil, Nat.reduceAdd, Nat.reduceSub, Array.replicate_succ, Array.replicate_zero, List.push_toArray, List.append_toArray, List.nil_append, List.cons_append]
  gi_wp2_with fail
  refine ⟨trivial, ?_⟩
  refine (callsIn_wide.2 hG.out).mono ?_
  rintro e w1 ⟨v1, rfl, hv1, hk1⟩
  have hk0 := hkk.trans' hk1
  obtain ⟨A, n, c, rfl, e1, hc, hcm, hA0, hr⟩ := hv1.open_
  have hX1 := hX.below hk1
  have hX2 := (hX1.alloc (.cells #[.slice A n c] 25)).alloc (.cells #[.slice none 0 0, .int .i64 0, .int .i8 0] 79)
  have x0 := hX2.c0
  have x0' := hX1.c0
  have hn : n ≤ 900000 := by omega
  have hn0 : ((n : Int) == 0) = false := by rw [beq_eq_false_iff_ne]; omega
  have hnz : ((0 : Int) < n) := by omega
  have HE := Lib.hid e1
  have hlt : ∀ b o, A = some ⟨b, o, none⟩ → 0 < n → b < w1.heap.size + 1 := fun b o e hp => Nat.lt_succ_of_lt (hr.lt e hp)
  clear e1 hle
  cases neg with
  | false =>
    have hB2 : Buf (w1.heap.size + 1) (w1.heap.size + 1) [] ((w1.alloc (.cells #[.slice A n c] 25)).alloc (.cells #[.slice none 0 0, .int .i64 0, .int .i8 0] 79)) := by
      have := Lib.fresh_isBuffer 79 5 (w1.alloc (.cells #[.slice A n c] 25))
      simpa using this
    have hG0 := (Own.new w1 25 [.slice A n c]).alloc (.cells #[.slice none 0 0, .int .i64 0, .int .i8 0] 79)
    have kW := keep2 w1 (.cells #[.slice A n c] 25) (.cells #[.slice none 0 0, .int .i64 0, .int .i8 0] 79)

    have hB0 : Buf (w1.heap.size + 1) (w1.heap.size + 1) (Lib.byteCells (sgnB false)) _ := hB2
    gi_wp2_with fail
    generalize ((w1.alloc (.cells #[.slice A n c] 25)).alloc (.cells #[.slice none 0 0, .int .i64 0, .int .i8 0] 79)) = W0 at *
    refine ⟨trivial, ?_⟩
    refine (callsIn_wide.2 (back_any A n c _)).mono ?_
    rintro e w' ⟨rfl, rfl⟩
    gi_wp2_with fail
    have hBl := hB0.lt
    have hS := Own.new W0 25 [.slice A n c]
    have hRW : Row (W0.alloc (.cells #[.slice A n c] 25)) A n (u32 (dig m)) := hr.below (kW.trans' (box2 _ _))
    have hB1 := hB0.alloc (.cells #[.slice A n c] 25)
    have hG1 := hG0.alloc (.cells #[.slice A n c] 25)
    have kW1 : Keeps w (W0.alloc (.cells #[.slice A n c] 25)) := (hk0.trans' kW).trans' (box2 _ _)
    have hkw : w.heap.size ≤ w1.heap.size := hk0.size
    apply wpIn_range_idx (N := n) rfl (by omega) (gf := 97) (lb := #[.pointer (some ⟨W0.heap.size, 0, none⟩)]) rfl trivial (enters_of Tryz.func97 (by kernel_rfl) rfl)
      (back_seq Fence.wide _ trivial rfl (by omega) W0.heap.size (w1.heap.size + 1) n c A (dig m) (by omega) _ hS hRW hlt) BackKp.t (BackKp.b (by simp; omega) (by simp)) (Below.refl _ _) (fun _ => rfl)
      (fun k W => Buf (w1.heap.size + 1) (w1.heap.size + 1) (Lib.byteCells (sgnB false ++ txt (val ((dig m).drop (n - k))))) W ∧ Own W w1.heap.size 25 [.slice A n c] ∧ Own W W0.heap.size 25 [.slice A n c] ∧ Keeps w W) (fun _ _ _ => False)
      (fun k A B row hs hg hr => ⟨hs.1.nc hg (fun r e => (hr r e).2), hs.2.1.nc hg (fun r e => (hr r e).2), hs.2.2.1.nc hg (fun r e => (hr r e).2), ownFrom_below (β := Nat) (Nat.le_refl _) (by simp; omega) k A B row hs.2.2.2 hg hr⟩)
      (fun _ _ _ _ _ hs _ _ => hs)
      ⟨by rw [Nat.sub_zero, List.drop_of_length_le (by rw [HE.out]; omega)]; simpa [val, txt] using hB1, hG1, hS, kW1⟩
    case hassign =>
      intro l x W K hK
      unfold backEnc
      gi_wp2
      exact hK
    case hbody =>
      rintro l k W ⟨h1, h2, h3, h4⟩ hk
      obtain ⟨q, hq⟩ : ∃ q, n - 1 - k = q := ⟨_, rfl⟩
      have hst := txt_round m n k q HE.out hk hq
      have hx := (AllB.dig m).ix q
      have hdl := decDigits_len (ix (dig m) q) hx
      have hI := Lib.hid (itoa_any (ix (dig m) q) hx W (PowTab.keep ht h4))
      have hxi : ((ix (dig m) q : Nat) : Int) < 1000000000 := by omega
      rw [hq]
      generalize ix (dig m) q = x at *
      generalize hds : Lib.decDigits x = ds at *
      generalize hV : txt (val ((dig m).drop (n - k))) = tv at *
      have htl : tv.length ≤ 8100000 := by
        have := txt_drop_len m (n - k)
        rw [hV, HE.out] at this
        omega
      have hqk : q + k + 1 = n := by omega
      have HQ := Lib.hid hqk
      have HST := Lib.hid hst
      have HDS := Lib.hid hds
      have HTL := Lib.hid htl
      have HK := Lib.hid hk
      have HL := Lib.hid hdl
      have hL9 : ((ds.length : Nat) : Int) ≤ 9 := by omega
      have hni : ((n : Nat) : Int) ≤ 900000 := by omega
      clear hq hst hds hV htl hx hdl hqk hk
      gi_wp2_with fail
      refine ⟨trivial, ?_⟩
      refine (CallsIn.inRound l (callsIn_wide.2 hI.out)).mono ?_
      rintro e W1 ⟨rfl, hkI⟩
      clear hI
      have g0 := (h2.below hkI).c0
      obtain ⟨P, hP⟩ : ∃ P, padN k ds.length = P := ⟨_, rfl⟩
      have HP := Lib.hid hP
      clear hP
      have b1 : Buf (w1.heap.size + 1) (w1.heap.size + 1) (Lib.byteCells (sgnB false ++ tv)) W1 := h1.old hkI
      have hsl : (sgnB false).length ≤ 1 := by decide
      have HSL := Lib.hid hsl
      clear hsl
      have hP9 : P ≤ 9 := by
        have := HP.out
        unfold padN at this
        split at this <;> omega
      gi_wp2
      gi_loopw [8] (fun i wr => ∃ j : Nat, j ≤ P ∧ i = .int .i64 (((ds.length : Nat) : Int) + (j : Nat)) ∧ Buf (w1.heap.size + 1) (w1.heap.size + 1) (Lib.byteCells (sgnB false ++ tv ++ List.replicate j 48)) wr ∧ Wrote (w1.heap.size + 1) (w1.heap.size + 1) W1 wr) (fun i _ => (((ds.length : Nat) : Int) + (P : Nat) - intOf i).toNat)
      case atStart => exact ⟨0, by omega, by go_num, by simpa using b1, Wrote.refl _ _ _⟩
      case round =>
        obtain ⟨j, hj, rfl, hb, hwr⟩ := hrel
        have gr := (hwr.own (h2.below hkI) (by omega) (by decide)).c0
        have hlen : (Lib.byteCells (sgnB false ++ tv ++ List.replicate j 48)).length ≤ 8100010 := by
          rw [byteCells_length, List.length_append, List.length_append, List.length_replicate]
          have := HTL.out
          have := HSL.out
          omega
        have HLN := Lib.hid hlen
        clear hlen
        have hsz : w1.heap.size + 1 ≤ wr.heap.size := Nat.le_of_lt hb.lt
        by_cases hjP : j < P
        · have hp : k ≠ 0 ∧ ds.length + j < 9 := by
            have := HP.out
            unfold padN at this
            split at this <;> omega
          have hq1 := HQ.out
          have t1 : decide (((ds.length : Nat) : Int) + ((j : Nat) : Int) < 9) = true := decide_eq_true (by omega)
          have t2 : decide (((q : Nat) : Int) < ((n : Nat) : Int) - 1) = true := decide_eq_true (by omega)
          clear hp hq1
          gi_wp2_with fail
          refine ⟨trivial, ?_⟩
          refine (CallsIn.inRound l (callsIn_wide.2 (Tryz.Buffer_WriteByte_k _ _ _ 48 wr hb hsz (one_cells _) (by have := HLN.out; omega)))).mono ?_
          rintro e W2 ⟨rfl, hb2, hbw, hok⟩
          gi_wp2
          go_roundw
          case rel => exact ⟨j + 1, hjP, by go_num, by rw [List.replicate_succ', ← List.append_assoc, byteCells_append]; exact hb2, hwr.trans ⟨hbw, hok⟩⟩
          case measure => simp [intOf]; omega
        · obtain rfl : j = P := by omega
          have fin : ∀ W2, Buf (w1.heap.size + 1) (w1.heap.size + 1) (Lib.byteCells (sgnB false ++ tv ++ List.replicate j 48) ++ Lib.byteCells ds) W2 → Wrote (w1.heap.size + 1) (w1.heap.size + 1) wr W2 →
              KeepsFrom (W0.alloc (.cells #[.slice A n c] 25)).heap.size W W2 ∧ BackKp (w1.heap.size + 1) W0.heap.size W W2 ∧ Buf (w1.heap.size + 1) (w1.heap.size + 1) (Lib.byteCells (sgnB false ++ txt (val ((dig m).drop (n - (k + 1)))))) W2 ∧ Own W2 w1.heap.size 25 [.slice A n c] ∧ Own W2 W0.heap.size 25 [.slice A n c] ∧ Keeps w W2 := fun W2 hb2 hw2 => by
            have hwI : Wrote (w1.heap.size + 1) (w1.heap.size + 1) W W1 := Wrote.of hkI (Nat.le_of_lt h1.lt)
            have hww := (hwI.trans hwr).trans hw2
            refine ⟨hww.from h1, hww.back h3 (by omega) (by decide) (Nat.le_refl _), ?_, hww.own h2 (by omega) (by decide), hww.own h3 (by omega) (by decide), hww.keeps h4 (by omega)⟩
            rw [HST.out, HP.out, ← List.append_assoc, ← List.append_assoc, byteCells_append]
            exact hb2
          by_cases h9 : ds.length + j < 9
          · have hp : k = 0 := by
              have := HP.out
              unfold padN at this
              split at this <;> omega
            have hq1 := HQ.out
            have t1 : decide (((ds.length : Nat) : Int) + ((j : Nat) : Int) < 9) = true := decide_eq_true (by omega)
            have t2 : decide (((q : Nat) : Int) < ((n : Nat) : Int) - 1) = false := decide_eq_false (by omega)
            clear hp hq1
            gi_wp2_with fail
            refine ⟨trivial, ?_⟩
            refine (CallsIn.inRound l (callsIn_wide.2 (Tryz.Buffer_WriteString_k _ _ _ ⟨ds.toArray⟩ wr hb hsz (one_cells _) (by have := HLN.out; have := HL.out; simp only [ByteArray.size, List.size_toArray]; omega)))).mono ?_
            rintro e W2 ⟨rfl, hb2, hbw, hok⟩
            gi_wp2
            exact fin W2 hb2 ⟨hbw, hok⟩
          · have t1 : decide (((ds.length : Nat) : Int) + ((j : Nat) : Int) < 9) = false := decide_eq_false (by omega)
            gi_wp2_with fail
            refine ⟨trivial, ?_⟩
            refine (CallsIn.inRound l (callsIn_wide.2 (Tryz.Buffer_WriteString_k _ _ _ ⟨ds.toArray⟩ wr hb hsz (one_cells _) (by have := HLN.out; have := HL.out; simp only [ByteArray.size, List.size_toArray]; omega)))).mono ?_
            rintro e W2 ⟨rfl, hb2, hbw, hok⟩
            gi_wp2
            exact fin W2 hb2 ⟨hbw, hok⟩
    case hdone =>
      rintro D W hD ⟨h1, h2, h3, h4⟩ hDf
      rw [Nat.sub_self, List.drop_zero, val_dig, txt_pos _ (by omega)] at h1
      gi_wp2_with fail
      refine ⟨trivial, ?_⟩
      refine (callsIn_wide.2 (Tryz.Buffer_String _ _ _ W h1)).mono ?_
      rintro e W2 ⟨rfl, N, rfl⟩
      gi_wp2
      refine ⟨by simp, .inl ⟨_, _, rfl, run_takeDeferred (hDf : (W.drewN N).heap[D]? = _), ?_⟩⟩
      refine ⟨_, by simp [results, Tryz.results84, go_sem], rfl, (h4.drewN N).trans (belowK_b (w := w) (Nat.le_refl _) (W.drewN N) D _ _ (by simp at hD; omega) hDf rfl rfl)⟩
    case hstop =>
      rintro D c k W _ _ h _
      exact h.elim
  | true =>
    have hB2 : Buf (w1.heap.size + 1) (w1.heap.size + 1) [] ((w1.alloc (.cells #[.slice A n c] 25)).alloc (.cells #[.slice none 0 0, .int .i64 0, .int .i8 0] 79)) := by
      have := Lib.fresh_isBuffer 79 5 (w1.alloc (.cells #[.slice A n c] 25))
      simpa using this
    have hG0 := (Own.new w1 25 [.slice A n c]).alloc (.cells #[.slice none 0 0, .int .i64 0, .int .i8 0] 79)
    have kW := keep2 w1 (.cells #[.slice A n c] 25) (.cells #[.slice none 0 0, .int .i64 0, .int .i8 0] 79)

    gi_wp2_with fail
    generalize ((w1.alloc (.cells #[.slice A n c] 25)).alloc (.cells #[.slice none 0 0, .int .i64 0, .int .i8 0] 79)) = W9 at *
    refine ⟨trivial, ?_⟩
    refine (callsIn_wide.2 (Tryz.Buffer_WriteByte_k _ _ _ 45 W9 hB2 (Nat.le_of_lt hB2.lt) (by simp) (by simp))).mono ?_
    rintro e W0 ⟨rfl, hB0, hbw, hok⟩
    have hwr : Wrote (w1.heap.size + 1) (w1.heap.size + 1) W9 W0 := ⟨hbw, hok⟩
    replace hG0 := hwr.own hG0 (by omega) (by decide)
    replace kW := hwr.keeps kW (by omega)
    replace hX2 := hwr.own hX2 (by have := hX1.lt; omega) (by decide)
    clear x0 hwr hbw hok
    have hB0 : Buf (w1.heap.size + 1) (w1.heap.size + 1) (Lib.byteCells (sgnB true)) _ := hB0
    have x0 := hX2.c0
    have gg := hG0.c0
    gi_wp2_with fail
    refine ⟨trivial, ?_⟩
    refine (callsIn_wide.2 (back_any A n c _)).mono ?_
    rintro e w' ⟨rfl, rfl⟩
    gi_wp2_with fail
    have hBl := hB0.lt
    have hS := Own.new W0 25 [.slice A n c]
    have hRW : Row (W0.alloc (.cells #[.slice A n c] 25)) A n (u32 (dig m)) := hr.below (kW.trans' (box2 _ _))
    have hB1 := hB0.alloc (.cells #[.slice A n c] 25)
    have hG1 := hG0.alloc (.cells #[.slice A n c] 25)
    have kW1 : Keeps w (W0.alloc (.cells #[.slice A n c] 25)) := (hk0.trans' kW).trans' (box2 _ _)
    have hkw : w.heap.size ≤ w1.heap.size := hk0.size
    apply wpIn_range_idx (N := n) rfl (by omega) (gf := 97) (lb := #[.pointer (some ⟨W0.heap.size, 0, none⟩)]) rfl trivial (enters_of Tryz.func97 (by kernel_rfl) rfl)
      (back_seq Fence.wide _ trivial rfl (by omega) W0.heap.size (w1.heap.size + 1) n c A (dig m) (by omega) _ hS hRW hlt) BackKp.t (BackKp.b (by simp; omega) (by simp)) (Below.refl _ _) (fun _ => rfl)
      (fun k W => Buf (w1.heap.size + 1) (w1.heap.size + 1) (Lib.byteCells (sgnB true ++ txt (val ((dig m).drop (n - k))))) W ∧ Own W w1.heap.size 25 [.slice A n c] ∧ Own W W0.heap.size 25 [.slice A n c] ∧ Keeps w W) (fun _ _ _ => False)
      (fun k A B row hs hg hr => ⟨hs.1.nc hg (fun r e => (hr r e).2), hs.2.1.nc hg (fun r e => (hr r e).2), hs.2.2.1.nc hg (fun r e => (hr r e).2), ownFrom_below (β := Nat) (Nat.le_refl _) (by simp; omega) k A B row hs.2.2.2 hg hr⟩)
      (fun _ _ _ _ _ hs _ _ => hs)
      ⟨by rw [Nat.sub_zero, List.drop_of_length_le (by rw [HE.out]; omega)]; simpa [val, txt] using hB1, hG1, hS, kW1⟩
    case hassign =>
      intro l x W K hK
      unfold backEnc
      gi_wp2
      exact hK
    case hbody =>
      rintro l k W ⟨h1, h2, h3, h4⟩ hk
      obtain ⟨q, hq⟩ : ∃ q, n - 1 - k = q := ⟨_, rfl⟩
      have hst := txt_round m n k q HE.out hk hq
      have hx := (AllB.dig m).ix q
      have hdl := decDigits_len (ix (dig m) q) hx
      have hI := Lib.hid (itoa_any (ix (dig m) q) hx W (PowTab.keep ht h4))
      have hxi : ((ix (dig m) q : Nat) : Int) < 1000000000 := by omega
      rw [hq]
      generalize ix (dig m) q = x at *
      generalize hds : Lib.decDigits x = ds at *
      generalize hV : txt (val ((dig m).drop (n - k))) = tv at *
      have htl : tv.length ≤ 8100000 := by
        have := txt_drop_len m (n - k)
        rw [hV, HE.out] at this
        omega
      have hqk : q + k + 1 = n := by omega
      have HQ := Lib.hid hqk
      have HST := Lib.hid hst
      have HDS := Lib.hid hds
      have HTL := Lib.hid htl
      have HK := Lib.hid hk
      have HL := Lib.hid hdl
      have hL9 : ((ds.length : Nat) : Int) ≤ 9 := by omega
      have hni : ((n : Nat) : Int) ≤ 900000 := by omega
      clear hq hst hds hV htl hx hdl hqk hk
      gi_wp2_with fail
      refine ⟨trivial, ?_⟩
      refine (CallsIn.inRound l (callsIn_wide.2 hI.out)).mono ?_
      rintro e W1 ⟨rfl, hkI⟩
      clear hI
      have g0 := (h2.below hkI).c0
      obtain ⟨P, hP⟩ : ∃ P, padN k ds.length = P := ⟨_, rfl⟩
      have HP := Lib.hid hP
      clear hP
      have b1 : Buf (w1.heap.size + 1) (w1.heap.size + 1) (Lib.byteCells (sgnB true ++ tv)) W1 := h1.old hkI
      have hsl : (sgnB true).length ≤ 1 := by decide
      have HSL := Lib.hid hsl
      clear hsl
      have hP9 : P ≤ 9 := by
        have := HP.out
        unfold padN at this
        split at this <;> omega
      gi_wp2
      gi_loopw [8] (fun i wr => ∃ j : Nat, j ≤ P ∧ i = .int .i64 (((ds.length : Nat) : Int) + (j : Nat)) ∧ Buf (w1.heap.size + 1) (w1.heap.size + 1) (Lib.byteCells (sgnB true ++ tv ++ List.replicate j 48)) wr ∧ Wrote (w1.heap.size + 1) (w1.heap.size + 1) W1 wr) (fun i _ => (((ds.length : Nat) : Int) + (P : Nat) - intOf i).toNat)
      case atStart => exact ⟨0, by omega, by go_num, by simpa using b1, Wrote.refl _ _ _⟩
      case round =>
        obtain ⟨j, hj, rfl, hb, hwr⟩ := hrel
        have gr := (hwr.own (h2.below hkI) (by omega) (by decide)).c0
        have hlen : (Lib.byteCells (sgnB true ++ tv ++ List.replicate j 48)).length ≤ 8100010 := by
          rw [byteCells_length, List.length_append, List.length_append, List.length_replicate]
          have := HTL.out
          have := HSL.out
          omega
        have HLN := Lib.hid hlen
        clear hlen
        have hsz : w1.heap.size + 1 ≤ wr.heap.size := Nat.le_of_lt hb.lt
        by_cases hjP : j < P
        · have hp : k ≠ 0 ∧ ds.length + j < 9 := by
            have := HP.out
            unfold padN at this
            split at this <;> omega
          have hq1 := HQ.out
          have t1 : decide (((ds.length : Nat) : Int) + ((j : Nat) : Int) < 9) = true := decide_eq_true (by omega)
          have t2 : decide (((q : Nat) : Int) < ((n : Nat) : Int) - 1) = true := decide_eq_true (by omega)
          clear hp hq1
          gi_wp2_with fail
          refine ⟨trivial, ?_⟩
          refine (CallsIn.inRound l (callsIn_wide.2 (Tryz.Buffer_WriteByte_k _ _ _ 48 wr hb hsz (one_cells _) (by have := HLN.out; omega)))).mono ?_
          rintro e W2 ⟨rfl, hb2, hbw, hok⟩
          gi_wp2
          go_roundw
          case rel => exact ⟨j + 1, hjP, by go_num, by rw [List.replicate_succ', ← List.append_assoc, byteCells_append]; exact hb2, hwr.trans ⟨hbw, hok⟩⟩
          case measure => simp [intOf]; omega
        · obtain rfl : j = P := by omega
          have fin : ∀ W2, Buf (w1.heap.size + 1) (w1.heap.size + 1) (Lib.byteCells (sgnB true ++ tv ++ List.replicate j 48) ++ Lib.byteCells ds) W2 → Wrote (w1.heap.size + 1) (w1.heap.size + 1) wr W2 →
              KeepsFrom (W0.alloc (.cells #[.slice A n c] 25)).heap.size W W2 ∧ BackKp (w1.heap.size + 1) W0.heap.size W W2 ∧ Buf (w1.heap.size + 1) (w1.heap.size + 1) (Lib.byteCells (sgnB true ++ txt (val ((dig m).drop (n - (k + 1)))))) W2 ∧ Own W2 w1.heap.size 25 [.slice A n c] ∧ Own W2 W0.heap.size 25 [.slice A n c] ∧ Keeps w W2 := fun W2 hb2 hw2 => by
            have hwI : Wrote (w1.heap.size + 1) (w1.heap.size + 1) W W1 := Wrote.of hkI (Nat.le_of_lt h1.lt)
            have hww := (hwI.trans hwr).trans hw2
            refine ⟨hww.from h1, hww.back h3 (by omega) (by decide) (Nat.le_refl _), ?_, hww.own h2 (by omega) (by decide), hww.own h3 (by omega) (by decide), hww.keeps h4 (by omega)⟩
            rw [HST.out, HP.out, ← List.append_assoc, ← List.append_assoc, byteCells_append]
            exact hb2
          by_cases h9 : ds.length + j < 9
          · have hp : k = 0 := by
              have := HP.out
              unfold padN at this
              split at this <;> omega
            have hq1 := HQ.out
            have t1 : decide (((ds.length : Nat) : Int) + ((j : Nat) : Int) < 9) = true := decide_eq_true (by omega)
            have t2 : decide (((q : Nat) : Int) < ((n : Nat) : Int) - 1) = false := decide_eq_false (by omega)
            clear hp hq1
            gi_wp2_with fail
            refine ⟨trivial, ?_⟩
            refine (CallsIn.inRound l (callsIn_wide.2 (Tryz.Buffer_WriteString_k _ _ _ ⟨ds.toArray⟩ wr hb hsz (one_cells _) (by have := HLN.out; have := HL.out; simp only [ByteArray.size, List.size_toArray]; omega)))).mono ?_
            rintro e W2 ⟨rfl, hb2, hbw, hok⟩
            gi_wp2
            exact fin W2 hb2 ⟨hbw, hok⟩
          · have t1 : decide (((ds.length : Nat) : Int) + ((j : Nat) : Int) < 9) = false := decide_eq_false (by omega)
            gi_wp2_with fail
            refine ⟨trivial, ?_⟩
            refine (CallsIn.inRound l (callsIn_wide.2 (Tryz.Buffer_WriteString_k _ _ _ ⟨ds.toArray⟩ wr hb hsz (one_cells _) (by have := HLN.out; have := HL.out; simp only [ByteArray.size, List.size_toArray]; omega)))).mono ?_
            rintro e W2 ⟨rfl, hb2, hbw, hok⟩
            gi_wp2
            exact fin W2 hb2 ⟨hbw, hok⟩
    case hdone =>
      rintro D W hD ⟨h1, h2, h3, h4⟩ hDf
      rw [Nat.sub_self, List.drop_zero, val_dig, txt_pos _ (by omega)] at h1
      gi_wp2_with fail
      refine ⟨trivial, ?_⟩
      refine (callsIn_wide.2 (Tryz.Buffer_String _ _ _ W h1)).mono ?_
      rintro e W2 ⟨rfl, N, rfl⟩
      gi_wp2
      refine ⟨by simp, .inl ⟨_, _, rfl, run_takeDeferred (hDf : (W.drewN N).heap[D]? = _), ?_⟩⟩
      refine ⟨_, by simp [results, Tryz.results84, go_sem], rfl, (h4.drewN N).trans (belowK_b (w := w) (Nat.le_refl _) (W.drewN N) D _ _ (by simp at hD; omega) hDf rfl rfl)⟩
    case hstop =>
      rintro D c k W _ _ h _
      exact h.elim

theorem text_any (neg : Bool) (xs : List Nat) (V : Value) (w : World) (h : IntArg w V neg xs) (hm : xs.length ≤ 900000) (ht : PowTab w) :
    Calls Tryz.prog 84 #[V] w fun e w' => e = .returned (.string ⟨(textL (cnt neg xs)).toArray⟩) ∧ Keeps w w' := by
  rcases Nat.eq_zero_or_pos (mag neg xs) with h0 | h0
  · have e : cnt neg xs = 0 := by unfold cnt; rw [h0]; exact sgn_zero neg
    rw [e]
    exact text_zero neg xs V w h hm h0
  · have e : textL (cnt neg xs) = sgnB neg ++ Lib.decDigits (mag neg xs) := by
      unfold textL cnt sgnB
      rw [sgn_natAbs]
      cases neg with
      | false => rw [if_neg (by simp [sgn]; omega), if_neg (by simp [sgn]), if_neg (by simp)]
      | true => rw [if_neg (by simp [sgn]; omega), if_pos (by simp [sgn]; omega), if_pos rfl]
    rw [e]
    exact text_pos neg xs V w _ h hm ht rfl h0
end Go.Proofs.YtomjnjpehokjbaaGreatDoor

namespace Go.Proofs.YtomjnjpehokjbaaGreatDoor
open Go.RowKit Go.Shelf

theorem text_num {w : World} {V : Value} {z : Int} (h : IntNum w V z) (ht : PowTab w) : Calls Tryz.prog 84 #[V] w fun e w' => e = .returned (.string ⟨(textL z).toArray⟩) ∧ Keeps w w' := by
  obtain ⟨n, xs, h, rfl, l⟩ := h
  exact text_any n xs V w h l ht
theorem valid_num (neg : Bool) (xs : List Nat) (V : Value) (w : World) (h : IntArg w V neg xs) (hm : xs.length ≤ 900000) : Calls Tryz.prog 65 #[V] w fun e w' => e = .returned (.bool (validB neg xs)) ∧ Keeps w w' := by
  obtain ⟨v, rfl, hv⟩ := h
  obtain ⟨A, n, c, rfl, e, -, -, -, hr⟩ := hv.open_
  exact valid_any neg A n c xs w e hr (by omega)
theorem Own.u32s {w : World} {b : Nat} {t : TypeId} {xs : List Nat} (h : Own w b t (u32s xs)) (hm : xs.length ≤ 1000000) : U32 w (.slice (some ⟨b, 0, none⟩) xs.length xs.length) xs :=
  U32.mk h.row (Nat.le_refl _) (by unfold maxLen; omega) (by intro e; cases e)


theorem rep_of_any {w : World} {b : Bool} {v : Value} {z : Int} (h : IntRep w (.agg #[.bool b, v]) z) : b = decide (z < 0) := by
  obtain ⟨v', e, -⟩ := h
  simp only [Value.agg.injEq, Array.mk.injEq, List.cons.injEq, Value.bool.injEq, and_true] at e
  exact e.1
theorem rep_of {w w' : World} {b : Bool} {v : Value} {z : Int} (h : IntRep w (.agg #[.bool b, v]) z) (hu : U32 w' v (dig z.natAbs)) : IntRep w' (.agg #[.bool b, v]) z := by
  obtain ⟨v', e, -⟩ := h
  simp only [Value.agg.injEq, Array.mk.injEq, List.cons.injEq, and_true] at e
  exact ⟨v, by rw [e.1], hu⟩
end Go.Proofs.YtomjnjpehokjbaaGreatDoor

namespace Go.Proofs.YtomjnjpehokjbaaGreatDoor
open Go.RowKit Go.Shelf

theorem take_next (ds : List UInt8) (lo j : Nat) (h1 : lo ≤ j) (h2 : j < ds.length) : (ds.drop lo).take (j + 1 - lo) = (ds.drop lo).take (j - lo) ++ [ds[j]] := by
  rw [show j + 1 - lo = (j - lo) + 1 by omega, List.take_succ_eq_append_getElem (by rw [List.length_drop]; omega)]
  congr 2
  rw [List.getElem_drop]
  congr 1
  omega
theorem all_part (ds : List UInt8) (h : ds.all isDg = true) (a b : Nat) : ((ds.drop a).take b).all isDg = true :=
  List.all_eq_true.2 fun x hx => List.all_eq_true.1 h x (List.mem_of_mem_drop (List.mem_of_mem_take hx))
theorem part_lt (ds : List UInt8) (h : ds.all isDg = true) (a b k : Nat) (hb : b ≤ k) : valD ((ds.drop a).take b) < 10 ^ k :=
  Nat.lt_of_lt_of_le (valD_lt _ (all_part ds h a b)) (Nat.pow_le_pow_right (by omega) (Nat.le_trans (List.length_take_le _ _) hb))

theorem parseZ_err {l : List UInt8} {c : Int} (h : parseC l = c) (hc : c ≠ 0) : parseZ l = 0 := if_neg (by rw [h]; exact hc)
set_option maxRecDepth 100000 in
set_option maxHeartbeats 2000000 in
theorem rparse_any (s : ByteArray) (w : World) (hs : s.size ≤ 9223372036854775807) :
    Calls Tryz.prog 58 #[.string s] w fun e w' => ∃ Q, e = .returned (.tuple #[Q, .int .i64 (parseC s.data.toList)]) ∧ IntRep w' Q (parseZ s.data.toList) ∧ Keeps w w' := by
  obtain ⟨i0, hi, hz0, hz1, hz2⟩ := info_parts info_u32
  have hR := Own.new w 27 [.bool false, .slice none 0 0]
  have hk := box2 w (.cells #[.bool false, .slice none 0 0] 27)
  have r0 := hR.c0
  have r1 := hR.c1
  have f0 := hR.frozen 0
  have f1 := hR.frozen 1
  have hlen : s.data.toList.length = s.size := by simp
  obtain ⟨l, hl⟩ : ∃ l, s.data.toList = l := ⟨_, rfl⟩
  rw [hl] at hlen ⊢
  have HL := Lib.hid hl
  have HLEN := Lib.hid hlen
  by_cases hlong : 2001 < s.size
  · have hd : decide ((2001 : Int) < s.size) = true := decide_eq_true (by omega)
    have hc : parseC l = 9 := if_pos (by omega)
    have HCC := Lib.hid hc
    have HZZ := Lib.hid (parseZ_err hc (by decide))
    clear hc hl hlen
    go_enter Tryz.func58, Tryz.ntmps58
    go_wp2
    refine bodyPost_ret (v := .tuple #[.agg #[.bool false, .slice none 0 0], .int .i64 9]) (by simp [results, Tryz.results58, go_sem]) rfl ?_
    exact ⟨_, by rw [HCC.out], by rw [HZZ.out]; exact IntRep.zero _, hk⟩
  · have hd : decide ((2001 : Int) < s.size) = false := decide_eq_false (by omega)
    clear hl hlen
    have hsI : (s.size : Int) ≤ 2001 := by omega
    by_cases h0 : s.size = 0
    · have hl0 : l = [] := by rw [← HL.out]; exact List.eq_nil_of_length_eq_zero (by simpa using h0)
      have hc : parseC l = 8 := by rw [hl0]; rfl
      have HCC := Lib.hid hc
      have HZZ := Lib.hid (parseZ_err hc (by decide))
      clear hc hl0
      go_enter Tryz.func58, Tryz.ntmps58
      go_wp2
      refine bodyPost_ret (v := .tuple #[.agg #[.bool false, .slice none 0 0], .int .i64 8]) (by simp [results, Tryz.results58, go_sem]) rfl ?_
      exact ⟨_, by rw [HCC.out], by rw [HZZ.out]; exact IntRep.zero _, hk⟩
    · have hpos : 0 < s.size := by omega
      have hposI : (0 : Int) < s.size := by omega
      have hh : l.head? = some s[0] := by rw [← HL.out]; rw [List.head?_eq_getElem?]; simp [hpos]; rfl
      have HH := Lib.hid hh
      clear hh
      by_cases hneg : s[0].toNat = 45
      · have hb : ((s[0].toNat : Int) == 45) = true := by rw [hneg]; rfl
        have h45 : s[0] = 45 := UInt8.toNat_inj.1 (by rw [hneg]; rfl)
        have HN := Lib.hid (show negOf l = true by unfold negOf; rw [HH.out, h45]; rfl)
        have hbo : bodyOf l = (s.extract 1 s.size).data.toList := by
          unfold bodyOf
          rw [HH.out, h45, if_pos rfl, ← HL.out]
          simp
          exact (List.take_of_length_le (by simp)).symm
        have hsz : (s.extract 1 s.size).size = s.size - 1 := by simp
        have HB := Lib.hid hbo
        have HSZ := Lib.hid hsz
        clear hneg h45 hbo hsz
        go_enter Tryz.func58, Tryz.ntmps58
        go_upto_region 6 with fail
        generalize s.extract 1 s.size = d at *
        have hdI : (d.size : Int) ≤ 2000 := by have := HSZ.out; omega
        by_cases hd0 : d.size = 0
        ·
          have tz1 : ((d.size : Int) == 0) = true := by rw [hd0]; rfl
          have hbad : badHead l = true := by
            unfold badHead
            rw [HB.out, show d.data.toList = [] from List.eq_nil_of_length_eq_zero (by simpa using hd0)]; rfl
          have hc : parseC l = 8 := by
            unfold parseC
            rw [if_neg (by have := HLEN.out; omega), if_pos hbad]
          have HCC := Lib.hid hc
          have HZZ := Lib.hid (parseZ_err hc (by decide))
          clear hc hbad
          go_wp2
          refine bodyPost_ret (v := .tuple #[.agg #[.bool false, .slice none 0 0], .int .i64 8]) (by simp [results, Tryz.results58, go_sem]) rfl ?_
          exact ⟨_, by rw [HCC.out], by rw [HZZ.out]; exact IntRep.zero _, hk⟩
        · have tz1 : ((d.size : Int) == 0) = false := by rw [beq_eq_false_iff_ne]; omega
          have hdp : 0 < d.size := by omega
          have hdpI : (0 : Int) < d.size := by omega
          have hhd : (bodyOf l).head? = some d[0] := by rw [HB.out, List.head?_eq_getElem?]; simp [hdp]; rfl
          have HHD := Lib.hid hhd
          clear hhd hd0
          by_cases h48 : d[0].toNat = 48
          · have tz2 : ((d[0].toNat : Int) == 48) = true := by rw [h48]; rfl
            have hbad : badHead l = true := by
              unfold badHead
              rw [HN.out, HHD.out, show d[0] = 48 from UInt8.toNat_inj.1 (by rw [h48]; rfl)]
              simp
            have hc : parseC l = 8 := by
              unfold parseC
              rw [if_neg (by have := HLEN.out; omega), if_pos hbad]
            have HCC := Lib.hid hc
            have HZZ := Lib.hid (parseZ_err hc (by decide))
            clear hc hbad
            go_wp2
            refine bodyPost_ret (v := .tuple #[.agg #[.bool false, .slice none 0 0], .int .i64 8]) (by simp [results, Tryz.results58, go_sem]) rfl ?_
            exact ⟨_, by rw [HCC.out], by rw [HZZ.out]; exact IntRep.zero _, hk⟩
          · have tz2 : ((d[0].toNat : Int) == 48) = false := by rw [beq_eq_false_iff_ne]; omega
            have hgood : badHead l = false := by
              unfold badHead
              rw [HHD.out, HB.out, show decide (some d[0] = some (48 : UInt8)) = false from decide_eq_false (fun e => h48 (by rw [Option.some.inj e]; rfl))]
              simp
              intro e
              have h0 : d.size = 0 := by show d.data.size = 0; rw [e]; rfl
              omega
            clear h48
            have HBH := Lib.hid hgood
            clear hgood
            go_wp2
            have hown := made2 w (.cells #[.bool false, .slice none 0 0] 27) 51
            have hR1 := hR.alloc (.cells #[] 51)
            have hk1 := keep2 w (.cells #[.bool false, .slice none 0 0] 27) (.cells #[] 51)
            clear r0 r1 f0 f1 hR hk
            generalize (w.alloc (.cells #[.bool false, .slice none 0 0] 27)).alloc (.cells #[] 51) = W at *
            have hR := hR1
            have hk := hk1
            clear hR1 hk1
            have r0 := hR.c0
            have r1 := hR.c1
            have f0 := hR.frozen 0
            have f1 := hR.frozen 1
            go_loop [6] (fun i => ∃ k : Nat, k ≤ d.size ∧ i = .int .i64 (k : Nat) ∧ (d.data.toList.take k).all isDg = true) (fun i => d.size - (intOf i).toNat)
            case atStart => exact ⟨0, Nat.zero_le _, rfl, rfl⟩
            case round =>
              obtain ⟨k, hkd, rfl, hall⟩ := hrel
              have HALL := Lib.hid hall
              clear hall
              by_cases hlt : k < d.size
              · have hst : d.data.toList.take (k + 1) = d.data.toList.take k ++ [d[k]] := by
                  rw [List.take_succ_eq_append_getElem (by simpa using hlt)]; rfl
                have HST := Lib.hid hst
                have hub : d[k].toNat < 256 := d[k].toNat_lt
                clear hst
                by_cases hdg : isDg d[k] = true
                · have h1 := isDg_le hdg
                  have HDG := Lib.hid hdg
                  have e1 : decide ((d[k].toNat : Int) < 48) = false := decide_eq_false (by omega)
                  have e2 : decide ((57 : Int) < d[k].toNat) = false := decide_eq_false (by omega)
                  have e3 : ¬ (d[k].toNat : Int) < 48 := by omega
                  have e4 : ¬ (57 : Int) < d[k].toNat := by omega
                  clear h1 hdg hub
                  go_wp2
                  go_round
                  case rel => exact ⟨k + 1, by omega, by go_num, by rw [HST.out, List.all_append, HALL.out]; simpa using HDG.out⟩
                  case measure => simp [intOf]; omega
                · have hc : parseC l = 8 := by
                    unfold parseC
                    rw [if_neg (by have := HLEN.out; omega), if_neg (by rw [HBH.out]; decide), if_pos]
                    rw [HB.out, List.all_eq_false]
                    exact ⟨d[k], List.mem_of_getElem? (i := k) (by simp [hlt]; rfl), hdg⟩
                  have HCC := Lib.hid hc
                  have HZZ := Lib.hid (parseZ_err hc (by decide))
                  have hnd : d[k].toNat < 48 ∨ 57 < d[k].toNat := by unfold isDg at hdg; simp at hdg; omega
                  clear hc hdg hown
                  by_cases hlo : d[k].toNat < 48
                  · have e1 : decide ((d[k].toNat : Int) < 48) = true := decide_eq_true (by omega)
                    have e3 : (d[k].toNat : Int) < 48 := by omega
                    clear hnd hub
                    go_wp2
                    have hR4 := hR.two (.bool false) (.slice none 0 0)
                    refine bodyPost_ret (v := .tuple #[.agg #[.bool false, .slice none 0 0], .int .i64 8]) (by simp [results, Tryz.results58, go_sem, hR4.cell 0, hR4.cell 1]) rfl ?_
                    exact ⟨_, by rw [HCC.out], by rw [HZZ.out]; exact IntRep.zero _, (hk.set (Nat.le_refl _) _).set (Nat.le_refl _) _⟩
                  · have e1 : decide ((d[k].toNat : Int) < 48) = false := decide_eq_false (by omega)
                    have e2 : decide ((57 : Int) < d[k].toNat) = true := decide_eq_true (by omega)
                    have e3 : ¬ (d[k].toNat : Int) < 48 := by omega
                    have e4 : (57 : Int) < d[k].toNat := by omega
                    clear hnd hub
                    go_wp2
                    have hR4 := hR.two (.bool false) (.slice none 0 0)
                    refine bodyPost_ret (v := .tuple #[.agg #[.bool false, .slice none 0 0], .int .i64 8]) (by simp [results, Tryz.results58, go_sem, hR4.cell 0, hR4.cell 1]) rfl ?_
                    exact ⟨_, by rw [HCC.out], by rw [HZZ.out]; exact IntRep.zero _, (hk.set (Nat.le_refl _) _).set (Nat.le_refl _) _⟩
              · obtain rfl : k = d.size := by omega
                have hal : d.data.toList.all isDg = true := by have := HALL.out; rwa [List.take_of_length_le (by simp)] at this
                by_cases hbig : 2000 < d.size
                ·
                  exact absurd hbig (by omega)
                · have e1 : decide ((2000 : Int) < d.size) = false := decide_eq_false (by omega)
                  have e2 : ¬ (2000 : Int) < d.size := by omega
                  have hc : parseC l = 0 := by
                    unfold parseC
                    rw [if_neg (by have := HLEN.out; omega), if_neg (by rw [HBH.out]; decide), if_neg (by rw [HB.out, hal]; decide), if_neg (by rw [HB.out]; simpa using hbig)]
                  have hz : parseZ l = sgn true (valD d.data.toList) := by
                    unfold parseZ
                    rw [if_pos hc, HN.out, HB.out]
                    rfl
                  have HCC := Lib.hid hc
                  have HZZ := Lib.hid hz
                  have HAL := Lib.hid hal
                  clear hc hz hal
                  go_wp2
                  go_loopw [5, 7] (fun g e wr => ∃ (k : Nat) (out : List Nat) (E : Int), out.length = k ∧ 9 * k ≤ d.size + 8 ∧ e = .int .i64 E ∧ E = (d.size : Int) - 9 * (k : Nat) ∧ AllB out ∧ val out = valD (d.data.toList.drop (d.size - 9 * k)) ∧
                      wr.ownsRow (w.heap.size + 1) 51 1 g out.length (u32s out) ∧ Own wr w.heap.size 27 [.bool false, .slice none 0 0] ∧ Keeps w wr) (fun _ e _ => (intOf e).toNat)
                  case atStart => exact ⟨0, [], (d.size : Int), rfl, by omega, rfl, by omega, AllB.nil, by rw [Nat.mul_zero, Nat.sub_zero, List.drop_of_length_le (by simp)]; rfl, hown, hR, hk⟩
                  case round =>
                    clear hown hR hk r0 r1 f0 f1
                    obtain ⟨k, out, E, hol, hkd, rfl, hE, hob, hval, hown, hR, hk⟩ := hrel
                    have HOL := Lib.hid hol
                    have HVAL := Lib.hid hval
                    have hkI : (k : Int) ≤ 300 := by omega
                    have hdI2 : (d.size : Int) ≤ 2000 := by omega
                    clear hol hval
                    by_cases hgo : 9 * k < d.size
                    · by_cases hfull : 9 * k + 9 ≤ d.size
                      · obtain ⟨lo, hlo⟩ : ∃ lo, d.size = 9 * k + 9 + lo := ⟨d.size - (9 * k + 9), by omega⟩
                        obtain rfl : E = (lo : Int) + 9 := by omega
                        have hloI : (lo : Int) ≤ 2000 := by omega
                        have HLO := Lib.hid hlo
                        clear hE hlo hfull hgo
                        go_wp2
                        go_loop [9, 10] (fun gv i => ∃ j : Nat, lo ≤ j ∧ j ≤ (lo + 9) ∧ i = .int .i64 (j : Nat) ∧ gv = .int .u32 (valD ((d.data.toList.drop lo).take (j - lo)) : Nat)) (fun _ i => (lo + 9) - (intOf i).toNat)
                        case atStart => exact ⟨lo, Nat.le_refl _, by omega, rfl, by rw [Nat.sub_self, List.take_zero]; rfl⟩
                        case round =>
                          obtain ⟨j, hj1, hj2, rfl, rfl⟩ := hrel
                          have hjI : (j : Int) ≤ 3000 := by omega
                          by_cases hlt : j < (lo + 9)
                          · have hjd : j < d.size := by have := HLO.out; omega
                            have hdg : isDg d[j] = true := (List.all_eq_true.1 HAL.out) _ (List.mem_of_getElem? (i := j) (by simp [hjd]; rfl))
                            have h12 := isDg_le hdg
                            have hst := take_next d.data.toList lo j hj1 (by simpa using hjd)
                            have hvs := valD_snoc ((d.data.toList.drop lo).take (j - lo)) (d.data.toList[j]'(by simpa using hjd))
                            rw [← hst] at hvs
                            have hvl := part_lt d.data.toList HAL.out lo (j - lo) 8 (by omega)
                            have HVS := Lib.hid hvs
                            clear hvs hst hdg
                            generalize valD ((d.data.toList.drop lo).take (j - lo)) = v at *
                            have vI : (v : Int) ≤ 99999999 := by omega
                            have c1 : (48 : Int) ≤ d[j].toNat := by omega
                            have c2 : (d[j].toNat : Int) ≤ 57 := by omega
                            clear hvl h12
                            go_wp2
                            go_round
                            case rel => exact ⟨j + 1, by omega, by omega, by go_num, by rw [HVS.out, show d.data.toList[j] = d[j] from rfl]; congr 1; omega⟩
                            case measure => simp [intOf]; omega
                          · obtain rfl : (lo + 9) = j := by omega
                            have hn := part_lt d.data.toList HAL.out lo ((lo + 9) - lo) 9 (by omega)
                            have hgs := group_step d.data.toList k lo (lo + 9) (by omega) (by have := HLO.out; simp; omega)
                            have HGS := Lib.hid hgs
                            have HN9 := Lib.hid hn
                            have hol3 : out.length ≤ 300 := by have := HOL.out; omega
                            have hnI : (valD ((d.data.toList.drop lo).take ((lo + 9) - lo)) : Int) < 1000000000 := by omega
                            clear hgs hn
                            obtain ⟨n, hnn⟩ : ∃ n, valD ((d.data.toList.drop lo).take ((lo + 9) - lo)) = n := ⟨_, rfl⟩
                            rw [hnn] at hnI ⊢
                            have HNN := Lib.hid hnn
                            clear hnn
                            go_wp2_with (at_builtin; refine wpList_append_own _ rfl _ _ 25 rfl (w.heap.size + 1) 51 i0 (.int .u32 0) 1 4 Tryz.underlying25 hi hz0 hz1 hz2 rfl (by decide) _ _ _ rfl (hown.alloc _) ⟨wr.heap.size, 0, none⟩ 1 1 [.int .u32 (n : Nat)] rfl rfl (newcell _ _ _) (by simp [Value.oneCell']) (by simp only [maxLen]; omega) (by omega) (by have := hR.lt; simp; omega) ?_; intro v' w1 hown' hgrow _)
                            rw [u32s_snoc out n rfl] at hown'
                            have hk2 : Keeps w w1 := (hk.alloc hk.size _).grown hgrow (by have := hk.size; simp; omega) (fun b e => by have := (hown.lt b e).1; omega)
                            have hR3 := (hR.alloc _).grown hgrow (fun e => by have := (hown.lt _ e.symm).1; omega)
                            go_roundw
                            case rel => exact ⟨k + 1, out ++ [n], (lo : Int), by rw [List.length_append, HOL.out]; rfl, by have := HLO.out; omega, by first | rfl | go_num, by have := HLO.out; omega, hob.append (AllB.single (by omega)),
                              by rw [val_snoc, HOL.out, HVAL.out, show d.size - 9 * k = (lo + 9) by have := HLO.out; omega, show d.size - 9 * (k + 1) = lo by have := HLO.out; omega, HGS.out, HNN.out], by simpa using hown', hR3, hk2⟩
                            case measure => simp [intOf]; omega
                      · obtain ⟨h9, hh9⟩ : ∃ h9, d.size = 9 * k + h9 := ⟨d.size - 9 * k, by omega⟩
                        obtain rfl : E = (h9 : Int) := by omega
                        have h9I : (h9 : Int) ≤ 8 := by omega
                        have h9p : (0 : Int) < (h9 : Int) := by omega
                        have hneg9 : (h9 : Int) - 9 < 0 := by omega
                        have e3 : decide ((h9 : Int) - 9 < 0) = true := decide_eq_true hneg9
                        have HLO := Lib.hid hh9
                        clear hE hh9 hfull hgo
                        go_wp2
                        go_loop [9, 10] (fun gv i => ∃ j : Nat, 0 ≤ j ∧ j ≤ h9 ∧ i = .int .i64 (j : Nat) ∧ gv = .int .u32 (valD ((d.data.toList.drop 0).take (j - 0)) : Nat)) (fun _ i => h9 - (intOf i).toNat)
                        case atStart => exact ⟨0, Nat.le_refl _, by omega, rfl, by rw [Nat.sub_self, List.take_zero]; rfl⟩
                        case round =>
                          obtain ⟨j, hj1, hj2, rfl, rfl⟩ := hrel
                          have hjI : (j : Int) ≤ 3000 := by omega
                          by_cases hlt : j < h9
                          · have hjd : j < d.size := by have := HLO.out; omega
                            have hdg : isDg d[j] = true := (List.all_eq_true.1 HAL.out) _ (List.mem_of_getElem? (i := j) (by simp [hjd]; rfl))
                            have h12 := isDg_le hdg
                            have hst := take_next d.data.toList 0 j hj1 (by simpa using hjd)
                            have hvs := valD_snoc ((d.data.toList.drop 0).take (j - 0)) (d.data.toList[j]'(by simpa using hjd))
                            rw [← hst] at hvs
                            have hvl := part_lt d.data.toList HAL.out 0 (j - 0) 8 (by omega)
                            have HVS := Lib.hid hvs
                            clear hvs hst hdg
                            generalize valD ((d.data.toList.drop 0).take (j - 0)) = v at *
                            have vI : (v : Int) ≤ 99999999 := by omega
                            have c1 : (48 : Int) ≤ d[j].toNat := by omega
                            have c2 : (d[j].toNat : Int) ≤ 57 := by omega
                            clear hvl h12
                            go_wp2
                            go_round
                            case rel => exact ⟨j + 1, by omega, by omega, by go_num, by rw [HVS.out, show d.data.toList[j] = d[j] from rfl]; congr 1; omega⟩
                            case measure => simp [intOf]; omega
                          · obtain rfl : h9 = j := by omega
                            have hn := part_lt d.data.toList HAL.out 0 (h9 - 0) 9 (by omega)
                            have hgs := group_step d.data.toList k 0 h9 (by omega) (by have := HLO.out; simp; omega)
                            have HGS := Lib.hid hgs
                            have HN9 := Lib.hid hn
                            have hol3 : out.length ≤ 300 := by have := HOL.out; omega
                            have hnI : (valD ((d.data.toList.drop 0).take (h9 - 0)) : Int) < 1000000000 := by omega
                            clear hgs hn
                            obtain ⟨n, hnn⟩ : ∃ n, valD ((d.data.toList.drop 0).take (h9 - 0)) = n := ⟨_, rfl⟩
                            rw [hnn] at hnI ⊢
                            have HNN := Lib.hid hnn
                            clear hnn
                            go_wp2_with (at_builtin; refine wpList_append_own _ rfl _ _ 25 rfl (w.heap.size + 1) 51 i0 (.int .u32 0) 1 4 Tryz.underlying25 hi hz0 hz1 hz2 rfl (by decide) _ _ _ rfl (hown.alloc _) ⟨wr.heap.size, 0, none⟩ 1 1 [.int .u32 (n : Nat)] rfl rfl (newcell _ _ _) (by simp [Value.oneCell']) (by simp only [maxLen]; omega) (by omega) (by have := hR.lt; simp; omega) ?_; intro v' w1 hown' hgrow _)
                            rw [u32s_snoc out n rfl] at hown'
                            have hk2 : Keeps w w1 := (hk.alloc hk.size _).grown hgrow (by have := hk.size; simp; omega) (fun b e => by have := (hown.lt b e).1; omega)
                            have hR3 := (hR.alloc _).grown hgrow (fun e => by have := (hown.lt _ e.symm).1; omega)
                            go_roundw
                            case rel => exact ⟨k + 1, out ++ [n], ((h9 : Int) - 9), by rw [List.length_append, HOL.out]; rfl, by have := HLO.out; omega, by first | rfl | go_num, by have := HLO.out; omega, hob.append (AllB.single (by omega)),
                              by rw [val_snoc, HOL.out, HVAL.out, show d.size - 9 * k = h9 by have := HLO.out; omega, show d.size - 9 * (k + 1) = 0 by have := HLO.out; omega, HGS.out, HNN.out], by simpa using hown', hR3, hk2⟩
                            case measure => simp [intOf]; omega
                    · have q1 : ¬ (0 : Int) < E := by omega
                      have q2 : decide ((0 : Int) < E) = false := decide_eq_false q1
                      have hv2 : val out = valD d.data.toList := by rw [HVAL.out, show d.size - 9 * k = 0 by omega, List.drop_zero]
                      have HV2 := Lib.hid hv2
                      have hu := U32.of_own hown
                      clear hE hgo hv2
                      go_wp2_with fail
                      refine (rmade_u true _ out _ hu hob (by rw [HOL.out]; omega)).mono ?_
                      rintro e w5 ⟨V5, rfl, hr5, hk5⟩
                      obtain ⟨A5, n5, c5, rfl, -⟩ := hr5.open_
                      have hR5 := hR.below hk5
                      have r0 := hR5.c0
                      have r1 := hR5.c1
                      have f0 := hR5.frozen 0
                      have f1 := hR5.frozen 1
                      rw [HV2.out] at hr5 ⊢
                      generalize decide (sgn true (valD d.data.toList) < 0) = b5 at *
                      go_wp2
                      have hR4 := hR5.two (.bool b5) (.slice A5 n5 c5)
                      refine bodyPost_ret (v := .tuple #[.agg #[.bool b5, .slice A5 n5 c5], .int .i64 0]) (by simp [results, Tryz.results58, go_sem, hR4.cell 0, hR4.cell 1]) rfl ?_
                      exact ⟨_, by rw [HCC.out], by rw [HZZ.out]; exact hr5.two hR5 rfl rfl rfl, ((hk.trans' hk5).set (Nat.le_refl _) _).set (Nat.le_refl _) _⟩
      · have hb : ((s[0].toNat : Int) == 45) = false := by rw [beq_eq_false_iff_ne]; omega
        have h45 : s[0] ≠ 45 := fun e => hneg (by rw [e]; rfl)
        have HN := Lib.hid (show negOf l = false by unfold negOf; rw [HH.out]; simpa using h45)
        have hbo : bodyOf l = s.data.toList := by
          unfold bodyOf
          rw [HH.out, if_neg (by simpa using h45), ← HL.out]
        have HB := Lib.hid hbo
        clear hneg h45 hbo
        go_enter Tryz.func58, Tryz.ntmps58
        go_upto_region 6 with fail
        obtain ⟨d, rfl⟩ : ∃ d : ByteArray, d = s := ⟨_, rfl⟩
        have hdI : (d.size : Int) ≤ 2001 := hsI
        by_cases hd0 : d.size = 0
        ·
          exact absurd hd0 (by omega)
        · have tz1 : ((d.size : Int) == 0) = false := by rw [beq_eq_false_iff_ne]; omega
          have hdp : 0 < d.size := by omega
          have hdpI : (0 : Int) < d.size := by omega
          have hhd : (bodyOf l).head? = some d[0] := by rw [HB.out, List.head?_eq_getElem?]; simp [hdp]; rfl
          have HHD := Lib.hid hhd
          clear hhd hd0
          by_cases h48 : d[0].toNat = 48
          · have tz2 : ((d[0].toNat : Int) == 48) = true := by rw [h48]; rfl
            by_cases h1 : 1 < d.size
            · have hbad : badHead l = true := by
                unfold badHead
                rw [HHD.out, show d[0] = 48 from UInt8.toNat_inj.1 (by rw [h48]; rfl), HB.out, show d.data.toList.length = d.size by simp]
                simp [h1]
              have e1 : decide ((1 : Int) < d.size) = true := decide_eq_true (by omega)
              have hc : parseC l = 8 := by
                unfold parseC
                rw [if_neg (by have := HLEN.out; omega), if_pos hbad]
              have HCC := Lib.hid hc
              have HZZ := Lib.hid (parseZ_err hc (by decide))
              clear hc hbad
              go_wp2
              refine bodyPost_ret (v := .tuple #[.agg #[.bool false, .slice none 0 0], .int .i64 8]) (by simp [results, Tryz.results58, go_sem]) rfl ?_
              exact ⟨_, by rw [HCC.out], by rw [HZZ.out]; exact IntRep.zero _, hk⟩
            · have hgood : badHead l = false := by
                unfold badHead
                rw [HN.out, HB.out, show d.data.toList.length = d.size by simp, decide_eq_false h1]
                simp
                intro e
                have h0 : d.size = 0 := by show d.data.size = 0; rw [e]; rfl
                omega
              have e1 : decide ((1 : Int) < d.size) = false := decide_eq_false (by omega)
              have HBH := Lib.hid hgood
              clear hgood
              go_wp2
              have hown := made2 w (.cells #[.bool false, .slice none 0 0] 27) 51
              have hR1 := hR.alloc (.cells #[] 51)
              have hk1 := keep2 w (.cells #[.bool false, .slice none 0 0] 27) (.cells #[] 51)
              clear r0 r1 f0 f1 hR hk
              generalize (w.alloc (.cells #[.bool false, .slice none 0 0] 27)).alloc (.cells #[] 51) = W at *
              have hR := hR1
              have hk := hk1
              clear hR1 hk1
              have r0 := hR.c0
              have r1 := hR.c1
              have f0 := hR.frozen 0
              have f1 := hR.frozen 1
              go_loop [6] (fun i => ∃ k : Nat, k ≤ d.size ∧ i = .int .i64 (k : Nat) ∧ (d.data.toList.take k).all isDg = true) (fun i => d.size - (intOf i).toNat)
              case atStart => exact ⟨0, Nat.zero_le _, rfl, rfl⟩
              case round =>
                obtain ⟨k, hkd, rfl, hall⟩ := hrel
                have HALL := Lib.hid hall
                clear hall
                by_cases hlt : k < d.size
                · have hst : d.data.toList.take (k + 1) = d.data.toList.take k ++ [d[k]] := by
                    rw [List.take_succ_eq_append_getElem (by simpa using hlt)]; rfl
                  have HST := Lib.hid hst
                  have hub : d[k].toNat < 256 := d[k].toNat_lt
                  clear hst
                  by_cases hdg : isDg d[k] = true
                  · have h1 := isDg_le hdg
                    have HDG := Lib.hid hdg
                    have e1 : decide ((d[k].toNat : Int) < 48) = false := decide_eq_false (by omega)
                    have e2 : decide ((57 : Int) < d[k].toNat) = false := decide_eq_false (by omega)
                    have e3 : ¬ (d[k].toNat : Int) < 48 := by omega
                    have e4 : ¬ (57 : Int) < d[k].toNat := by omega
                    clear h1 hdg hub
                    go_wp2
                    go_round
                    case rel => exact ⟨k + 1, by omega, by go_num, by rw [HST.out, List.all_append, HALL.out]; simpa using HDG.out⟩
                    case measure => simp [intOf]; omega
                  · have hc : parseC l = 8 := by
                      unfold parseC
                      rw [if_neg (by have := HLEN.out; omega), if_neg (by rw [HBH.out]; decide), if_pos]
                      rw [HB.out, List.all_eq_false]
                      exact ⟨d[k], List.mem_of_getElem? (i := k) (by simp [hlt]; rfl), hdg⟩
                    have HCC := Lib.hid hc
                    have HZZ := Lib.hid (parseZ_err hc (by decide))
                    have hnd : d[k].toNat < 48 ∨ 57 < d[k].toNat := by unfold isDg at hdg; simp at hdg; omega
                    clear hc hdg hown
                    by_cases hlo : d[k].toNat < 48
                    · have e1 : decide ((d[k].toNat : Int) < 48) = true := decide_eq_true (by omega)
                      have e3 : (d[k].toNat : Int) < 48 := by omega
                      clear hnd hub
                      go_wp2
                      have hR4 := hR.two (.bool false) (.slice none 0 0)
                      refine bodyPost_ret (v := .tuple #[.agg #[.bool false, .slice none 0 0], .int .i64 8]) (by simp [results, Tryz.results58, go_sem, hR4.cell 0, hR4.cell 1]) rfl ?_
                      exact ⟨_, by rw [HCC.out], by rw [HZZ.out]; exact IntRep.zero _, (hk.set (Nat.le_refl _) _).set (Nat.le_refl _) _⟩
                    · have e1 : decide ((d[k].toNat : Int) < 48) = false := decide_eq_false (by omega)
                      have e2 : decide ((57 : Int) < d[k].toNat) = true := decide_eq_true (by omega)
                      have e3 : ¬ (d[k].toNat : Int) < 48 := by omega
                      have e4 : (57 : Int) < d[k].toNat := by omega
                      clear hnd hub
                      go_wp2
                      have hR4 := hR.two (.bool false) (.slice none 0 0)
                      refine bodyPost_ret (v := .tuple #[.agg #[.bool false, .slice none 0 0], .int .i64 8]) (by simp [results, Tryz.results58, go_sem, hR4.cell 0, hR4.cell 1]) rfl ?_
                      exact ⟨_, by rw [HCC.out], by rw [HZZ.out]; exact IntRep.zero _, (hk.set (Nat.le_refl _) _).set (Nat.le_refl _) _⟩
                · obtain rfl : k = d.size := by omega
                  have hal : d.data.toList.all isDg = true := by have := HALL.out; rwa [List.take_of_length_le (by simp)] at this
                  by_cases hbig : 2000 < d.size
                  ·
                    exact absurd hbig (by omega)
                  · have e1 : decide ((2000 : Int) < d.size) = false := decide_eq_false (by omega)
                    have e2 : ¬ (2000 : Int) < d.size := by omega
                    have hc : parseC l = 0 := by
                      unfold parseC
                      rw [if_neg (by have := HLEN.out; omega), if_neg (by rw [HBH.out]; decide), if_neg (by rw [HB.out, hal]; decide), if_neg (by rw [HB.out]; simpa using hbig)]
                    have hz : parseZ l = sgn false (valD d.data.toList) := by
                      unfold parseZ
                      rw [if_pos hc, HN.out, HB.out]
                      rfl
                    have HCC := Lib.hid hc
                    have HZZ := Lib.hid hz
                    have HAL := Lib.hid hal
                    clear hc hz hal
                    go_wp2
                    go_loopw [5, 7] (fun g e wr => ∃ (k : Nat) (out : List Nat) (E : Int), out.length = k ∧ 9 * k ≤ d.size + 8 ∧ e = .int .i64 E ∧ E = (d.size : Int) - 9 * (k : Nat) ∧ AllB out ∧ val out = valD (d.data.toList.drop (d.size - 9 * k)) ∧
                        wr.ownsRow (w.heap.size + 1) 51 1 g out.length (u32s out) ∧ Own wr w.heap.size 27 [.bool false, .slice none 0 0] ∧ Keeps w wr) (fun _ e _ => (intOf e).toNat)
                    case atStart => exact ⟨0, [], (d.size : Int), rfl, by omega, rfl, by omega, AllB.nil, by rw [Nat.mul_zero, Nat.sub_zero, List.drop_of_length_le (by simp)]; rfl, hown, hR, hk⟩
                    case round =>
                      clear hown hR hk r0 r1 f0 f1
                      obtain ⟨k, out, E, hol, hkd, rfl, hE, hob, hval, hown, hR, hk⟩ := hrel
                      have HOL := Lib.hid hol
                      have HVAL := Lib.hid hval
                      have hkI : (k : Int) ≤ 300 := by omega
                      have hdI2 : (d.size : Int) ≤ 2000 := by omega
                      clear hol hval
                      by_cases hgo : 9 * k < d.size
                      · by_cases hfull : 9 * k + 9 ≤ d.size
                        · obtain ⟨lo, hlo⟩ : ∃ lo, d.size = 9 * k + 9 + lo := ⟨d.size - (9 * k + 9), by omega⟩
                          obtain rfl : E = (lo : Int) + 9 := by omega
                          have hloI : (lo : Int) ≤ 2000 := by omega
                          have HLO := Lib.hid hlo
                          clear hE hlo hfull hgo
                          go_wp2
                          go_loop [9, 10] (fun gv i => ∃ j : Nat, lo ≤ j ∧ j ≤ (lo + 9) ∧ i = .int .i64 (j : Nat) ∧ gv = .int .u32 (valD ((d.data.toList.drop lo).take (j - lo)) : Nat)) (fun _ i => (lo + 9) - (intOf i).toNat)
                          case atStart => exact ⟨lo, Nat.le_refl _, by omega, rfl, by rw [Nat.sub_self, List.take_zero]; rfl⟩
                          case round =>
                            obtain ⟨j, hj1, hj2, rfl, rfl⟩ := hrel
                            have hjI : (j : Int) ≤ 3000 := by omega
                            by_cases hlt : j < (lo + 9)
                            · have hjd : j < d.size := by have := HLO.out; omega
                              have hdg : isDg d[j] = true := (List.all_eq_true.1 HAL.out) _ (List.mem_of_getElem? (i := j) (by simp [hjd]; rfl))
                              have h12 := isDg_le hdg
                              have hst := take_next d.data.toList lo j hj1 (by simpa using hjd)
                              have hvs := valD_snoc ((d.data.toList.drop lo).take (j - lo)) (d.data.toList[j]'(by simpa using hjd))
                              rw [← hst] at hvs
                              have hvl := part_lt d.data.toList HAL.out lo (j - lo) 8 (by omega)
                              have HVS := Lib.hid hvs
                              clear hvs hst hdg
                              generalize valD ((d.data.toList.drop lo).take (j - lo)) = v at *
                              have vI : (v : Int) ≤ 99999999 := by omega
                              have c1 : (48 : Int) ≤ d[j].toNat := by omega
                              have c2 : (d[j].toNat : Int) ≤ 57 := by omega
                              clear hvl h12
                              go_wp2
                              go_round
                              case rel => exact ⟨j + 1, by omega, by omega, by go_num, by rw [HVS.out, show d.data.toList[j] = d[j] from rfl]; congr 1; omega⟩
                              case measure => simp [intOf]; omega
                            · obtain rfl : (lo + 9) = j := by omega
                              have hn := part_lt d.data.toList HAL.out lo ((lo + 9) - lo) 9 (by omega)
                              have hgs := group_step d.data.toList k lo (lo + 9) (by omega) (by have := HLO.out; simp; omega)
                              have HGS := Lib.hid hgs
                              have HN9 := Lib.hid hn
                              have hol3 : out.length ≤ 300 := by have := HOL.out; omega
                              have hnI : (valD ((d.data.toList.drop lo).take ((lo + 9) - lo)) : Int) < 1000000000 := by omega
                              clear hgs hn
                              obtain ⟨n, hnn⟩ : ∃ n, valD ((d.data.toList.drop lo).take ((lo + 9) - lo)) = n := ⟨_, rfl⟩
                              rw [hnn] at hnI ⊢
                              have HNN := Lib.hid hnn
                              clear hnn
                              go_wp2_with (at_builtin; refine wpList_append_own _ rfl _ _ 25 rfl (w.heap.size + 1) 51 i0 (.int .u32 0) 1 4 Tryz.underlying25 hi hz0 hz1 hz2 rfl (by decide) _ _ _ rfl (hown.alloc _) ⟨wr.heap.size, 0, none⟩ 1 1 [.int .u32 (n : Nat)] rfl rfl (newcell _ _ _) (by simp [Value.oneCell']) (by simp only [maxLen]; omega) (by omega) (by have := hR.lt; simp; omega) ?_; intro v' w1 hown' hgrow _)
                              rw [u32s_snoc out n rfl] at hown'
                              have hk2 : Keeps w w1 := (hk.alloc hk.size _).grown hgrow (by have := hk.size; simp; omega) (fun b e => by have := (hown.lt b e).1; omega)
                              have hR3 := (hR.alloc _).grown hgrow (fun e => by have := (hown.lt _ e.symm).1; omega)
                              go_roundw
                              case rel => exact ⟨k + 1, out ++ [n], (lo : Int), by rw [List.length_append, HOL.out]; rfl, by have := HLO.out; omega, by first | rfl | go_num, by have := HLO.out; omega, hob.append (AllB.single (by omega)),
                                by rw [val_snoc, HOL.out, HVAL.out, show d.size - 9 * k = (lo + 9) by have := HLO.out; omega, show d.size - 9 * (k + 1) = lo by have := HLO.out; omega, HGS.out, HNN.out], by simpa using hown', hR3, hk2⟩
                              case measure => simp [intOf]; omega
                        · obtain ⟨h9, hh9⟩ : ∃ h9, d.size = 9 * k + h9 := ⟨d.size - 9 * k, by omega⟩
                          obtain rfl : E = (h9 : Int) := by omega
                          have h9I : (h9 : Int) ≤ 8 := by omega
                          have h9p : (0 : Int) < (h9 : Int) := by omega
                          have hneg9 : (h9 : Int) - 9 < 0 := by omega
                          have e3 : decide ((h9 : Int) - 9 < 0) = true := decide_eq_true hneg9
                          have HLO := Lib.hid hh9
                          clear hE hh9 hfull hgo
                          go_wp2
                          go_loop [9, 10] (fun gv i => ∃ j : Nat, 0 ≤ j ∧ j ≤ h9 ∧ i = .int .i64 (j : Nat) ∧ gv = .int .u32 (valD ((d.data.toList.drop 0).take (j - 0)) : Nat)) (fun _ i => h9 - (intOf i).toNat)
                          case atStart => exact ⟨0, Nat.le_refl _, by omega, rfl, by rw [Nat.sub_self, List.take_zero]; rfl⟩
                          case round =>
                            obtain ⟨j, hj1, hj2, rfl, rfl⟩ := hrel
                            have hjI : (j : Int) ≤ 3000 := by omega
                            by_cases hlt : j < h9
                            · have hjd : j < d.size := by have := HLO.out; omega
                              have hdg : isDg d[j] = true := (List.all_eq_true.1 HAL.out) _ (List.mem_of_getElem? (i := j) (by simp [hjd]; rfl))
                              have h12 := isDg_le hdg
                              have hst := take_next d.data.toList 0 j hj1 (by simpa using hjd)
                              have hvs := valD_snoc ((d.data.toList.drop 0).take (j - 0)) (d.data.toList[j]'(by simpa using hjd))
                              rw [← hst] at hvs
                              have hvl := part_lt d.data.toList HAL.out 0 (j - 0) 8 (by omega)
                              have HVS := Lib.hid hvs
                              clear hvs hst hdg
                              generalize valD ((d.data.toList.drop 0).take (j - 0)) = v at *
                              have vI : (v : Int) ≤ 99999999 := by omega
                              have c1 : (48 : Int) ≤ d[j].toNat := by omega
                              have c2 : (d[j].toNat : Int) ≤ 57 := by omega
                              clear hvl h12
                              go_wp2
                              go_round
                              case rel => exact ⟨j + 1, by omega, by omega, by go_num, by rw [HVS.out, show d.data.toList[j] = d[j] from rfl]; congr 1; omega⟩
                              case measure => simp [intOf]; omega
                            · obtain rfl : h9 = j := by omega
                              have hn := part_lt d.data.toList HAL.out 0 (h9 - 0) 9 (by omega)
                              have hgs := group_step d.data.toList k 0 h9 (by omega) (by have := HLO.out; simp; omega)
                              have HGS := Lib.hid hgs
                              have HN9 := Lib.hid hn
                              have hol3 : out.length ≤ 300 := by have := HOL.out; omega
                              have hnI : (valD ((d.data.toList.drop 0).take (h9 - 0)) : Int) < 1000000000 := by omega
                              clear hgs hn
                              obtain ⟨n, hnn⟩ : ∃ n, valD ((d.data.toList.drop 0).take (h9 - 0)) = n := ⟨_, rfl⟩
                              rw [hnn] at hnI ⊢
                              have HNN := Lib.hid hnn
                              clear hnn
                              go_wp2_with (at_builtin; refine wpList_append_own _ rfl _ _ 25 rfl (w.heap.size + 1) 51 i0 (.int .u32 0) 1 4 Tryz.underlying25 hi hz0 hz1 hz2 rfl (by decide) _ _ _ rfl (hown.alloc _) ⟨wr.heap.size, 0, none⟩ 1 1 [.int .u32 (n : Nat)] rfl rfl (newcell _ _ _) (by simp [Value.oneCell']) (by simp only [maxLen]; omega) (by omega) (by have := hR.lt; simp; omega) ?_; intro v' w1 hown' hgrow _)
                              rw [u32s_snoc out n rfl] at hown'
                              have hk2 : Keeps w w1 := (hk.alloc hk.size _).grown hgrow (by have := hk.size; simp; omega) (fun b e => by have := (hown.lt b e).1; omega)
                              have hR3 := (hR.alloc _).grown hgrow (fun e => by have := (hown.lt _ e.symm).1; omega)
                              go_roundw
                              case rel => exact ⟨k + 1, out ++ [n], ((h9 : Int) - 9), by rw [List.length_append, HOL.out]; rfl, by have := HLO.out; omega, by first | rfl | go_num, by have := HLO.out; omega, hob.append (AllB.single (by omega)),
                                by rw [val_snoc, HOL.out, HVAL.out, show d.size - 9 * k = h9 by have := HLO.out; omega, show d.size - 9 * (k + 1) = 0 by have := HLO.out; omega, HGS.out, HNN.out], by simpa using hown', hR3, hk2⟩
                              case measure => simp [intOf]; omega
                      · have q1 : ¬ (0 : Int) < E := by omega
                        have q2 : decide ((0 : Int) < E) = false := decide_eq_false q1
                        have hv2 : val out = valD d.data.toList := by rw [HVAL.out, show d.size - 9 * k = 0 by omega, List.drop_zero]
                        have HV2 := Lib.hid hv2
                        have hu := U32.of_own hown
                        clear hE hgo hv2
                        go_wp2_with fail
                        refine (rmade_u false _ out _ hu hob (by rw [HOL.out]; omega)).mono ?_
                        rintro e w5 ⟨V5, rfl, hr5, hk5⟩
                        obtain ⟨A5, n5, c5, rfl, -⟩ := hr5.open_
                        have hR5 := hR.below hk5
                        have r0 := hR5.c0
                        have r1 := hR5.c1
                        have f0 := hR5.frozen 0
                        have f1 := hR5.frozen 1
                        rw [HV2.out] at hr5 ⊢
                        generalize decide (sgn false (valD d.data.toList) < 0) = b5 at *
                        go_wp2
                        have hR4 := hR5.two (.bool b5) (.slice A5 n5 c5)
                        refine bodyPost_ret (v := .tuple #[.agg #[.bool b5, .slice A5 n5 c5], .int .i64 0]) (by simp [results, Tryz.results58, go_sem, hR4.cell 0, hR4.cell 1]) rfl ?_
                        exact ⟨_, by rw [HCC.out], by rw [HZZ.out]; exact hr5.two hR5 rfl rfl rfl, ((hk.trans' hk5).set (Nat.le_refl _) _).set (Nat.le_refl _) _⟩
          · have tz2 : ((d[0].toNat : Int) == 48) = false := by rw [beq_eq_false_iff_ne]; omega
            have hgood : badHead l = false := by
              unfold badHead
              rw [HHD.out, HB.out, show decide (some d[0] = some (48 : UInt8)) = false from decide_eq_false (fun e => h48 (by rw [Option.some.inj e]; rfl))]
              simp
              intro e
              have h0 : d.size = 0 := by show d.data.size = 0; rw [e]; rfl
              omega
            clear h48
            have HBH := Lib.hid hgood
            clear hgood
            go_wp2
            have hown := made2 w (.cells #[.bool false, .slice none 0 0] 27) 51
            have hR1 := hR.alloc (.cells #[] 51)
            have hk1 := keep2 w (.cells #[.bool false, .slice none 0 0] 27) (.cells #[] 51)
            clear r0 r1 f0 f1 hR hk
            generalize (w.alloc (.cells #[.bool false, .slice none 0 0] 27)).alloc (.cells #[] 51) = W at *
            have hR := hR1
            have hk := hk1
            clear hR1 hk1
            have r0 := hR.c0
            have r1 := hR.c1
            have f0 := hR.frozen 0
            have f1 := hR.frozen 1
            go_loop [6] (fun i => ∃ k : Nat, k ≤ d.size ∧ i = .int .i64 (k : Nat) ∧ (d.data.toList.take k).all isDg = true) (fun i => d.size - (intOf i).toNat)
            case atStart => exact ⟨0, Nat.zero_le _, rfl, rfl⟩
            case round =>
              obtain ⟨k, hkd, rfl, hall⟩ := hrel
              have HALL := Lib.hid hall
              clear hall
              by_cases hlt : k < d.size
              · have hst : d.data.toList.take (k + 1) = d.data.toList.take k ++ [d[k]] := by
                  rw [List.take_succ_eq_append_getElem (by simpa using hlt)]; rfl
                have HST := Lib.hid hst
                have hub : d[k].toNat < 256 := d[k].toNat_lt
                clear hst
                by_cases hdg : isDg d[k] = true
                · have h1 := isDg_le hdg
                  have HDG := Lib.hid hdg
                  have e1 : decide ((d[k].toNat : Int) < 48) = false := decide_eq_false (by omega)
                  have e2 : decide ((57 : Int) < d[k].toNat) = false := decide_eq_false (by omega)
                  have e3 : ¬ (d[k].toNat : Int) < 48 := by omega
                  have e4 : ¬ (57 : Int) < d[k].toNat := by omega
                  clear h1 hdg hub
                  go_wp2
                  go_round
                  case rel => exact ⟨k + 1, by omega, by go_num, by rw [HST.out, List.all_append, HALL.out]; simpa using HDG.out⟩
                  case measure => simp [intOf]; omega
                · have hc : parseC l = 8 := by
                    unfold parseC
                    rw [if_neg (by have := HLEN.out; omega), if_neg (by rw [HBH.out]; decide), if_pos]
                    rw [HB.out, List.all_eq_false]
                    exact ⟨d[k], List.mem_of_getElem? (i := k) (by simp [hlt]; rfl), hdg⟩
                  have HCC := Lib.hid hc
                  have HZZ := Lib.hid (parseZ_err hc (by decide))
                  have hnd : d[k].toNat < 48 ∨ 57 < d[k].toNat := by unfold isDg at hdg; simp at hdg; omega
                  clear hc hdg hown
                  by_cases hlo : d[k].toNat < 48
                  · have e1 : decide ((d[k].toNat : Int) < 48) = true := decide_eq_true (by omega)
                    have e3 : (d[k].toNat : Int) < 48 := by omega
                    clear hnd hub
                    go_wp2
                    have hR4 := hR.two (.bool false) (.slice none 0 0)
                    refine bodyPost_ret (v := .tuple #[.agg #[.bool false, .slice none 0 0], .int .i64 8]) (by simp [results, Tryz.results58, go_sem, hR4.cell 0, hR4.cell 1]) rfl ?_
                    exact ⟨_, by rw [HCC.out], by rw [HZZ.out]; exact IntRep.zero _, (hk.set (Nat.le_refl _) _).set (Nat.le_refl _) _⟩
                  · have e1 : decide ((d[k].toNat : Int) < 48) = false := decide_eq_false (by omega)
                    have e2 : decide ((57 : Int) < d[k].toNat) = true := decide_eq_true (by omega)
                    have e3 : ¬ (d[k].toNat : Int) < 48 := by omega
                    have e4 : (57 : Int) < d[k].toNat := by omega
                    clear hnd hub
                    go_wp2
                    have hR4 := hR.two (.bool false) (.slice none 0 0)
                    refine bodyPost_ret (v := .tuple #[.agg #[.bool false, .slice none 0 0], .int .i64 8]) (by simp [results, Tryz.results58, go_sem, hR4.cell 0, hR4.cell 1]) rfl ?_
                    exact ⟨_, by rw [HCC.out], by rw [HZZ.out]; exact IntRep.zero _, (hk.set (Nat.le_refl _) _).set (Nat.le_refl _) _⟩
              · obtain rfl : k = d.size := by omega
                have hal : d.data.toList.all isDg = true := by have := HALL.out; rwa [List.take_of_length_le (by simp)] at this
                by_cases hbig : 2000 < d.size
                ·
                  have e1 : decide ((2000 : Int) < d.size) = true := decide_eq_true (by omega)
                  have e2 : (2000 : Int) < d.size := by omega
                  have hc : parseC l = 9 := by
                    unfold parseC
                    rw [if_neg (by have := HLEN.out; omega), if_neg (by rw [HBH.out]; decide), if_neg (by rw [HB.out, hal]; decide), if_pos (by rw [HB.out]; simpa using hbig)]
                  have HCC := Lib.hid hc
                  have HZZ := Lib.hid (parseZ_err hc (by decide))
                  clear hc hal hown
                  go_wp2
                  have hR4 := hR.two (.bool false) (.slice none 0 0)
                  refine bodyPost_ret (v := .tuple #[.agg #[.bool false, .slice none 0 0], .int .i64 9]) (by simp [results, Tryz.results58, go_sem, hR4.cell 0, hR4.cell 1]) rfl ?_
                  exact ⟨_, by rw [HCC.out], by rw [HZZ.out]; exact IntRep.zero _, (hk.set (Nat.le_refl _) _).set (Nat.le_refl _) _⟩
                · have e1 : decide ((2000 : Int) < d.size) = false := decide_eq_false (by omega)
                  have e2 : ¬ (2000 : Int) < d.size := by omega
                  have hc : parseC l = 0 := by
                    unfold parseC
                    rw [if_neg (by have := HLEN.out; omega), if_neg (by rw [HBH.out]; decide), if_neg (by rw [HB.out, hal]; decide), if_neg (by rw [HB.out]; simpa using hbig)]
                  have hz : parseZ l = sgn false (valD d.data.toList) := by
                    unfold parseZ
                    rw [if_pos hc, HN.out, HB.out]
                    rfl
                  have HCC := Lib.hid hc
                  have HZZ := Lib.hid hz
                  have HAL := Lib.hid hal
                  clear hc hz hal
                  go_wp2
                  go_loopw [5, 7] (fun g e wr => ∃ (k : Nat) (out : List Nat) (E : Int), out.length = k ∧ 9 * k ≤ d.size + 8 ∧ e = .int .i64 E ∧ E = (d.size : Int) - 9 * (k : Nat) ∧ AllB out ∧ val out = valD (d.data.toList.drop (d.size - 9 * k)) ∧
                      wr.ownsRow (w.heap.size + 1) 51 1 g out.length (u32s out) ∧ Own wr w.heap.size 27 [.bool false, .slice none 0 0] ∧ Keeps w wr) (fun _ e _ => (intOf e).toNat)
                  case atStart => exact ⟨0, [], (d.size : Int), rfl, by omega, rfl, by omega, AllB.nil, by rw [Nat.mul_zero, Nat.sub_zero, List.drop_of_length_le (by simp)]; rfl, hown, hR, hk⟩
                  case round =>
                    clear hown hR hk r0 r1 f0 f1
                    obtain ⟨k, out, E, hol, hkd, rfl, hE, hob, hval, hown, hR, hk⟩ := hrel
                    have HOL := Lib.hid hol
                    have HVAL := Lib.hid hval
                    have hkI : (k : Int) ≤ 300 := by omega
                    have hdI2 : (d.size : Int) ≤ 2000 := by omega
                    clear hol hval
                    by_cases hgo : 9 * k < d.size
                    · by_cases hfull : 9 * k + 9 ≤ d.size
                      · obtain ⟨lo, hlo⟩ : ∃ lo, d.size = 9 * k + 9 + lo := ⟨d.size - (9 * k + 9), by omega⟩
                        obtain rfl : E = (lo : Int) + 9 := by omega
                        have hloI : (lo : Int) ≤ 2000 := by omega
                        have HLO := Lib.hid hlo
                        clear hE hlo hfull hgo
                        go_wp2
                        go_loop [9, 10] (fun gv i => ∃ j : Nat, lo ≤ j ∧ j ≤ (lo + 9) ∧ i = .int .i64 (j : Nat) ∧ gv = .int .u32 (valD ((d.data.toList.drop lo).take (j - lo)) : Nat)) (fun _ i => (lo + 9) - (intOf i).toNat)
                        case atStart => exact ⟨lo, Nat.le_refl _, by omega, rfl, by rw [Nat.sub_self, List.take_zero]; rfl⟩
                        case round =>
                          obtain ⟨j, hj1, hj2, rfl, rfl⟩ := hrel
                          have hjI : (j : Int) ≤ 3000 := by omega
                          by_cases hlt : j < (lo + 9)
                          · have hjd : j < d.size := by have := HLO.out; omega
                            have hdg : isDg d[j] = true := (List.all_eq_true.1 HAL.out) _ (List.mem_of_getElem? (i := j) (by simp [hjd]; rfl))
                            have h12 := isDg_le hdg
                            have hst := take_next d.data.toList lo j hj1 (by simpa using hjd)
                            have hvs := valD_snoc ((d.data.toList.drop lo).take (j - lo)) (d.data.toList[j]'(by simpa using hjd))
                            rw [← hst] at hvs
                            have hvl := part_lt d.data.toList HAL.out lo (j - lo) 8 (by omega)
                            have HVS := Lib.hid hvs
                            clear hvs hst hdg
                            generalize valD ((d.data.toList.drop lo).take (j - lo)) = v at *
                            have vI : (v : Int) ≤ 99999999 := by omega
                            have c1 : (48 : Int) ≤ d[j].toNat := by omega
                            have c2 : (d[j].toNat : Int) ≤ 57 := by omega
                            clear hvl h12
                            go_wp2
                            go_round
                            case rel => exact ⟨j + 1, by omega, by omega, by go_num, by rw [HVS.out, show d.data.toList[j] = d[j] from rfl]; congr 1; omega⟩
                            case measure => simp [intOf]; omega
                          · obtain rfl : (lo + 9) = j := by omega
                            have hn := part_lt d.data.toList HAL.out lo ((lo + 9) - lo) 9 (by omega)
                            have hgs := group_step d.data.toList k lo (lo + 9) (by omega) (by have := HLO.out; simp; omega)
                            have HGS := Lib.hid hgs
                            have HN9 := Lib.hid hn
                            have hol3 : out.length ≤ 300 := by have := HOL.out; omega
                            have hnI : (valD ((d.data.toList.drop lo).take ((lo + 9) - lo)) : Int) < 1000000000 := by omega
                            clear hgs hn
                            obtain ⟨n, hnn⟩ : ∃ n, valD ((d.data.toList.drop lo).take ((lo + 9) - lo)) = n := ⟨_, rfl⟩
                            rw [hnn] at hnI ⊢
                            have HNN := Lib.hid hnn
                            clear hnn
                            go_wp2_with (at_builtin; refine wpList_append_own _ rfl _ _ 25 rfl (w.heap.size + 1) 51 i0 (.int .u32 0) 1 4 Tryz.underlying25 hi hz0 hz1 hz2 rfl (by decide) _ _ _ rfl (hown.alloc _) ⟨wr.heap.size, 0, none⟩ 1 1 [.int .u32 (n : Nat)] rfl rfl (newcell _ _ _) (by simp [Value.oneCell']) (by simp only [maxLen]; omega) (by omega) (by have := hR.lt; simp; omega) ?_; intro v' w1 hown' hgrow _)
                            rw [u32s_snoc out n rfl] at hown'
                            have hk2 : Keeps w w1 := (hk.alloc hk.size _).grown hgrow (by have := hk.size; simp; omega) (fun b e => by have := (hown.lt b e).1; omega)
                            have hR3 := (hR.alloc _).grown hgrow (fun e => by have := (hown.lt _ e.symm).1; omega)
                            go_roundw
                            case rel => exact ⟨k + 1, out ++ [n], (lo : Int), by rw [List.length_append, HOL.out]; rfl, by have := HLO.out; omega, by first | rfl | go_num, by have := HLO.out; omega, hob.append (AllB.single (by omega)),
                              by rw [val_snoc, HOL.out, HVAL.out, show d.size - 9 * k = (lo + 9) by have := HLO.out; omega, show d.size - 9 * (k + 1) = lo by have := HLO.out; omega, HGS.out, HNN.out], by simpa using hown', hR3, hk2⟩
                            case measure => simp [intOf]; omega
                      · obtain ⟨h9, hh9⟩ : ∃ h9, d.size = 9 * k + h9 := ⟨d.size - 9 * k, by omega⟩
                        obtain rfl : E = (h9 : Int) := by omega
                        have h9I : (h9 : Int) ≤ 8 := by omega
                        have h9p : (0 : Int) < (h9 : Int) := by omega
                        have hneg9 : (h9 : Int) - 9 < 0 := by omega
                        have e3 : decide ((h9 : Int) - 9 < 0) = true := decide_eq_true hneg9
                        have HLO := Lib.hid hh9
                        clear hE hh9 hfull hgo
                        go_wp2
                        go_loop [9, 10] (fun gv i => ∃ j : Nat, 0 ≤ j ∧ j ≤ h9 ∧ i = .int .i64 (j : Nat) ∧ gv = .int .u32 (valD ((d.data.toList.drop 0).take (j - 0)) : Nat)) (fun _ i => h9 - (intOf i).toNat)
                        case atStart => exact ⟨0, Nat.le_refl _, by omega, rfl, by rw [Nat.sub_self, List.take_zero]; rfl⟩
                        case round =>
                          obtain ⟨j, hj1, hj2, rfl, rfl⟩ := hrel
                          have hjI : (j : Int) ≤ 3000 := by omega
                          by_cases hlt : j < h9
                          · have hjd : j < d.size := by have := HLO.out; omega
                            have hdg : isDg d[j] = true := (List.all_eq_true.1 HAL.out) _ (List.mem_of_getElem? (i := j) (by simp [hjd]; rfl))
                            have h12 := isDg_le hdg
                            have hst := take_next d.data.toList 0 j hj1 (by simpa using hjd)
                            have hvs := valD_snoc ((d.data.toList.drop 0).take (j - 0)) (d.data.toList[j]'(by simpa using hjd))
                            rw [← hst] at hvs
                            have hvl := part_lt d.data.toList HAL.out 0 (j - 0) 8 (by omega)
                            have HVS := Lib.hid hvs
                            clear hvs hst hdg
                            generalize valD ((d.data.toList.drop 0).take (j - 0)) = v at *
                            have vI : (v : Int) ≤ 99999999 := by omega
                            have c1 : (48 : Int) ≤ d[j].toNat := by omega
                            have c2 : (d[j].toNat : Int) ≤ 57 := by omega
                            clear hvl h12
                            go_wp2
                            go_round
                            case rel => exact ⟨j + 1, by omega, by omega, by go_num, by rw [HVS.out, show d.data.toList[j] = d[j] from rfl]; congr 1; omega⟩
                            case measure => simp [intOf]; omega
                          · obtain rfl : h9 = j := by omega
                            have hn := part_lt d.data.toList HAL.out 0 (h9 - 0) 9 (by omega)
                            have hgs := group_step d.data.toList k 0 h9 (by omega) (by have := HLO.out; simp; omega)
                            have HGS := Lib.hid hgs
                            have HN9 := Lib.hid hn
                            have hol3 : out.length ≤ 300 := by have := HOL.out; omega
                            have hnI : (valD ((d.data.toList.drop 0).take (h9 - 0)) : Int) < 1000000000 := by omega
                            clear hgs hn
                            obtain ⟨n, hnn⟩ : ∃ n, valD ((d.data.toList.drop 0).take (h9 - 0)) = n := ⟨_, rfl⟩
                            rw [hnn] at hnI ⊢
                            have HNN := Lib.hid hnn
                            clear hnn
                            go_wp2_with (at_builtin; refine wpList_append_own _ rfl _ _ 25 rfl (w.heap.size + 1) 51 i0 (.int .u32 0) 1 4 Tryz.underlying25 hi hz0 hz1 hz2 rfl (by decide) _ _ _ rfl (hown.alloc _) ⟨wr.heap.size, 0, none⟩ 1 1 [.int .u32 (n : Nat)] rfl rfl (newcell _ _ _) (by simp [Value.oneCell']) (by simp only [maxLen]; omega) (by omega) (by have := hR.lt; simp; omega) ?_; intro v' w1 hown' hgrow _)
                            rw [u32s_snoc out n rfl] at hown'
                            have hk2 : Keeps w w1 := (hk.alloc hk.size _).grown hgrow (by have := hk.size; simp; omega) (fun b e => by have := (hown.lt b e).1; omega)
                            have hR3 := (hR.alloc _).grown hgrow (fun e => by have := (hown.lt _ e.symm).1; omega)
                            go_roundw
                            case rel => exact ⟨k + 1, out ++ [n], ((h9 : Int) - 9), by rw [List.length_append, HOL.out]; rfl, by have := HLO.out; omega, by first | rfl | go_num, by have := HLO.out; omega, hob.append (AllB.single (by omega)),
                              by rw [val_snoc, HOL.out, HVAL.out, show d.size - 9 * k = h9 by have := HLO.out; omega, show d.size - 9 * (k + 1) = 0 by have := HLO.out; omega, HGS.out, HNN.out], by simpa using hown', hR3, hk2⟩
                            case measure => simp [intOf]; omega
                    · have q1 : ¬ (0 : Int) < E := by omega
                      have q2 : decide ((0 : Int) < E) = false := decide_eq_false q1
                      have hv2 : val out = valD d.data.toList := by rw [HVAL.out, show d.size - 9 * k = 0 by omega, List.drop_zero]
                      have HV2 := Lib.hid hv2
                      have hu := U32.of_own hown
                      clear hE hgo hv2
                      go_wp2_with fail
                      refine (rmade_u false _ out _ hu hob (by rw [HOL.out]; omega)).mono ?_
                      rintro e w5 ⟨V5, rfl, hr5, hk5⟩
                      obtain ⟨A5, n5, c5, rfl, -⟩ := hr5.open_
                      have hR5 := hR.below hk5
                      have r0 := hR5.c0
                      have r1 := hR5.c1
                      have f0 := hR5.frozen 0
                      have f1 := hR5.frozen 1
                      rw [HV2.out] at hr5 ⊢
                      generalize decide (sgn false (valD d.data.toList) < 0) = b5 at *
                      go_wp2
                      have hR4 := hR5.two (.bool b5) (.slice A5 n5 c5)
                      refine bodyPost_ret (v := .tuple #[.agg #[.bool b5, .slice A5 n5 c5], .int .i64 0]) (by simp [results, Tryz.results58, go_sem, hR4.cell 0, hR4.cell 1]) rfl ?_
                      exact ⟨_, by rw [HCC.out], by rw [HZZ.out]; exact hr5.two hR5 rfl rfl rfl, ((hk.trans' hk5).set (Nat.le_refl _) _).set (Nat.le_refl _) _⟩
end Go.Proofs.YtomjnjpehokjbaaGreatDoor

namespace Go.Proofs.YtomjnjpehokjbaaGreatDoor
open Go.RowKit Go.Shelf


theorem owns_kept {w w' : World} {base : Nat} {t : TypeId} {x : Value} {L : Nat} {xs : List Value} (h : w.ownsRow base t 1 x L xs) (hb : Keeps w w') : w'.ownsRow base t 1 x L xs := by
  refine ⟨h.1, ?_⟩
  rcases h.2 with hn | ⟨g, cap, cur, rfl, hbg, hg, rest⟩
  · exact .inl hn
  · exact .inr ⟨g, cap, cur, rfl, hbg, (hb.block g (Array.getElem?_eq_some_iff.1 hg).1).trans hg, rest⟩
set_option maxRecDepth 100000 in
set_option maxHeartbeats 8000000 in
theorem parse_any (s : ByteArray) (w : World) (hs : s.size ≤ 9223372036854775807) :
    Calls Tryz.prog 55 #[.string s] w fun e w' => ∃ Q, e = .returned (.tuple #[Q, .int .i64 (parseC s.data.toList)]) ∧ IntRep w' Q (parseZ s.data.toList) ∧ Keeps w w' := by
  obtain ⟨i0, hi, hz0, hz1, hz2⟩ := info_parts info_u32
  have hR := Own.new w 27 [.bool false, .slice none 0 0]
  have hk := box2 w (.cells #[.bool false, .slice none 0 0] 27)
  have r0 := hR.c0
  have r1 := hR.c1
  have f0 := hR.frozen 0
  have f1 := hR.frozen 1
  have hlen : s.data.toList.length = s.size := by simp
  obtain ⟨l, hl⟩ : ∃ l, s.data.toList = l := ⟨_, rfl⟩
  rw [hl] at hlen ⊢
  have HL := Lib.hid hl
  have HLEN := Lib.hid hlen
  by_cases hlong : 2001 < s.size
  · have hd : decide ((2001 : Int) < s.size) = true := decide_eq_true (by omega)
    have hc : parseC l = 9 := if_pos (by omega)
    have HCC := Lib.hid hc
    have HZZ := Lib.hid (parseZ_err hc (by decide))
    clear hc hl hlen
    go_enter Tryz.func55, Tryz.ntmps55
    go_wp2
    refine bodyPost_ret (v := .tuple #[.agg #[.bool false, .slice none 0 0], .int .i64 9]) (by simp [results, Tryz.results55, go_sem]) rfl ?_
    exact ⟨_, by rw [HCC.out], by rw [HZZ.out]; exact IntRep.zero _, hk⟩
  · have hd : decide ((2001 : Int) < s.size) = false := decide_eq_false (by omega)
    clear hl hlen
    have hsI : (s.size : Int) ≤ 2001 := by omega
    by_cases h0 : s.size = 0
    · have hl0 : l = [] := by rw [← HL.out]; exact List.eq_nil_of_length_eq_zero (by simpa using h0)
      have hc : parseC l = 8 := by rw [hl0]; rfl
      have HCC := Lib.hid hc
      have HZZ := Lib.hid (parseZ_err hc (by decide))
      have tz1 : s.toList.isEmpty = true := empty_yes s h0
      clear hc hl0
      go_enter Tryz.func55, Tryz.ntmps55
      go_wp2
      refine bodyPost_ret (v := .tuple #[.agg #[.bool false, .slice none 0 0], .int .i64 8]) (by simp [results, Tryz.results55, go_sem]) rfl ?_
      exact ⟨_, by rw [HCC.out], by rw [HZZ.out]; exact IntRep.zero _, hk⟩
    · have hpos : 0 < s.size := by omega
      have hposI : (0 : Int) < s.size := by omega
      have hh : l.head? = some s[0] := by rw [← HL.out]; rw [List.head?_eq_getElem?]; simp [hpos]; rfl
      have HH := Lib.hid hh
      clear hh
      by_cases hneg : s[0].toNat = 45
      · have hb : ((s[0].toNat : Int) == 45) = true := by rw [hneg]; rfl
        have h45 : s[0] = 45 := UInt8.toNat_inj.1 (by rw [hneg]; rfl)
        have HN := Lib.hid (show negOf l = true by unfold negOf; rw [HH.out, h45]; rfl)
        have hbo : bodyOf l = (s.extract 1 s.size).data.toList := by
          unfold bodyOf
          rw [HH.out, h45, if_pos rfl, ← HL.out]
          simp
          exact (List.take_of_length_le (by simp)).symm
        have hsz : (s.extract 1 s.size).size = s.size - 1 := by simp
        have HB := Lib.hid hbo
        have HSZ := Lib.hid hsz
        clear hneg h45 hbo hsz
        go_enter Tryz.func55, Tryz.ntmps55
        go_upto_region 7 with fail
        generalize s.extract 1 s.size = d at *
        have hdI : (d.size : Int) ≤ 2000 := by have := HSZ.out; omega
        by_cases hd0 : d.size = 0
        ·
          have tz1 : d.toList.isEmpty = true := empty_yes d hd0
          have hbad : badHead l = true := by
            unfold badHead
            rw [HB.out, show d.data.toList = [] from List.eq_nil_of_length_eq_zero (by simpa using hd0)]; rfl
          have hc : parseC l = 8 := by
            unfold parseC
            rw [if_neg (by have := HLEN.out; omega), if_pos hbad]
          have HCC := Lib.hid hc
          have HZZ := Lib.hid (parseZ_err hc (by decide))
          clear hc hbad
          go_wp2
          refine bodyPost_ret (v := .tuple #[.agg #[.bool false, .slice none 0 0], .int .i64 8]) (by simp [results, Tryz.results55, go_sem]) rfl ?_
          exact ⟨_, by rw [HCC.out], by rw [HZZ.out]; exact IntRep.zero _, hk⟩
        · have tz1 : d.toList.isEmpty = false := empty_no d (by omega)
          have hdp : 0 < d.size := by omega
          have hdpI : (0 : Int) < d.size := by omega
          have hhd : (bodyOf l).head? = some d[0] := by rw [HB.out, List.head?_eq_getElem?]; simp [hdp]; rfl
          have HHD := Lib.hid hhd
          clear hhd hd0
          by_cases h48 : d[0].toNat = 48
          · have tz2 : ((d[0].toNat : Int) == 48) = true := by rw [h48]; rfl
            have hbad : badHead l = true := by
              unfold badHead
              rw [HN.out, HHD.out, show d[0] = 48 from UInt8.toNat_inj.1 (by rw [h48]; rfl)]
              simp
            by_cases h1 : 1 < d.size
            · have e1 : decide ((1 : Int) < d.size) = true := decide_eq_true (by omega)
              have hc : parseC l = 8 := by
                unfold parseC
                rw [if_neg (by have := HLEN.out; omega), if_pos hbad]
              have HCC := Lib.hid hc
              have HZZ := Lib.hid (parseZ_err hc (by decide))
              clear hc hbad
              go_wp2
              refine bodyPost_ret (v := .tuple #[.agg #[.bool false, .slice none 0 0], .int .i64 8]) (by simp [results, Tryz.results55, go_sem]) rfl ?_
              exact ⟨_, by rw [HCC.out], by rw [HZZ.out]; exact IntRep.zero _, hk⟩
            · have e1 : decide ((1 : Int) < d.size) = false := decide_eq_false (by omega)
              have hc : parseC l = 8 := by
                unfold parseC
                rw [if_neg (by have := HLEN.out; omega), if_pos hbad]
              have HCC := Lib.hid hc
              have HZZ := Lib.hid (parseZ_err hc (by decide))
              clear hc hbad
              go_wp2
              refine bodyPost_ret (v := .tuple #[.agg #[.bool false, .slice none 0 0], .int .i64 8]) (by simp [results, Tryz.results55, go_sem]) rfl ?_
              exact ⟨_, by rw [HCC.out], by rw [HZZ.out]; exact IntRep.zero _, hk⟩
          · have tz2 : ((d[0].toNat : Int) == 48) = false := by rw [beq_eq_false_iff_ne]; omega
            have hgood : badHead l = false := by
              unfold badHead
              rw [HHD.out, HB.out, show decide (some d[0] = some (48 : UInt8)) = false from decide_eq_false (fun e => h48 (by rw [Option.some.inj e]; rfl))]
              simp
              intro e
              have h0 : d.size = 0 := by show d.data.size = 0; rw [e]; rfl
              omega
            clear h48
            have HBH := Lib.hid hgood
            clear hgood
            go_wp2
            have hk1 := hk
            have hR1 := hR
            clear r0 r1 f0 f1 hR hk
            generalize (w.alloc (.cells #[.bool false, .slice none 0 0] 27)) = W at *
            have hR := hR1
            have hk := hk1
            clear hR1 hk1
            have r0 := hR.c0
            have r1 := hR.c1
            have f0 := hR.frozen 0
            have f1 := hR.frozen 1
            go_loop [45] (fun i => ∃ k : Nat, k ≤ d.size ∧ i = .int .i64 (k : Nat) ∧ (d.data.toList.take k).all isDg = true) (fun i => d.size - (intOf i).toNat)
            case atStart => exact ⟨0, Nat.zero_le _, rfl, rfl⟩
            case round =>
              obtain ⟨k, hkd, rfl, hall⟩ := hrel
              have HALL := Lib.hid hall
              clear hall
              by_cases hlt : k < d.size
              · have hst : d.data.toList.take (k + 1) = d.data.toList.take k ++ [d[k]] := by
                  rw [List.take_succ_eq_append_getElem (by simpa using hlt)]; rfl
                have HST := Lib.hid hst
                have hub : d[k].toNat < 256 := d[k].toNat_lt
                clear hst
                by_cases hdg : isDg d[k] = true
                · have h1 := isDg_le hdg
                  have HDG := Lib.hid hdg
                  have e1 : decide ((d[k].toNat : Int) < 48) = false := decide_eq_false (by omega)
                  have e2 : decide ((57 : Int) < d[k].toNat) = false := decide_eq_false (by omega)
                  have e3 : ¬ (d[k].toNat : Int) < 48 := by omega
                  have e4 : ¬ (57 : Int) < d[k].toNat := by omega
                  clear h1 hdg hub
                  go_wp2
                  go_round
                  case rel => exact ⟨k + 1, by omega, by go_num, by rw [HST.out, List.all_append, HALL.out]; simpa using HDG.out⟩
                  case measure => simp [intOf]; omega
                · have hc : parseC l = 8 := by
                    unfold parseC
                    rw [if_neg (by have := HLEN.out; omega), if_neg (by rw [HBH.out]; decide), if_pos]
                    rw [HB.out, List.all_eq_false]
                    exact ⟨d[k], List.mem_of_getElem? (i := k) (by simp [hlt]; rfl), hdg⟩
                  have HCC := Lib.hid hc
                  have HZZ := Lib.hid (parseZ_err hc (by decide))
                  have hnd : d[k].toNat < 48 ∨ 57 < d[k].toNat := by unfold isDg at hdg; simp at hdg; omega
                  clear hc hdg
                  by_cases hlo : d[k].toNat < 48
                  · have e1 : decide ((d[k].toNat : Int) < 48) = true := decide_eq_true (by omega)
                    have e3 : (d[k].toNat : Int) < 48 := by omega
                    clear hnd hub
                    go_wp2
                    have hR4 := hR.two (.bool false) (.slice none 0 0)
                    refine bodyPost_ret (v := .tuple #[.agg #[.bool false, .slice none 0 0], .int .i64 8]) (by simp [results, Tryz.results55, go_sem, hR4.cell 0, hR4.cell 1]) rfl ?_
                    exact ⟨_, by rw [HCC.out], by rw [HZZ.out]; exact IntRep.zero _, (hk.set (Nat.le_refl _) _).set (Nat.le_refl _) _⟩
                  · have e1 : decide ((d[k].toNat : Int) < 48) = false := decide_eq_false (by omega)
                    have e2 : decide ((57 : Int) < d[k].toNat) = true := decide_eq_true (by omega)
                    have e3 : ¬ (d[k].toNat : Int) < 48 := by omega
                    have e4 : (57 : Int) < d[k].toNat := by omega
                    clear hnd hub
                    go_wp2
                    have hR4 := hR.two (.bool false) (.slice none 0 0)
                    refine bodyPost_ret (v := .tuple #[.agg #[.bool false, .slice none 0 0], .int .i64 8]) (by simp [results, Tryz.results55, go_sem, hR4.cell 0, hR4.cell 1]) rfl ?_
                    exact ⟨_, by rw [HCC.out], by rw [HZZ.out]; exact IntRep.zero _, (hk.set (Nat.le_refl _) _).set (Nat.le_refl _) _⟩
              · obtain rfl : k = d.size := by omega
                have hal : d.data.toList.all isDg = true := by have := HALL.out; rwa [List.take_of_length_le (by simp)] at this
                by_cases hbig : 2000 < d.size
                ·
                  exact absurd hbig (by omega)
                · have e1 : decide ((2000 : Int) < d.size) = false := decide_eq_false (by omega)
                  have e2 : ¬ (2000 : Int) < d.size := by omega
                  have hc : parseC l = 0 := by
                    unfold parseC
                    rw [if_neg (by have := HLEN.out; omega), if_neg (by rw [HBH.out]; decide), if_neg (by rw [HB.out, hal]; decide), if_neg (by rw [HB.out]; simpa using hbig)]
                  have hz : parseZ l = sgn true (valD d.data.toList) := by
                    unfold parseZ
                    rw [if_pos hc, HN.out, HB.out]
                    rfl
                  have HCC := Lib.hid hc
                  have HZZ := Lib.hid hz
                  have HAL := Lib.hid hal
                  clear hc hz hal
                  go_wp2
                  try clear h1z
                  try clear e1z
      
                  go_loopw [7, 8] (fun g e wr => ∃ (k : Nat) (out : List Nat) (E : Int), out.length = k ∧ 9 * k ≤ d.size + 8 ∧ e = .int .i64 E ∧ E = (d.size : Int) - 9 * (k : Nat) ∧ AllB out ∧ val out = valD (d.data.toList.drop (d.size - 9 * k)) ∧
                      wr.ownsRow (w.heap.size + 1) 51 1 g out.length (u32s out) ∧ Own wr w.heap.size 27 [.bool false, .slice none 0 0] ∧ Keeps w wr) (fun _ e _ => (intOf e).toNat)
                  case atStart => exact ⟨0, [], (d.size : Int), rfl, by omega, rfl, by omega, AllB.nil, by rw [Nat.mul_zero, Nat.sub_zero, List.drop_of_length_le (by simp)]; rfl, ⟨rfl, .inl ⟨rfl, rfl⟩⟩, hR, hk⟩
                  case round =>
                    clear hR hk r0 r1 f0 f1
                    obtain ⟨k, out, E, hol, hkd, rfl, hE, hob, hval, hown, hR, hk⟩ := hrel
                    have HOL := Lib.hid hol
                    have HVAL := Lib.hid hval
                    have hkI : (k : Int) ≤ 300 := by omega
                    have hdI2 : (d.size : Int) ≤ 2000 := by omega
                    clear hol hval
                    by_cases hgo : 9 * k < d.size
                    · by_cases hfull : 9 * k + 9 ≤ d.size
                      · obtain ⟨lo, hlo⟩ : ∃ lo, d.size = 9 * k + 9 + lo := ⟨d.size - (9 * k + 9), by omega⟩
                        obtain rfl : E = (lo : Int) + 9 := by omega
                        have hloI : (lo : Int) ≤ 2000 := by omega
                        have hle : (lo : Int) + 9 ≤ d.size := by omega
                        have HLO := Lib.hid hlo
                        clear hE hlo hfull hgo
                        have hx1 : (d.extract lo (lo + 9)).size = (lo + 9) - lo := by rw [ByteArray.size_extract]; have := HLO.out; omega
                        have hx2 : (d.extract lo (lo + 9)).data.toList = (d.data.toList.drop lo).take ((lo + 9) - lo) := by
                          rw [ByteArray.data_extract, Array.toList_extract, List.extract_eq_take_drop]
                        have hdgs := all_part d.data.toList HAL.out lo ((lo + 9) - lo)
                        have hne : (d.data.toList.drop lo).take ((lo + 9) - lo) ≠ [] := by
                          intro e
                          have := congrArg List.length e
                          rw [List.length_take, List.length_drop, List.length_nil, Array.length_toList] at this
                          have h2 : d.data.size = _ := HLO.out
                          omega
                        have hat := atoi_all _ hdgs hne
                        rw [← hx2] at hat
                        have hn := part_lt d.data.toList HAL.out lo ((lo + 9) - lo) 9 (by omega)
                        have hgs := group_step d.data.toList k lo (lo + 9) (by omega) (by have := HLO.out; simp; omega)
                        have HGS := Lib.hid hgs
                        have hol3 : out.length ≤ 300 := by have := HOL.out; omega
                        have hnI : (valD ((d.data.toList.drop lo).take ((lo + 9) - lo)) : Int) ≤ 999999999 := by omega
                        have hs18 : (d.extract lo (lo + 9)).size ≤ 18 := by rw [hx1]; omega
                        rw [hx2] at hat
                        clear hgs hn hdgs hne
                        obtain ⟨n, hnn⟩ : ∃ n, valD ((d.data.toList.drop lo).take ((lo + 9) - lo)) = n := ⟨_, rfl⟩
                        rw [hnn] at hnI hat
                        rw [← hx2] at hat
                        have HNN := Lib.hid hnn
                        have HA := Lib.hid (Tryz.strconv_Atoi (d.extract lo (lo + 9)) (n : Nat) hs18 hat)
                        clear hnn hat hx1 hx2 hs18
                        go_wp2_with fail
                        refine (HA.out _).mono ?_
                        rintro e w1 ⟨rfl, t, hw1⟩
                        have hkA : Keeps wr w1 := by rw [hw1]; exact Lib.bytesWorld_below _ _ _
                        clear hw1 HA
                        replace hown := owns_kept hown hkA
                        replace hR := hR.below hkA
                        replace hk := hk.trans' hkA
                        clear hkA
                        go_wp2_with (at_builtin; refine wpList_append_own _ rfl _ _ 25 rfl (w.heap.size + 1) 51 i0 (.int .u32 0) 1 4 Tryz.underlying25 hi hz0 hz1 hz2 rfl (by decide) _ _ _ rfl (hown.alloc _) ⟨w1.heap.size, 0, none⟩ 1 1 [.int .u32 (n : Nat)] rfl rfl (newcell _ _ _) (by simp [Value.oneCell']) (by simp only [maxLen]; omega) (by omega) (by have := hR.lt; simp; omega) ?_; intro v' w2 hown' hgrow _)
                        rw [u32s_snoc out n rfl] at hown'
                        have hk2 : Keeps w w2 := (hk.alloc hk.size _).grown hgrow (by have := hk.size; simp; omega) (fun b e => by have := (hown.lt b e).1; omega)
                        have hR3 := (hR.alloc _).grown hgrow (fun e => by have := (hown.lt _ e.symm).1; omega)
                        go_roundw
                        case rel => exact ⟨k + 1, out ++ [n], (lo : Int), by rw [List.length_append, HOL.out]; rfl, by have := HLO.out; omega, by first | rfl | go_num, by have := HLO.out; omega, hob.append (AllB.single (by omega)),
                          by rw [val_snoc, HOL.out, HVAL.out, show d.size - 9 * k = (lo + 9) by have := HLO.out; omega, show d.size - 9 * (k + 1) = lo by have := HLO.out; omega, HGS.out, HNN.out], by simpa using hown', hR3, hk2⟩
                        case measure => simp [intOf]; omega
                      · obtain ⟨h9, hh9⟩ : ∃ h9, d.size = 9 * k + h9 := ⟨d.size - 9 * k, by omega⟩
                        obtain rfl : E = (h9 : Int) := by omega
                        have h9I : (h9 : Int) ≤ 8 := by omega
                        have h9p : (0 : Int) < (h9 : Int) := by omega
                        have hle : (h9 : Int) ≤ d.size := by omega
                        have mx : max (0 : Int) ((h9 : Int) - 9) = 0 := by omega
                        have HLO := Lib.hid hh9
                        clear hE hh9 hfull hgo
                        have hx1 : (d.extract 0 h9).size = h9 - 0 := by rw [ByteArray.size_extract]; have := HLO.out; omega
                        have hx2 : (d.extract 0 h9).data.toList = (d.data.toList.drop 0).take (h9 - 0) := by
                          rw [ByteArray.data_extract, Array.toList_extract, List.extract_eq_take_drop]
                        have hdgs := all_part d.data.toList HAL.out 0 (h9 - 0)
                        have hne : (d.data.toList.drop 0).take (h9 - 0) ≠ [] := by
                          intro e
                          have := congrArg List.length e
                          rw [List.length_take, List.length_drop, List.length_nil, Array.length_toList] at this
                          have h2 : d.data.size = _ := HLO.out
                          omega
                        have hat := atoi_all _ hdgs hne
                        rw [← hx2] at hat
                        have hn := part_lt d.data.toList HAL.out 0 (h9 - 0) 9 (by omega)
                        have hgs := group_step d.data.toList k 0 h9 (by omega) (by have := HLO.out; simp; omega)
                        have HGS := Lib.hid hgs
                        have hol3 : out.length ≤ 300 := by have := HOL.out; omega
                        have hnI : (valD ((d.data.toList.drop 0).take (h9 - 0)) : Int) ≤ 999999999 := by omega
                        have hs18 : (d.extract 0 h9).size ≤ 18 := by rw [hx1]; omega
                        rw [hx2] at hat
                        clear hgs hn hdgs hne
                        obtain ⟨n, hnn⟩ : ∃ n, valD ((d.data.toList.drop 0).take (h9 - 0)) = n := ⟨_, rfl⟩
                        rw [hnn] at hnI hat
                        rw [← hx2] at hat
                        have HNN := Lib.hid hnn
                        have HA := Lib.hid (Tryz.strconv_Atoi (d.extract 0 h9) (n : Nat) hs18 hat)
                        clear hnn hat hx1 hx2 hs18
                        go_wp2_with fail
                        refine (HA.out _).mono ?_
                        rintro e w1 ⟨rfl, t, hw1⟩
                        have hkA : Keeps wr w1 := by rw [hw1]; exact Lib.bytesWorld_below _ _ _
                        clear hw1 HA
                        replace hown := owns_kept hown hkA
                        replace hR := hR.below hkA
                        replace hk := hk.trans' hkA
                        clear hkA
                        go_wp2_with (at_builtin; refine wpList_append_own _ rfl _ _ 25 rfl (w.heap.size + 1) 51 i0 (.int .u32 0) 1 4 Tryz.underlying25 hi hz0 hz1 hz2 rfl (by decide) _ _ _ rfl (hown.alloc _) ⟨w1.heap.size, 0, none⟩ 1 1 [.int .u32 (n : Nat)] rfl rfl (newcell _ _ _) (by simp [Value.oneCell']) (by simp only [maxLen]; omega) (by omega) (by have := hR.lt; simp; omega) ?_; intro v' w2 hown' hgrow _)
                        rw [u32s_snoc out n rfl] at hown'
                        have hk2 : Keeps w w2 := (hk.alloc hk.size _).grown hgrow (by have := hk.size; simp; omega) (fun b e => by have := (hown.lt b e).1; omega)
                        have hR3 := (hR.alloc _).grown hgrow (fun e => by have := (hown.lt _ e.symm).1; omega)
                        go_roundw
                        case rel => exact ⟨k + 1, out ++ [n], ((h9 : Int) - 9), by rw [List.length_append, HOL.out]; rfl, by have := HLO.out; omega, by first | rfl | go_num, by have := HLO.out; omega, hob.append (AllB.single (by omega)),
                          by rw [val_snoc, HOL.out, HVAL.out, show d.size - 9 * k = h9 by have := HLO.out; omega, show d.size - 9 * (k + 1) = 0 by have := HLO.out; omega, HGS.out, HNN.out], by simpa using hown', hR3, hk2⟩
                        case measure => simp [intOf]; omega
                    · have q1 : ¬ (0 : Int) < E := by omega
                      have q2 : decide ((0 : Int) < E) = false := decide_eq_false q1
                      have hv2 : val out = valD d.data.toList := by rw [HVAL.out, show d.size - 9 * k = 0 by omega, List.drop_zero]
                      have HV2 := Lib.hid hv2
                      have hu := U32.of_own hown
                      clear hE hgo hv2
                      go_wp2_with fail
                      refine (made_u true _ out _ hu hob).mono ?_
                      rintro e w5 ⟨V5, rfl, hr5, hk5⟩
                      obtain ⟨A5, n5, c5, rfl, -⟩ := hr5.open_
                      have hR5 := hR.below hk5
                      have r0 := hR5.c0
                      have r1 := hR5.c1
                      have f0 := hR5.frozen 0
                      have f1 := hR5.frozen 1
                      rw [HV2.out] at hr5 ⊢
                      generalize decide (sgn true (valD d.data.toList) < 0) = b5 at *
                      go_wp2
                      have hR4 := hR5.two (.bool b5) (.slice A5 n5 c5)
                      refine bodyPost_ret (v := .tuple #[.agg #[.bool b5, .slice A5 n5 c5], .int .i64 0]) (by simp [results, Tryz.results55, go_sem, hR4.cell 0, hR4.cell 1]) rfl ?_
                      exact ⟨_, by rw [HCC.out], by rw [HZZ.out]; exact hr5.two hR5 rfl rfl rfl, ((hk.trans' hk5).set (Nat.le_refl _) _).set (Nat.le_refl _) _⟩
      · have hb : ((s[0].toNat : Int) == 45) = false := by rw [beq_eq_false_iff_ne]; omega
        have h45 : s[0] ≠ 45 := fun e => hneg (by rw [e]; rfl)
        have HN := Lib.hid (show negOf l = false by unfold negOf; rw [HH.out]; simpa using h45)
        have hbo : bodyOf l = s.data.toList := by
          unfold bodyOf
          rw [HH.out, if_neg (by simpa using h45), ← HL.out]
        have HB := Lib.hid hbo
        clear hneg h45 hbo
        go_enter Tryz.func55, Tryz.ntmps55
        go_upto_region 7 with fail
        obtain ⟨d, rfl⟩ : ∃ d : ByteArray, d = s := ⟨_, rfl⟩
        have hdI : (d.size : Int) ≤ 2001 := hsI
        by_cases hd0 : d.size = 0
        ·
          exact absurd hd0 (by omega)
        · have tz1 : d.toList.isEmpty = false := empty_no d (by omega)
          have hdp : 0 < d.size := by omega
          have hdpI : (0 : Int) < d.size := by omega
          have hhd : (bodyOf l).head? = some d[0] := by rw [HB.out, List.head?_eq_getElem?]; simp [hdp]; rfl
          have HHD := Lib.hid hhd
          clear hhd hd0
          by_cases h48 : d[0].toNat = 48
          · have tz2 : ((d[0].toNat : Int) == 48) = true := by rw [h48]; rfl
            by_cases h1z : 1 < d.size
            · have hbad : badHead l = true := by
                unfold badHead
                rw [HHD.out, show d[0] = 48 from UInt8.toNat_inj.1 (by rw [h48]; rfl), HB.out, show d.data.toList.length = d.size by simp]
                simp [h1z]
              have e1z : decide ((1 : Int) < d.size) = true := decide_eq_true (by omega)
              have hc : parseC l = 8 := by
                unfold parseC
                rw [if_neg (by have := HLEN.out; omega), if_pos hbad]
              have HCC := Lib.hid hc
              have HZZ := Lib.hid (parseZ_err hc (by decide))
              clear hc hbad
              go_wp2
              refine bodyPost_ret (v := .tuple #[.agg #[.bool false, .slice none 0 0], .int .i64 8]) (by simp [results, Tryz.results55, go_sem]) rfl ?_
              exact ⟨_, by rw [HCC.out], by rw [HZZ.out]; exact IntRep.zero _, hk⟩
            · have hgood : badHead l = false := by
                unfold badHead
                rw [HN.out, HB.out, show d.data.toList.length = d.size by simp, decide_eq_false h1z]
                simp
                intro e
                have h0 : d.size = 0 := by show d.data.size = 0; rw [e]; rfl
                omega
              have e1z : decide ((1 : Int) < d.size) = false := decide_eq_false (by omega)
              have HBH := Lib.hid hgood
              clear hgood
              go_wp2
              have hk1 := hk
              have hR1 := hR
              clear r0 r1 f0 f1 hR hk
              generalize (w.alloc (.cells #[.bool false, .slice none 0 0] 27)) = W at *
              have hR := hR1
              have hk := hk1
              clear hR1 hk1
              have r0 := hR.c0
              have r1 := hR.c1
              have f0 := hR.frozen 0
              have f1 := hR.frozen 1
              go_loop [45] (fun i => ∃ k : Nat, k ≤ d.size ∧ i = .int .i64 (k : Nat) ∧ (d.data.toList.take k).all isDg = true) (fun i => d.size - (intOf i).toNat)
              case atStart => exact ⟨0, Nat.zero_le _, rfl, rfl⟩
              case round =>
                obtain ⟨k, hkd, rfl, hall⟩ := hrel
                have HALL := Lib.hid hall
                clear hall
                by_cases hlt : k < d.size
                · have hst : d.data.toList.take (k + 1) = d.data.toList.take k ++ [d[k]] := by
                    rw [List.take_succ_eq_append_getElem (by simpa using hlt)]; rfl
                  have HST := Lib.hid hst
                  have hub : d[k].toNat < 256 := d[k].toNat_lt
                  clear hst
                  by_cases hdg : isDg d[k] = true
                  · have h1 := isDg_le hdg
                    have HDG := Lib.hid hdg
                    have e1 : decide ((d[k].toNat : Int) < 48) = false := decide_eq_false (by omega)
                    have e2 : decide ((57 : Int) < d[k].toNat) = false := decide_eq_false (by omega)
                    have e3 : ¬ (d[k].toNat : Int) < 48 := by omega
                    have e4 : ¬ (57 : Int) < d[k].toNat := by omega
                    clear h1 hdg hub
                    go_wp2
                    go_round
                    case rel => exact ⟨k + 1, by omega, by go_num, by rw [HST.out, List.all_append, HALL.out]; simpa using HDG.out⟩
                    case measure => simp [intOf]; omega
                  · have hc : parseC l = 8 := by
                      unfold parseC
                      rw [if_neg (by have := HLEN.out; omega), if_neg (by rw [HBH.out]; decide), if_pos]
                      rw [HB.out, List.all_eq_false]
                      exact ⟨d[k], List.mem_of_getElem? (i := k) (by simp [hlt]; rfl), hdg⟩
                    have HCC := Lib.hid hc
                    have HZZ := Lib.hid (parseZ_err hc (by decide))
                    have hnd : d[k].toNat < 48 ∨ 57 < d[k].toNat := by unfold isDg at hdg; simp at hdg; omega
                    clear hc hdg
                    by_cases hlo : d[k].toNat < 48
                    · have e1 : decide ((d[k].toNat : Int) < 48) = true := decide_eq_true (by omega)
                      have e3 : (d[k].toNat : Int) < 48 := by omega
                      clear hnd hub
                      go_wp2
                      have hR4 := hR.two (.bool false) (.slice none 0 0)
                      refine bodyPost_ret (v := .tuple #[.agg #[.bool false, .slice none 0 0], .int .i64 8]) (by simp [results, Tryz.results55, go_sem, hR4.cell 0, hR4.cell 1]) rfl ?_
                      exact ⟨_, by rw [HCC.out], by rw [HZZ.out]; exact IntRep.zero _, (hk.set (Nat.le_refl _) _).set (Nat.le_refl _) _⟩
                    · have e1 : decide ((d[k].toNat : Int) < 48) = false := decide_eq_false (by omega)
                      have e2 : decide ((57 : Int) < d[k].toNat) = true := decide_eq_true (by omega)
                      have e3 : ¬ (d[k].toNat : Int) < 48 := by omega
                      have e4 : (57 : Int) < d[k].toNat := by omega
                      clear hnd hub
                      go_wp2
                      have hR4 := hR.two (.bool false) (.slice none 0 0)
                      refine bodyPost_ret (v := .tuple #[.agg #[.bool false, .slice none 0 0], .int .i64 8]) (by simp [results, Tryz.results55, go_sem, hR4.cell 0, hR4.cell 1]) rfl ?_
                      exact ⟨_, by rw [HCC.out], by rw [HZZ.out]; exact IntRep.zero _, (hk.set (Nat.le_refl _) _).set (Nat.le_refl _) _⟩
                · obtain rfl : k = d.size := by omega
                  have hal : d.data.toList.all isDg = true := by have := HALL.out; rwa [List.take_of_length_le (by simp)] at this
                  by_cases hbig : 2000 < d.size
                  ·
                    exact absurd hbig (by omega)
                  · have e1 : decide ((2000 : Int) < d.size) = false := decide_eq_false (by omega)
                    have e2 : ¬ (2000 : Int) < d.size := by omega
                    have hc : parseC l = 0 := by
                      unfold parseC
                      rw [if_neg (by have := HLEN.out; omega), if_neg (by rw [HBH.out]; decide), if_neg (by rw [HB.out, hal]; decide), if_neg (by rw [HB.out]; simpa using hbig)]
                    have hz : parseZ l = sgn false (valD d.data.toList) := by
                      unfold parseZ
                      rw [if_pos hc, HN.out, HB.out]
                      rfl
                    have HCC := Lib.hid hc
                    have HZZ := Lib.hid hz
                    have HAL := Lib.hid hal
                    clear hc hz hal
                    go_wp2
                    try clear h1z
                    try clear e1z
      
                    go_loopw [7, 8] (fun g e wr => ∃ (k : Nat) (out : List Nat) (E : Int), out.length = k ∧ 9 * k ≤ d.size + 8 ∧ e = .int .i64 E ∧ E = (d.size : Int) - 9 * (k : Nat) ∧ AllB out ∧ val out = valD (d.data.toList.drop (d.size - 9 * k)) ∧
                        wr.ownsRow (w.heap.size + 1) 51 1 g out.length (u32s out) ∧ Own wr w.heap.size 27 [.bool false, .slice none 0 0] ∧ Keeps w wr) (fun _ e _ => (intOf e).toNat)
                    case atStart => exact ⟨0, [], (d.size : Int), rfl, by omega, rfl, by omega, AllB.nil, by rw [Nat.mul_zero, Nat.sub_zero, List.drop_of_length_le (by simp)]; rfl, ⟨rfl, .inl ⟨rfl, rfl⟩⟩, hR, hk⟩
                    case round =>
                      clear hR hk r0 r1 f0 f1
                      obtain ⟨k, out, E, hol, hkd, rfl, hE, hob, hval, hown, hR, hk⟩ := hrel
                      have HOL := Lib.hid hol
                      have HVAL := Lib.hid hval
                      have hkI : (k : Int) ≤ 300 := by omega
                      have hdI2 : (d.size : Int) ≤ 2000 := by omega
                      clear hol hval
                      by_cases hgo : 9 * k < d.size
                      · by_cases hfull : 9 * k + 9 ≤ d.size
                        · obtain ⟨lo, hlo⟩ : ∃ lo, d.size = 9 * k + 9 + lo := ⟨d.size - (9 * k + 9), by omega⟩
                          obtain rfl : E = (lo : Int) + 9 := by omega
                          have hloI : (lo : Int) ≤ 2000 := by omega
                          have hle : (lo : Int) + 9 ≤ d.size := by omega
                          have HLO := Lib.hid hlo
                          clear hE hlo hfull hgo
                          have hx1 : (d.extract lo (lo + 9)).size = (lo + 9) - lo := by rw [ByteArray.size_extract]; have := HLO.out; omega
                          have hx2 : (d.extract lo (lo + 9)).data.toList = (d.data.toList.drop lo).take ((lo + 9) - lo) := by
                            rw [ByteArray.data_extract, Array.toList_extract, List.extract_eq_take_drop]
                          have hdgs := all_part d.data.toList HAL.out lo ((lo + 9) - lo)
                          have hne : (d.data.toList.drop lo).take ((lo + 9) - lo) ≠ [] := by
                            intro e
                            have := congrArg List.length e
                            rw [List.length_take, List.length_drop, List.length_nil, Array.length_toList] at this
                            have h2 : d.data.size = _ := HLO.out
                            omega
                          have hat := atoi_all _ hdgs hne
                          rw [← hx2] at hat
                          have hn := part_lt d.data.toList HAL.out lo ((lo + 9) - lo) 9 (by omega)
                          have hgs := group_step d.data.toList k lo (lo + 9) (by omega) (by have := HLO.out; simp; omega)
                          have HGS := Lib.hid hgs
                          have hol3 : out.length ≤ 300 := by have := HOL.out; omega
                          have hnI : (valD ((d.data.toList.drop lo).take ((lo + 9) - lo)) : Int) ≤ 999999999 := by omega
                          have hs18 : (d.extract lo (lo + 9)).size ≤ 18 := by rw [hx1]; omega
                          rw [hx2] at hat
                          clear hgs hn hdgs hne
                          obtain ⟨n, hnn⟩ : ∃ n, valD ((d.data.toList.drop lo).take ((lo + 9) - lo)) = n := ⟨_, rfl⟩
                          rw [hnn] at hnI hat
                          rw [← hx2] at hat
                          have HNN := Lib.hid hnn
                          have HA := Lib.hid (Tryz.strconv_Atoi (d.extract lo (lo + 9)) (n : Nat) hs18 hat)
                          clear hnn hat hx1 hx2 hs18
                          go_wp2_with fail
                          refine (HA.out _).mono ?_
                          rintro e w1 ⟨rfl, t, hw1⟩
                          have hkA : Keeps wr w1 := by rw [hw1]; exact Lib.bytesWorld_below _ _ _
                          clear hw1 HA
                          replace hown := owns_kept hown hkA
                          replace hR := hR.below hkA
                          replace hk := hk.trans' hkA
                          clear hkA
                          go_wp2_with (at_builtin; refine wpList_append_own _ rfl _ _ 25 rfl (w.heap.size + 1) 51 i0 (.int .u32 0) 1 4 Tryz.underlying25 hi hz0 hz1 hz2 rfl (by decide) _ _ _ rfl (hown.alloc _) ⟨w1.heap.size, 0, none⟩ 1 1 [.int .u32 (n : Nat)] rfl rfl (newcell _ _ _) (by simp [Value.oneCell']) (by simp only [maxLen]; omega) (by omega) (by have := hR.lt; simp; omega) ?_; intro v' w2 hown' hgrow _)
                          rw [u32s_snoc out n rfl] at hown'
                          have hk2 : Keeps w w2 := (hk.alloc hk.size _).grown hgrow (by have := hk.size; simp; omega) (fun b e => by have := (hown.lt b e).1; omega)
                          have hR3 := (hR.alloc _).grown hgrow (fun e => by have := (hown.lt _ e.symm).1; omega)
                          go_roundw
                          case rel => exact ⟨k + 1, out ++ [n], (lo : Int), by rw [List.length_append, HOL.out]; rfl, by have := HLO.out; omega, by first | rfl | go_num, by have := HLO.out; omega, hob.append (AllB.single (by omega)),
                            by rw [val_snoc, HOL.out, HVAL.out, show d.size - 9 * k = (lo + 9) by have := HLO.out; omega, show d.size - 9 * (k + 1) = lo by have := HLO.out; omega, HGS.out, HNN.out], by simpa using hown', hR3, hk2⟩
                          case measure => simp [intOf]; omega
                        · obtain ⟨h9, hh9⟩ : ∃ h9, d.size = 9 * k + h9 := ⟨d.size - 9 * k, by omega⟩
                          obtain rfl : E = (h9 : Int) := by omega
                          have h9I : (h9 : Int) ≤ 8 := by omega
                          have h9p : (0 : Int) < (h9 : Int) := by omega
                          have hle : (h9 : Int) ≤ d.size := by omega
                          have mx : max (0 : Int) ((h9 : Int) - 9) = 0 := by omega
                          have HLO := Lib.hid hh9
                          clear hE hh9 hfull hgo
                          have hx1 : (d.extract 0 h9).size = h9 - 0 := by rw [ByteArray.size_extract]; have := HLO.out; omega
                          have hx2 : (d.extract 0 h9).data.toList = (d.data.toList.drop 0).take (h9 - 0) := by
                            rw [ByteArray.data_extract, Array.toList_extract, List.extract_eq_take_drop]
                          have hdgs := all_part d.data.toList HAL.out 0 (h9 - 0)
                          have hne : (d.data.toList.drop 0).take (h9 - 0) ≠ [] := by
                            intro e
                            have := congrArg List.length e
                            rw [List.length_take, List.length_drop, List.length_nil, Array.length_toList] at this
                            have h2 : d.data.size = _ := HLO.out
                            omega
                          have hat := atoi_all _ hdgs hne
                          rw [← hx2] at hat
                          have hn := part_lt d.data.toList HAL.out 0 (h9 - 0) 9 (by omega)
                          have hgs := group_step d.data.toList k 0 h9 (by omega) (by have := HLO.out; simp; omega)
                          have HGS := Lib.hid hgs
                          have hol3 : out.length ≤ 300 := by have := HOL.out; omega
                          have hnI : (valD ((d.data.toList.drop 0).take (h9 - 0)) : Int) ≤ 999999999 := by omega
                          have hs18 : (d.extract 0 h9).size ≤ 18 := by rw [hx1]; omega
                          rw [hx2] at hat
                          clear hgs hn hdgs hne
                          obtain ⟨n, hnn⟩ : ∃ n, valD ((d.data.toList.drop 0).take (h9 - 0)) = n := ⟨_, rfl⟩
                          rw [hnn] at hnI hat
                          rw [← hx2] at hat
                          have HNN := Lib.hid hnn
                          have HA := Lib.hid (Tryz.strconv_Atoi (d.extract 0 h9) (n : Nat) hs18 hat)
                          clear hnn hat hx1 hx2 hs18
                          go_wp2_with fail
                          refine (HA.out _).mono ?_
                          rintro e w1 ⟨rfl, t, hw1⟩
                          have hkA : Keeps wr w1 := by rw [hw1]; exact Lib.bytesWorld_below _ _ _
                          clear hw1 HA
                          replace hown := owns_kept hown hkA
                          replace hR := hR.below hkA
                          replace hk := hk.trans' hkA
                          clear hkA
                          go_wp2_with (at_builtin; refine wpList_append_own _ rfl _ _ 25 rfl (w.heap.size + 1) 51 i0 (.int .u32 0) 1 4 Tryz.underlying25 hi hz0 hz1 hz2 rfl (by decide) _ _ _ rfl (hown.alloc _) ⟨w1.heap.size, 0, none⟩ 1 1 [.int .u32 (n : Nat)] rfl rfl (newcell _ _ _) (by simp [Value.oneCell']) (by simp only [maxLen]; omega) (by omega) (by have := hR.lt; simp; omega) ?_; intro v' w2 hown' hgrow _)
                          rw [u32s_snoc out n rfl] at hown'
                          have hk2 : Keeps w w2 := (hk.alloc hk.size _).grown hgrow (by have := hk.size; simp; omega) (fun b e => by have := (hown.lt b e).1; omega)
                          have hR3 := (hR.alloc _).grown hgrow (fun e => by have := (hown.lt _ e.symm).1; omega)
                          go_roundw
                          case rel => exact ⟨k + 1, out ++ [n], ((h9 : Int) - 9), by rw [List.length_append, HOL.out]; rfl, by have := HLO.out; omega, by first | rfl | go_num, by have := HLO.out; omega, hob.append (AllB.single (by omega)),
                            by rw [val_snoc, HOL.out, HVAL.out, show d.size - 9 * k = h9 by have := HLO.out; omega, show d.size - 9 * (k + 1) = 0 by have := HLO.out; omega, HGS.out, HNN.out], by simpa using hown', hR3, hk2⟩
                          case measure => simp [intOf]; omega
                      · have q1 : ¬ (0 : Int) < E := by omega
                        have q2 : decide ((0 : Int) < E) = false := decide_eq_false q1
                        have hv2 : val out = valD d.data.toList := by rw [HVAL.out, show d.size - 9 * k = 0 by omega, List.drop_zero]
                        have HV2 := Lib.hid hv2
                        have hu := U32.of_own hown
                        clear hE hgo hv2
                        go_wp2_with fail
                        refine (made_u false _ out _ hu hob).mono ?_
                        rintro e w5 ⟨V5, rfl, hr5, hk5⟩
                        obtain ⟨A5, n5, c5, rfl, -⟩ := hr5.open_
                        have hR5 := hR.below hk5
                        have r0 := hR5.c0
                        have r1 := hR5.c1
                        have f0 := hR5.frozen 0
                        have f1 := hR5.frozen 1
                        rw [HV2.out] at hr5 ⊢
                        generalize decide (sgn false (valD d.data.toList) < 0) = b5 at *
                        go_wp2
                        have hR4 := hR5.two (.bool b5) (.slice A5 n5 c5)
                        refine bodyPost_ret (v := .tuple #[.agg #[.bool b5, .slice A5 n5 c5], .int .i64 0]) (by simp [results, Tryz.results55, go_sem, hR4.cell 0, hR4.cell 1]) rfl ?_
                        exact ⟨_, by rw [HCC.out], by rw [HZZ.out]; exact hr5.two hR5 rfl rfl rfl, ((hk.trans' hk5).set (Nat.le_refl _) _).set (Nat.le_refl _) _⟩
          · have tz2 : ((d[0].toNat : Int) == 48) = false := by rw [beq_eq_false_iff_ne]; omega
            have hgood : badHead l = false := by
              unfold badHead
              rw [HHD.out, HB.out, show decide (some d[0] = some (48 : UInt8)) = false from decide_eq_false (fun e => h48 (by rw [Option.some.inj e]; rfl))]
              simp
              intro e
              have h0 : d.size = 0 := by show d.data.size = 0; rw [e]; rfl
              omega
            clear h48
            have HBH := Lib.hid hgood
            clear hgood
            go_wp2
            have hk1 := hk
            have hR1 := hR
            clear r0 r1 f0 f1 hR hk
            generalize (w.alloc (.cells #[.bool false, .slice none 0 0] 27)) = W at *
            have hR := hR1
            have hk := hk1
            clear hR1 hk1
            have r0 := hR.c0
            have r1 := hR.c1
            have f0 := hR.frozen 0
            have f1 := hR.frozen 1
            go_loop [45] (fun i => ∃ k : Nat, k ≤ d.size ∧ i = .int .i64 (k : Nat) ∧ (d.data.toList.take k).all isDg = true) (fun i => d.size - (intOf i).toNat)
            case atStart => exact ⟨0, Nat.zero_le _, rfl, rfl⟩
            case round =>
              obtain ⟨k, hkd, rfl, hall⟩ := hrel
              have HALL := Lib.hid hall
              clear hall
              by_cases hlt : k < d.size
              · have hst : d.data.toList.take (k + 1) = d.data.toList.take k ++ [d[k]] := by
                  rw [List.take_succ_eq_append_getElem (by simpa using hlt)]; rfl
                have HST := Lib.hid hst
                have hub : d[k].toNat < 256 := d[k].toNat_lt
                clear hst
                by_cases hdg : isDg d[k] = true
                · have h1 := isDg_le hdg
                  have HDG := Lib.hid hdg
                  have e1 : decide ((d[k].toNat : Int) < 48) = false := decide_eq_false (by omega)
                  have e2 : decide ((57 : Int) < d[k].toNat) = false := decide_eq_false (by omega)
                  have e3 : ¬ (d[k].toNat : Int) < 48 := by omega
                  have e4 : ¬ (57 : Int) < d[k].toNat := by omega
                  clear h1 hdg hub
                  go_wp2
                  go_round
                  case rel => exact ⟨k + 1, by omega, by go_num, by rw [HST.out, List.all_append, HALL.out]; simpa using HDG.out⟩
                  case measure => simp [intOf]; omega
                · have hc : parseC l = 8 := by
                    unfold parseC
                    rw [if_neg (by have := HLEN.out; omega), if_neg (by rw [HBH.out]; decide), if_pos]
                    rw [HB.out, List.all_eq_false]
                    exact ⟨d[k], List.mem_of_getElem? (i := k) (by simp [hlt]; rfl), hdg⟩
                  have HCC := Lib.hid hc
                  have HZZ := Lib.hid (parseZ_err hc (by decide))
                  have hnd : d[k].toNat < 48 ∨ 57 < d[k].toNat := by unfold isDg at hdg; simp at hdg; omega
                  clear hc hdg
                  by_cases hlo : d[k].toNat < 48
                  · have e1 : decide ((d[k].toNat : Int) < 48) = true := decide_eq_true (by omega)
                    have e3 : (d[k].toNat : Int) < 48 := by omega
                    clear hnd hub
                    go_wp2
                    have hR4 := hR.two (.bool false) (.slice none 0 0)
                    refine bodyPost_ret (v := .tuple #[.agg #[.bool false, .slice none 0 0], .int .i64 8]) (by simp [results, Tryz.results55, go_sem, hR4.cell 0, hR4.cell 1]) rfl ?_
                    exact ⟨_, by rw [HCC.out], by rw [HZZ.out]; exact IntRep.zero _, (hk.set (Nat.le_refl _) _).set (Nat.le_refl _) _⟩
                  · have e1 : decide ((d[k].toNat : Int) < 48) = false := decide_eq_false (by omega)
                    have e2 : decide ((57 : Int) < d[k].toNat) = true := decide_eq_true (by omega)
                    have e3 : ¬ (d[k].toNat : Int) < 48 := by omega
                    have e4 : (57 : Int) < d[k].toNat := by omega
                    clear hnd hub
                    go_wp2
                    have hR4 := hR.two (.bool false) (.slice none 0 0)
                    refine bodyPost_ret (v := .tuple #[.agg #[.bool false, .slice none 0 0], .int .i64 8]) (by simp [results, Tryz.results55, go_sem, hR4.cell 0, hR4.cell 1]) rfl ?_
                    exact ⟨_, by rw [HCC.out], by rw [HZZ.out]; exact IntRep.zero _, (hk.set (Nat.le_refl _) _).set (Nat.le_refl _) _⟩
              · obtain rfl : k = d.size := by omega
                have hal : d.data.toList.all isDg = true := by have := HALL.out; rwa [List.take_of_length_le (by simp)] at this
                by_cases hbig : 2000 < d.size
                ·
                  have e1 : decide ((2000 : Int) < d.size) = true := decide_eq_true (by omega)
                  have e2 : (2000 : Int) < d.size := by omega
                  have hc : parseC l = 9 := by
                    unfold parseC
                    rw [if_neg (by have := HLEN.out; omega), if_neg (by rw [HBH.out]; decide), if_neg (by rw [HB.out, hal]; decide), if_pos (by rw [HB.out]; simpa using hbig)]
                  have HCC := Lib.hid hc
                  have HZZ := Lib.hid (parseZ_err hc (by decide))
                  clear hc hal
                  go_wp2
                  have hR4 := hR.two (.bool false) (.slice none 0 0)
                  refine bodyPost_ret (v := .tuple #[.agg #[.bool false, .slice none 0 0], .int .i64 9]) (by simp [results, Tryz.results55, go_sem, hR4.cell 0, hR4.cell 1]) rfl ?_
                  exact ⟨_, by rw [HCC.out], by rw [HZZ.out]; exact IntRep.zero _, (hk.set (Nat.le_refl _) _).set (Nat.le_refl _) _⟩
                · have e1 : decide ((2000 : Int) < d.size) = false := decide_eq_false (by omega)
                  have e2 : ¬ (2000 : Int) < d.size := by omega
                  have hc : parseC l = 0 := by
                    unfold parseC
                    rw [if_neg (by have := HLEN.out; omega), if_neg (by rw [HBH.out]; decide), if_neg (by rw [HB.out, hal]; decide), if_neg (by rw [HB.out]; simpa using hbig)]
                  have hz : parseZ l = sgn false (valD d.data.toList) := by
                    unfold parseZ
                    rw [if_pos hc, HN.out, HB.out]
                    rfl
                  have HCC := Lib.hid hc
                  have HZZ := Lib.hid hz
                  have HAL := Lib.hid hal
                  clear hc hz hal
                  go_wp2
                  try clear h1z
                  try clear e1z
      
                  go_loopw [7, 8] (fun g e wr => ∃ (k : Nat) (out : List Nat) (E : Int), out.length = k ∧ 9 * k ≤ d.size + 8 ∧ e = .int .i64 E ∧ E = (d.size : Int) - 9 * (k : Nat) ∧ AllB out ∧ val out = valD (d.data.toList.drop (d.size - 9 * k)) ∧
                      wr.ownsRow (w.heap.size + 1) 51 1 g out.length (u32s out) ∧ Own wr w.heap.size 27 [.bool false, .slice none 0 0] ∧ Keeps w wr) (fun _ e _ => (intOf e).toNat)
                  case atStart => exact ⟨0, [], (d.size : Int), rfl, by omega, rfl, by omega, AllB.nil, by rw [Nat.mul_zero, Nat.sub_zero, List.drop_of_length_le (by simp)]; rfl, ⟨rfl, .inl ⟨rfl, rfl⟩⟩, hR, hk⟩
                  case round =>
                    clear hR hk r0 r1 f0 f1
                    obtain ⟨k, out, E, hol, hkd, rfl, hE, hob, hval, hown, hR, hk⟩ := hrel
                    have HOL := Lib.hid hol
                    have HVAL := Lib.hid hval
                    have hkI : (k : Int) ≤ 300 := by omega
                    have hdI2 : (d.size : Int) ≤ 2000 := by omega
                    clear hol hval
                    by_cases hgo : 9 * k < d.size
                    · by_cases hfull : 9 * k + 9 ≤ d.size
                      · obtain ⟨lo, hlo⟩ : ∃ lo, d.size = 9 * k + 9 + lo := ⟨d.size - (9 * k + 9), by omega⟩
                        obtain rfl : E = (lo : Int) + 9 := by omega
                        have hloI : (lo : Int) ≤ 2000 := by omega
                        have hle : (lo : Int) + 9 ≤ d.size := by omega
                        have HLO := Lib.hid hlo
                        clear hE hlo hfull hgo
                        have hx1 : (d.extract lo (lo + 9)).size = (lo + 9) - lo := by rw [ByteArray.size_extract]; have := HLO.out; omega
                        have hx2 : (d.extract lo (lo + 9)).data.toList = (d.data.toList.drop lo).take ((lo + 9) - lo) := by
                          rw [ByteArray.data_extract, Array.toList_extract, List.extract_eq_take_drop]
                        have hdgs := all_part d.data.toList HAL.out lo ((lo + 9) - lo)
                        have hne : (d.data.toList.drop lo).take ((lo + 9) - lo) ≠ [] := by
                          intro e
                          have := congrArg List.length e
                          rw [List.length_take, List.length_drop, List.length_nil, Array.length_toList] at this
                          have h2 : d.data.size = _ := HLO.out
                          omega
                        have hat := atoi_all _ hdgs hne
                        rw [← hx2] at hat
                        have hn := part_lt d.data.toList HAL.out lo ((lo + 9) - lo) 9 (by omega)
                        have hgs := group_step d.data.toList k lo (lo + 9) (by omega) (by have := HLO.out; simp; omega)
                        have HGS := Lib.hid hgs
                        have hol3 : out.length ≤ 300 := by have := HOL.out; omega
                        have hnI : (valD ((d.data.toList.drop lo).take ((lo + 9) - lo)) : Int) ≤ 999999999 := by omega
                        have hs18 : (d.extract lo (lo + 9)).size ≤ 18 := by rw [hx1]; omega
                        rw [hx2] at hat
                        clear hgs hn hdgs hne
                        obtain ⟨n, hnn⟩ : ∃ n, valD ((d.data.toList.drop lo).take ((lo + 9) - lo)) = n := ⟨_, rfl⟩
                        rw [hnn] at hnI hat
                        rw [← hx2] at hat
                        have HNN := Lib.hid hnn
                        have HA := Lib.hid (Tryz.strconv_Atoi (d.extract lo (lo + 9)) (n : Nat) hs18 hat)
                        clear hnn hat hx1 hx2 hs18
                        go_wp2_with fail
                        refine (HA.out _).mono ?_
                        rintro e w1 ⟨rfl, t, hw1⟩
                        have hkA : Keeps wr w1 := by rw [hw1]; exact Lib.bytesWorld_below _ _ _
                        clear hw1 HA
                        replace hown := owns_kept hown hkA
                        replace hR := hR.below hkA
                        replace hk := hk.trans' hkA
                        clear hkA
                        go_wp2_with (at_builtin; refine wpList_append_own _ rfl _ _ 25 rfl (w.heap.size + 1) 51 i0 (.int .u32 0) 1 4 Tryz.underlying25 hi hz0 hz1 hz2 rfl (by decide) _ _ _ rfl (hown.alloc _) ⟨w1.heap.size, 0, none⟩ 1 1 [.int .u32 (n : Nat)] rfl rfl (newcell _ _ _) (by simp [Value.oneCell']) (by simp only [maxLen]; omega) (by omega) (by have := hR.lt; simp; omega) ?_; intro v' w2 hown' hgrow _)
                        rw [u32s_snoc out n rfl] at hown'
                        have hk2 : Keeps w w2 := (hk.alloc hk.size _).grown hgrow (by have := hk.size; simp; omega) (fun b e => by have := (hown.lt b e).1; omega)
                        have hR3 := (hR.alloc _).grown hgrow (fun e => by have := (hown.lt _ e.symm).1; omega)
                        go_roundw
                        case rel => exact ⟨k + 1, out ++ [n], (lo : Int), by rw [List.length_append, HOL.out]; rfl, by have := HLO.out; omega, by first | rfl | go_num, by have := HLO.out; omega, hob.append (AllB.single (by omega)),
                          by rw [val_snoc, HOL.out, HVAL.out, show d.size - 9 * k = (lo + 9) by have := HLO.out; omega, show d.size - 9 * (k + 1) = lo by have := HLO.out; omega, HGS.out, HNN.out], by simpa using hown', hR3, hk2⟩
                        case measure => simp [intOf]; omega
                      · obtain ⟨h9, hh9⟩ : ∃ h9, d.size = 9 * k + h9 := ⟨d.size - 9 * k, by omega⟩
                        obtain rfl : E = (h9 : Int) := by omega
                        have h9I : (h9 : Int) ≤ 8 := by omega
                        have h9p : (0 : Int) < (h9 : Int) := by omega
                        have hle : (h9 : Int) ≤ d.size := by omega
                        have mx : max (0 : Int) ((h9 : Int) - 9) = 0 := by omega
                        have HLO := Lib.hid hh9
                        clear hE hh9 hfull hgo
                        have hx1 : (d.extract 0 h9).size = h9 - 0 := by rw [ByteArray.size_extract]; have := HLO.out; omega
                        have hx2 : (d.extract 0 h9).data.toList = (d.data.toList.drop 0).take (h9 - 0) := by
                          rw [ByteArray.data_extract, Array.toList_extract, List.extract_eq_take_drop]
                        have hdgs := all_part d.data.toList HAL.out 0 (h9 - 0)
                        have hne : (d.data.toList.drop 0).take (h9 - 0) ≠ [] := by
                          intro e
                          have := congrArg List.length e
                          rw [List.length_take, List.length_drop, List.length_nil, Array.length_toList] at this
                          have h2 : d.data.size = _ := HLO.out
                          omega
                        have hat := atoi_all _ hdgs hne
                        rw [← hx2] at hat
                        have hn := part_lt d.data.toList HAL.out 0 (h9 - 0) 9 (by omega)
                        have hgs := group_step d.data.toList k 0 h9 (by omega) (by have := HLO.out; simp; omega)
                        have HGS := Lib.hid hgs
                        have hol3 : out.length ≤ 300 := by have := HOL.out; omega
                        have hnI : (valD ((d.data.toList.drop 0).take (h9 - 0)) : Int) ≤ 999999999 := by omega
                        have hs18 : (d.extract 0 h9).size ≤ 18 := by rw [hx1]; omega
                        rw [hx2] at hat
                        clear hgs hn hdgs hne
                        obtain ⟨n, hnn⟩ : ∃ n, valD ((d.data.toList.drop 0).take (h9 - 0)) = n := ⟨_, rfl⟩
                        rw [hnn] at hnI hat
                        rw [← hx2] at hat
                        have HNN := Lib.hid hnn
                        have HA := Lib.hid (Tryz.strconv_Atoi (d.extract 0 h9) (n : Nat) hs18 hat)
                        clear hnn hat hx1 hx2 hs18
                        go_wp2_with fail
                        refine (HA.out _).mono ?_
                        rintro e w1 ⟨rfl, t, hw1⟩
                        have hkA : Keeps wr w1 := by rw [hw1]; exact Lib.bytesWorld_below _ _ _
                        clear hw1 HA
                        replace hown := owns_kept hown hkA
                        replace hR := hR.below hkA
                        replace hk := hk.trans' hkA
                        clear hkA
                        go_wp2_with (at_builtin; refine wpList_append_own _ rfl _ _ 25 rfl (w.heap.size + 1) 51 i0 (.int .u32 0) 1 4 Tryz.underlying25 hi hz0 hz1 hz2 rfl (by decide) _ _ _ rfl (hown.alloc _) ⟨w1.heap.size, 0, none⟩ 1 1 [.int .u32 (n : Nat)] rfl rfl (newcell _ _ _) (by simp [Value.oneCell']) (by simp only [maxLen]; omega) (by omega) (by have := hR.lt; simp; omega) ?_; intro v' w2 hown' hgrow _)
                        rw [u32s_snoc out n rfl] at hown'
                        have hk2 : Keeps w w2 := (hk.alloc hk.size _).grown hgrow (by have := hk.size; simp; omega) (fun b e => by have := (hown.lt b e).1; omega)
                        have hR3 := (hR.alloc _).grown hgrow (fun e => by have := (hown.lt _ e.symm).1; omega)
                        go_roundw
                        case rel => exact ⟨k + 1, out ++ [n], ((h9 : Int) - 9), by rw [List.length_append, HOL.out]; rfl, by have := HLO.out; omega, by first | rfl | go_num, by have := HLO.out; omega, hob.append (AllB.single (by omega)),
                          by rw [val_snoc, HOL.out, HVAL.out, show d.size - 9 * k = h9 by have := HLO.out; omega, show d.size - 9 * (k + 1) = 0 by have := HLO.out; omega, HGS.out, HNN.out], by simpa using hown', hR3, hk2⟩
                        case measure => simp [intOf]; omega
                    · have q1 : ¬ (0 : Int) < E := by omega
                      have q2 : decide ((0 : Int) < E) = false := decide_eq_false q1
                      have hv2 : val out = valD d.data.toList := by rw [HVAL.out, show d.size - 9 * k = 0 by omega, List.drop_zero]
                      have HV2 := Lib.hid hv2
                      have hu := U32.of_own hown
                      clear hE hgo hv2
                      go_wp2_with fail
                      refine (made_u false _ out _ hu hob).mono ?_
                      rintro e w5 ⟨V5, rfl, hr5, hk5⟩
                      obtain ⟨A5, n5, c5, rfl, -⟩ := hr5.open_
                      have hR5 := hR.below hk5
                      have r0 := hR5.c0
                      have r1 := hR5.c1
                      have f0 := hR5.frozen 0
                      have f1 := hR5.frozen 1
                      rw [HV2.out] at hr5 ⊢
                      generalize decide (sgn false (valD d.data.toList) < 0) = b5 at *
                      go_wp2
                      have hR4 := hR5.two (.bool b5) (.slice A5 n5 c5)
                      refine bodyPost_ret (v := .tuple #[.agg #[.bool b5, .slice A5 n5 c5], .int .i64 0]) (by simp [results, Tryz.results55, go_sem, hR4.cell 0, hR4.cell 1]) rfl ?_
                      exact ⟨_, by rw [HCC.out], by rw [HZZ.out]; exact hr5.two hR5 rfl rfl rfl, ((hk.trans' hk5).set (Nat.le_refl _) _).set (Nat.le_refl _) _⟩
end Go.Proofs.YtomjnjpehokjbaaGreatDoor

namespace Go.Proofs.YtomjnjpehokjbaaGreatDoor
open Go.RowKit Go.Shelf

/-- what Parse hands back -/
def ParseGives (z c : Int) (w : World) (e : Ending) (w' : World) : Prop := ∃ Q, e = .returned (.tuple #[Q, .int .i64 c]) ∧ IntRep w' Q z ∧ Keeps w w'
theorem parse_s {s : ByteArray} {z c : Int} (w : World) (hs : s.size ≤ 9223372036854775807) (hz : parseZ s.data.toList = z) (hc : parseC s.data.toList = c) : Calls Tryz.prog 55 #[.string s] w (ParseGives z c w) := by
  subst hz hc; exact parse_any s w hs
theorem rparse_s {s : ByteArray} {z c : Int} (w : World) (hs : s.size ≤ 9223372036854775807) (hz : parseZ s.data.toList = z) (hc : parseC s.data.toList = c) : Calls Tryz.prog 58 #[.string s] w (ParseGives z c w) := by
  subst hz hc; exact rparse_any s w hs
theorem textL_parse (l : List UInt8) (h : parseC l = 0) : textL (parseZ l) = l := by
  have hz : parseZ l = (if negOf l then -(valD (bodyOf l) : Int) else (valD (bodyOf l) : Int)) := if_pos h
  unfold parseC at h
  split at h
  · omega
  · split at h
    · omega
    · rename_i hb
      split at h
      · omega
      · rename_i hall
        have hall : (bodyOf l).all isDg = true := by simpa using hall
        have hl : l = (if negOf l then [45] else []) ++ bodyOf l := by
          unfold negOf bodyOf
          cases l with
          | nil => rfl
          | cons a r =>
            by_cases ha : a = 45
            · subst ha; simp
            · simp [ha]
        unfold badHead at hb
        simp only [Bool.or_eq_true, Bool.and_eq_true, not_or, not_and, decide_eq_true_eq, Bool.not_eq_true, List.isEmpty_eq_false_iff] at hb
        obtain ⟨hne, hz0⟩ := hb
        by_cases h48 : (bodyOf l).head? = some 48
        · have h1 := hz0 h48
          have hlen : (bodyOf l).length = 1 := by
            have := List.length_pos_iff.2 hne
            omega
          have hb1 : bodyOf l = [48] := by
            match hbo : bodyOf l, hlen with
            | [c], _ => rw [hbo] at h48; simp at h48; rw [h48]
          rw [hz, h1.2, hb1]
          rw [h1.2, hb1] at hl
          rw [hl]
          rfl
        · have hc : ∀ c r, bodyOf l = c :: r → c ≠ 48 := fun c r e ec => h48 (by rw [e, ec]; rfl)
          have ht := txt_valD (bodyOf l) hall hc
          have hp : valD (bodyOf l) ≠ 0 := fun e => hne (by rw [← ht, e]; rfl)
          rw [txt_pos _ hp] at ht
          have hz' : parseZ l ≠ 0 := by rw [hz]; split <;> omega
          have hneg : (parseZ l < 0) ↔ negOf l = true := by
            rw [hz]
            cases negOf l <;> simp <;> omega
          have habs : (parseZ l).natAbs = valD (bodyOf l) := by rw [hz]; split <;> omega
          unfold textL
          rw [if_neg hz', habs, ht]
          conv => rhs; rw [hl]
          cases hn : negOf l with
          | true => rw [if_pos (hneg.2 hn)]; rfl
          | false => rw [if_neg (fun h => by have := hneg.1 h; rw [hn] at this; cases this)]; rfl
theorem parse_textL (z : Int) (hl : (textL z).length ≤ 2000) : parseC (textL z) = 0 ∧ parseZ (textL z) = z := by
  by_cases h0 : z = 0
  · subst h0; exact ⟨by decide, by decide⟩
  · have ht : textL z = (if z < 0 then [45] else []) ++ txt z.natAbs := by unfold textL; rw [if_neg h0, txt_pos _ (by omega)]
    obtain ⟨h1, h2, h3⟩ := txt_digits z.natAbs
    have hne : txt z.natAbs ≠ [] := fun e => by rw [e] at h2; simp [valD] at h2; omega
    obtain ⟨c, r, hcr⟩ := List.exists_cons_of_ne_nil hne
    have hc48 := h3 c r hcr
    have hdc : isDg c = true := by rw [hcr, List.all_cons, Bool.and_eq_true] at h1; exact h1.1
    have hc45 : c ≠ 45 := fun e => by subst e; exact absurd hdc (by decide)
    have hb : bodyOf (textL z) = txt z.natAbs := by
      rw [ht]; unfold bodyOf
      by_cases hz : z < 0
      · rw [if_pos hz]; simp
      · rw [if_neg hz, hcr]; simp [hc45]
    have hn : negOf (textL z) = decide (z < 0) := by
      rw [ht]; unfold negOf
      by_cases hz : z < 0
      · simp [hz]
      · simp [hz, hcr, hc45]
    have hbl : (txt z.natAbs).length ≤ 2000 := by rw [ht, List.length_append] at hl; omega
    have hpc : parseC (textL z) = 0 := by
      unfold parseC
      rw [if_neg (by omega), if_neg, if_neg (by rw [hb, h1]; decide), if_neg (by rw [hb]; omega)]
      unfold badHead
      rw [hb, hcr]
      simp [hc48]
    refine ⟨hpc, ?_⟩
    unfold parseZ
    rw [if_pos hpc, hn, hb, h2]
    by_cases hz : z < 0
    · simp [hz]; omega
    · simp [hz]; omega
theorem pow_230 (n : Nat) (h : n ≤ 2000) : 10 ^ n ≤ 1000000000 ^ 230 := by
  obtain ⟨k, hk⟩ : ∃ k, k = 230 := ⟨_, rfl⟩
  rw [← hk, show (1000000000 : Nat) = 10 ^ 9 from rfl, ← Nat.pow_mul]
  exact Nat.pow_le_pow_right (by omega) (by omega)
theorem parse_len (l : List UInt8) : lenI (parseZ l) ≤ 230 := by
  by_cases h : parseC l = 0
  · have hz : parseZ l = (if negOf l then -(valD (bodyOf l) : Int) else (valD (bodyOf l) : Int)) := if_pos h
    unfold parseC at h
    split at h
    · omega
    · split at h
      · omega
      · split at h
        · omega
        · rename_i hall
          split at h
          · omega
          · rename_i hlen
            have hv := valD_lt (bodyOf l) (by simpa using hall)
            unfold lenI
            have ha : (parseZ l).natAbs = valD (bodyOf l) := by rw [hz]; split <;> omega
            rw [ha]
            refine dig_length_le (Nat.lt_of_lt_of_le hv ?_)
            exact pow_230 _ (by omega)
  · rw [parseZ_err rfl h]; simp [lenI, dig_zero]
theorem textL_len (z : Int) (h : lenI z ≤ 12) : (textL z).length ≤ 120 := by
  unfold textL
  split
  · simp
  · rename_i h0
    rw [← txt_pos _ (show z.natAbs ≠ 0 by omega), List.length_append]
    have h1 := dig_lt z.natAbs
    have h2 : (txt z.natAbs).length ≤ 9 * (dig z.natAbs).length := txt_len _ _ (by rw [Nat.pow_mul]; exact h1)
    unfold lenI at h
    have : (if z < 0 then ([45] : List UInt8) else []).length ≤ 1 := by split <;> simp
    omega
end Go.Proofs.YtomjnjpehokjbaaGreatDoor
