/- Encode of a frame that is right: the walk. -/
import Derived.Test.YtbkcnhbdjllojaaEnc
import Derived.Test.YtbkcnhbdjllojaaRound
import Derived.Test.YtbkcnhbdjllojaaOut
import Derived.Test.YtbkcnhbdjllojaaMix
namespace Go.Proofs.Ytbkcnhbdjllojaa
open Go.RowKit Go.Shelf
attribute [local go_sem] Oper.semAt_some

theorem own4 (w : World) (t : TypeId) (g a b c N d : Nat) : Own (w.alloc (.cells #[.slice (some ⟨g, 0, none⟩) N d, .slice (some ⟨a, 0, none⟩) 4 4, .slice (some ⟨b, 0, none⟩) 4 4, .slice (some ⟨c, 0, none⟩) 4 4] t)) w.heap.size t [.slice (some ⟨g, 0, none⟩) N d, .slice (some ⟨a, 0, none⟩) 4 4, .slice (some ⟨b, 0, none⟩) 4 4, .slice (some ⟨c, 0, none⟩) 4 4] := Own.new w t _
/-- behind the head of a file -/
def EncCut (w1 wx : World) (b5 b8 : Nat) (xs : List Nat) (ras : List Value) : Prop :=
  ∃ A5 c5, Own wx b5 32 [.slice A5 xs.length c5] ∧ wx.ownsRow w1.heap.size 5 1 (.slice A5 xs.length c5) xs.length (u8s xs) ∧ Own wx b8 25 ras ∧ Keeps w1 wx
theorem inRound {P : Program} {f l n : Nat} {args : Array Value} {w : World} {R : Ending → World → Prop} (h : Calls P f args w R) : CallsIn (Fence.wide.inRound l) n P f args w R := (callsIn_wide (n := n)).2 h
/-- behind k rows -/
def EncI (w Wb : World) (base b5 : Nat) (bs : List Nat) (xs : Nat → List Nat) (k : Nat) (W : World) : Prop :=
  ∃ A c, Own W b5 32 [.slice A (xs k).length c] ∧ W.ownsRow base 5 1 (.slice A (xs k).length c) (xs k).length (u8s (xs k)) ∧ (∀ b ∈ bs, W.heap[b]? = Wb.heap[b]?) ∧ Below w.heap.size w W
theorem EncI.from {w Wb : World} {base b5 B : Nat} {bs : List Nat} {xs : Nat → List Nat} (h : ∀ b ∈ bs, ∃ cs t fr, Wb.heap[b]? = some (.cells cs t fr)) (hB : w.heap.size ≤ B) : OwnFrom B (EncI w Wb base b5 bs xs) := fun k X Y row hs hg hr => by
  obtain ⟨A, c, h1, h2, h3, h4⟩ := hs
  refine ⟨A, c, h1.nc hg fun r e => (hr r e).2, h2.nc hg fun r e => (hr r e).2, fun b hb => ?_, ownFrom_below (β := Nat) (Nat.le_refl _) hB k X Y row h4 hg hr⟩
  obtain ⟨cs, t, fr, hc⟩ := h b hb
  have hX := h3 b hb
  have hlt : b < X.heap.size := by rw [hc] at hX; exact (Array.getElem?_eq_some_iff.1 hX).1
  rw [hg.block b hlt fun e => by
    obtain ⟨o, ho, hc'⟩ := (hr b e.symm).2
    rw [hX, hc] at ho
    cases ho
    cases hc']
  exact hX
theorem ChunkKp.t {Bs : Nat} {A B C : World} (h : ChunkKp Bs A B) (k : ChunkKp Bs B C) : ChunkKp Bs A C := ⟨Nat.le_trans h.1 k.1, k.2.1.trans h.2.1, k.2.2.trans h.2.2⟩
theorem ChunkKp.b {Bs : Nat} {w : World} (hb : Bs + 1 < w.heap.size) (W : World) (l : Nat) (o o' : Obj) (hl : w.heap.size ≤ l) (_ : W.heap[l]? = some o) (_ : o.isCells = false) (_ : o.isWalk = false) : ChunkKp Bs W (W.putObj l o') :=
  ⟨by simp [World.putObj], World.putObj_heap_other (by omega), World.putObj_heap_other (by omega)⟩
set_option maxRecDepth 100000 in
set_option maxHeartbeats 4000000 in
theorem encode_yes {w : World} {A B : Option Addr} {c d : Nat} {es : List Ent} {px : List Int} (he : EntR w A es) (hr : IRow w B px) (hs : EntS es) (W H m : Nat) (hc : frmC es W H m px = 0) :
    Calls Try.prog 17 #[frmV A es.length c W H m B px.length d] w fun e w' => ∃ V, e = .returned (.tuple #[V, .int .i64 0]) ∧ BOwn w' w.heap.size V (fileB es W H m px) ∧ Keeps w w' := by
  obtain ⟨i0, hi, hz0, hz1, hz2⟩ := info_parts info_u8
  have hras : rasC W H m px = 0 := Classical.byContradiction fun h => by rw [frmC, if_pos h] at hc; exact h hc
  have hcnt : es.length ≤ 32 := Nat.le_of_not_lt fun h => by rw [frmC, if_neg (by simp [hras]), if_pos h] at hc; cases hc
  have hent : entC none es = 0 := by rw [frmC, if_neg (by simp [hras]), if_neg (by omega)] at hc; exact hc
  obtain ⟨hW, hH, hm, hL, hlen, hg⟩ := rasC_0 hras
  have hsh := entC_short es none hent
  have hel : (es.length : Int) ≤ 32 := by omega
  have hWn : 1 ≤ W ∧ W ≤ 64 := by omega
  have hHn : 1 ≤ H ∧ H ≤ 64 := by omega
  have hmn : 1 ≤ m ∧ m ≤ 65535 := by omega
  obtain ⟨W0, hW0⟩ : ∃ W0, w.alloc (.cells #[.slice A es.length c, .int .i64 (W : Nat), .int .i64 (H : Nat), .int .i64 (m : Nat), .slice B px.length d] 27) = W0 := ⟨_, rfl⟩
  have hb : Own W0 w.heap.size 27 [.slice A es.length c, .int .i64 (W : Nat), .int .i64 (H : Nat), .int .i64 (m : Nat), .slice B px.length d] := hW0 ▸ Own.new w _ _
  have l0 : W0.cell? ⟨w.heap.size, 0, none⟩ = some (.slice A es.length c) := hb.cell 0
  have l1 : W0.cell? ⟨w.heap.size, 1, none⟩ = some (.int .i64 (W : Nat)) := hb.cell 1
  have l2 : W0.cell? ⟨w.heap.size, 2, none⟩ = some (.int .i64 (H : Nat)) := hb.cell 2
  have l3 : W0.cell? ⟨w.heap.size, 3, none⟩ = some (.int .i64 (m : Nat)) := hb.cell 3
  have l4 : W0.cell? ⟨w.heap.size, 4, none⟩ = some (.slice B px.length d) := hb.cell 4
  have hk0 : Keeps w W0 := hW0 ▸ (Below.refl _ _).alloc (Nat.le_refl _) _
  have HC := Lib.hid (fcheck_any (c := c) (d := d) (he.below hk0) (hr.below hk0) hs (W : Nat) (H : Nat) (m : Nat) (by simp only [maxLen]; omega) (by simp only [maxLen]; omega))
  rw [hc] at HC
  have HRES := fun w1 (hk : Keeps w w1) (V : Unit) => Lib.hid (residuals_any (w := w1) (A := B) (n := px.length) (c := d) (px := px) (hr.below hk) rfl W (H : Nat) (m : Nat) hWn hlen (by omega) hg)
  have HE := Lib.hid he
  have HSH := Lib.hid hsh
  have HG := Lib.hid hg
  have HL := Lib.hid hL
  have hfl := flatMap_len es hsh
  have HFL : Hid (∀ j, ((es.take j).flatMap entB).length ≤ 4672) := Lib.hid fun j => by
    have := flatMap_len (es.take j) fun e he => hsh e (List.mem_of_mem_take he)
    have h2 : (es.take j).length ≤ es.length := by simp; omega
    omega
  clear he hr hs hc hras hcnt hent hL hg hsh hfl
  refine (callsIn_wide (n := 4)).1 ?_
  refine callsIn_of_wp_marks Try.func17 rfl trivial ?_ rfl
  simp only [Try.ntmps17, List.size_toArray, List.length_cons, List.length_nil, Nat.reduceAdd, Nat.reduceSub, Array.replicate_succ, Array.replicate_zero, List.push_toArray, List.append_toArray, List.nil_append, List.cons_append]
  refine wpIn_wide.2 ?_
  go_wp2_with fail
  refine HC.out.mono ?_
  rintro e w1 ⟨rfl, hk1⟩
  have hb1 := hb.below hk1
  have k0 := hb1.cell 0
  have hb1l := hb1.lt
  have kw1 := hk0.trans' hk1
  simp only [List.getElem?_cons_zero] at k0
  clear hW0 l0 l1 l2 l3 l4
  have hcv := Lib.run_convert_bytes_const (P := Try.prog) w1 32 5 #[.int .u8 70, .int .u8 82, .int .u8 65, .int .u8 77, .int .u8 69, .int .u8 49, .int .u8 10] 7 7 Try.underlying32 Try.underlying5
  go_wp2
  clear hcv
  have hO2 : Own ((w1.alloc (.cells #[.int .u8 70, .int .u8 82, .int .u8 65, .int .u8 77, .int .u8 69, .int .u8 49, .int .u8 10] 5 (7, 8))).alloc (.cells #[.slice (some ⟨w1.heap.size, 0, none⟩) 7 7] 32)) (w1.heap.size + 1) 32 [.slice (some ⟨w1.heap.size, 0, none⟩) 7 7] := own2 w1 _ _ _
  have hR2 : OutR ((w1.alloc (.cells #[.int .u8 70, .int .u8 82, .int .u8 65, .int .u8 77, .int .u8 69, .int .u8 49, .int .u8 10] 5 (7, 8))).alloc (.cells #[.slice (some ⟨w1.heap.size, 0, none⟩) 7 7] 32)) w1.heap.size 5 (.slice (some ⟨w1.heap.size, 0, none⟩) 7 7) 7 (u8s magicB) := by
    refine .inr ⟨w1.heap.size, rfl, Nat.le_refl _, by simp; omega, rfl, fun j u hj => ?_, _, _, (Below.heap_alloc _ _ _ (by simp)).trans (World.alloc_heap_new w1 _)⟩
    have h1 := World.cell?_alloc_mark w1 #[.int .u8 70, .int .u8 82, .int .u8 65, .int .u8 77, .int .u8 69, .int .u8 49, .int .u8 10] 5 (7, 8) j
    have h2 : (w1.alloc (.cells #[.int .u8 70, .int .u8 82, .int .u8 65, .int .u8 77, .int .u8 69, .int .u8 49, .int .u8 10] 5 (7, 8))).cell? ⟨w1.heap.size, j, none⟩ = some u := by
      rw [h1]
      simpa [u8s, magicB] using hj
    exact Lib.cell?_alloc_marked _ h2
  have hK2 := keep2 w1 (.cells #[.int .u8 70, .int .u8 82, .int .u8 65, .int .u8 77, .int .u8 69, .int .u8 49, .int .u8 10] 5 (7, 8)) (.cells #[.slice (some ⟨w1.heap.size, 0, none⟩) 7 7] 32)
  generalize (w1.alloc (.cells #[.int .u8 70, .int .u8 82, .int .u8 65, .int .u8 77, .int .u8 69, .int .u8 49, .int .u8 10] 5 (7, 8))).alloc (.cells #[.slice (some ⟨w1.heap.size, 0, none⟩) 7 7] 32) = W2 at *
  obtain ⟨b5, hb5⟩ : ∃ b5, w1.heap.size + 1 = b5 := ⟨_, rfl⟩
  have HB5 := Lib.hid hb5
  rw [hb5] at hO2
  simp only [hb5]
  clear hb5
  go_loopw [26] (fun i wr => ∃ (j : Nat) (V : Value), j ≤ es.length ∧ i = .int .i64 (j : Nat) ∧ OutR wr w1.heap.size 5 V (magicB ++ (es.take j).flatMap entB).length (u8s (magicB ++ (es.take j).flatMap entB)) ∧ Own wr b5 32 [V] ∧ Keeps w1 wr) (fun i _ => es.length - (intOf i).toNat)
  case atStart => exact ⟨0, _, Nat.zero_le _, rfl, hR2, hO2, hK2⟩
  case round =>
    obtain ⟨j, V, hj, rfl, hout, hbx, hk⟩ := hrel
    by_cases hlt : j < es.length
    · obtain ⟨⟨k, v⟩, hkv⟩ : ∃ e, es[j]? = some e := ⟨_, List.getElem?_eq_getElem hlt⟩
      have hjI : (j : Int) < es.length := by omega
      obtain ⟨B1, o1, rfl, hB1, c1, c2⟩ := (HE.out.below (kw1.trans' hk)) j k v hkv
      have hsz := HSH.out _ (List.mem_of_getElem? hkv)
      have HEN : Hid ((es.take (j + 1)).flatMap entB = (es.take j).flatMap entB ++ entB (k, v)) := Lib.hid (flatMap_take_succ hkv)
      have hfl := HFL.out (j + 1)
      rw [HEN.out, List.length_append] at hfl
      clear hkv
      have ha : (bytesN (k ++ ⟨#[32]⟩ ++ v ++ ⟨#[10]⟩)) = entB (k, v) := by simp only [bytesN_append, entB]; rfl
      have hb : (k ++ ⟨#[32]⟩ ++ v ++ ⟨#[10]⟩ : ByteArray).size = (entB (k, v)).length := by rw [← ha, bytesN_length]
      have hss : 0 < (entB (k, v)).length := by simp [entB]; omega
      have HA := Lib.hid ha
      have HB := Lib.hid hb
      have hml : magicB.length = 7 := rfl
      have hol : (magicB ++ (es.take j).flatMap entB).length = 7 + ((es.take j).flatMap entB).length := by rw [List.length_append, hml]
      have HOL := Lib.hid hol
      obtain ⟨A5, c5, rfl⟩ := hout.sl
      generalize hout' : (magicB ++ (es.take j).flatMap entB) = out at *
      have HO' := Lib.hid hout'
      obtain ⟨n, hn⟩ : ∃ n, out.length = n := ⟨_, rfl⟩
      rw [hn] at hout hbx hol
      have hoI : (n : Int) ≤ 4679 := by omega
      obtain ⟨m5, hm5⟩ : ∃ m5, (entB (k, v)).length = m5 := ⟨_, rfl⟩
      rw [hm5] at hfl HB hss
      have hmI : n + m5 ≤ 5000 := by omega
      have hks : (k.size : Int) ≤ 24 := by have h : k.size ≤ 24 := hsz.1; omega
      have hvs : (v.size : Int) ≤ 120 := by have h : v.size ≤ 120 := hsz.2; omega
      have HOUT := Lib.hid hout
      have HN := Lib.hid hn
      have HM := Lib.hid hm5
      obtain ⟨W4, hW4⟩ : ∃ W4, wr.alloc (.cells #[.string k, .string v] 57) = W4 := ⟨_, rfl⟩
      have hb7 : Own W4 wr.heap.size 57 [.string k, .string v] := hW4 ▸ Own.new wr _ _
      have hk4 : Keeps wr W4 := hW4 ▸ (Below.refl _ _).alloc (Nat.le_refl _) _
      have hbx4 := hbx.below hk4
      have hout4 := hout.keeps hk4
      have n0 := hb7.cell 0
      have n1 := hb7.cell 1
      have x0 := hbx4.cell 0
      have hlo5 := hout.lo
      have hb5l := hbx.lt
      simp only [List.getElem?_cons_zero, List.getElem?_cons_succ] at n0 n1 x0
      clear ha hb hml hol hout' hn hm5 hout hsz hfl
      go_wp2_with (at_builtin; refine wpList_append_out_string rfl _ _ 32 9 rfl w1.heap.size 5 i0 Try.underlying32 Try.underlying9 hi hz0 hz1 hz2 _ n (u8s out) rfl hout4 (k ++ ⟨#[32]⟩ ++ v ++ ⟨#[10]⟩) rfl (by rw [HB.out]; exact hss) (by rw [HB.out]; simp only [maxLen]; omega) (by rw [HB.out]; omega) (Nat.le_trans hk.size hk4.size) ?_; intro v' w3 hown3 hgrow; obtain ⟨N5, hN5⟩ : ∃ N5, n + (k ++ ⟨#[32]⟩ ++ v ++ ⟨#[10]⟩ : ByteArray).size = N5 := ⟨_, rfl⟩; rw [hN5] at hown3; have HN5 := Lib.hid hN5; clear hN5; obtain ⟨A6, c6, rfl, -⟩ := hown3.sl; have hbx6 := hbx4.grown hgrow (hout4.ne hbx4 (by decide)); have hk6 := (hk.trans' hk4).grown hgrow (Nat.le_trans hk.size hk4.size) (fun b e => (hout4.lo b e).1); have x6 := hbx6.cell 0; have y6 := hbx6.frozen 0; simp only [List.getElem?_cons_zero] at x6)
      have hbx7 := hbx6.set 0 (.slice A6 N5 c6)
      have hown7 := ownsRow_far_ne hown3 (p := ⟨b5, 0, none⟩) (row_ne hown3 hbx6 (by decide)).symm (.slice A6 N5 c6)
      have hk7 := hk6.setCell (p := ⟨b5, 0, none⟩) (by have := HB5.out; show w1.heap.size ≤ b5; omega) (.slice A6 N5 c6)
      go_roundw
      case rel =>
        refine ⟨j + 1, _, by omega, by go_num, .inl ?_, hbx7, hk7⟩
        rw [HEN.out, ← List.append_assoc, HO'.out, List.length_append, HN.out, u8s_append, ← HA.out, ← strCells_u8s, HA.out, HM.out, ← HB.out, HN5.out]
        exact hown7
      case measure => simp [intOf]; omega
    · obtain rfl : j = es.length := by omega
      have HHD : Hid (magicB ++ (es.take es.length).flatMap entB ++ [10] = headB es) := Lib.hid (by rw [List.take_length, headB])
      have hfl := HFL.out es.length
      generalize hout' : (magicB ++ (es.take es.length).flatMap entB) = out at *
      have hol : out.length ≤ 4679 := by rw [← hout', List.length_append]; have : magicB.length = 7 := rfl; omega
      obtain ⟨A5, c5, rfl⟩ := hout.sl
      obtain ⟨n, hn⟩ : ∃ n, out.length = n := ⟨_, rfl⟩
      rw [hn] at hout hbx hol
      have HN := Lib.hid hn
      have hoI : (n : Int) ≤ 4679 := by omega
      clear hout' hn hfl
      obtain ⟨W4, hW4⟩ : ∃ W4, wr.alloc (.cells #[.int .u8 10] 5) = W4 := ⟨_, rfl⟩
      have hk4 : Keeps wr W4 := hW4 ▸ (Below.refl _ _).alloc (Nat.le_refl _) _
      have hbx4 := hbx.below hk4
      have hout4 := hout.keeps hk4
      have hnews : ∀ (j : Nat) (u : Value), [(Value.int .u8 10)][j]? = some u → W4.cell? ((⟨wr.heap.size, 0, none⟩ : Addr).add j) = some u := hW4 ▸ cell_one_new wr (.int .u8 10) 5
      have x0 := hbx.cell 0
      have hb5l := hbx.lt
      have hb1w := hb1.below hk
      have hb1wl := hb1w.lt
      simp only [List.getElem?_cons_zero] at x0
      go_wp2_with (at_builtin; refine wpList_append_out rfl _ _ 32 rfl w1.heap.size 5 i0 (.int .u8 0) 1 Try.underlying32 hi hz0 hz1 hz2 rfl _ n (u8s out) rfl hout4 ⟨wr.heap.size, 0, none⟩ 1 1 [.int .u8 10] rfl rfl hnews (by simp [Value.oneCell']) (by omega) (by simp only [maxLen]; omega) (by omega) (Nat.le_trans hk.size hk4.size) ?_; intro v' w3 hown3 hgrow; obtain ⟨A6, c6, rfl, -⟩ := hown3.sl; have hbx6 := hbx4.grown hgrow (hout4.ne hbx4 (by decide)); have hk6 := (hk.trans' hk4).grown hgrow (Nat.le_trans hk.size hk4.size) (fun b e => (hout4.lo b e).1); have x6 := hbx6.cell 0; have y6 := hbx6.frozen 0; have hb16 := hb1.below hk6; have j1 := hb16.cell 1; have j2 := hb16.cell 2; have j3 := hb16.cell 3; have j4 := hb16.cell 4; have j5 := hb16.lt; simp only [List.getElem?_cons_zero, List.getElem?_cons_succ] at x6 j1 j2 j3 j4)
      have hbx7 := hbx6.set 0 (.slice A6 (n + 1) c6)
      have hown7 := ownsRow_far_ne hown3 (p := ⟨b5, 0, none⟩) (row_ne hown3 hbx6 (by decide)).symm (.slice A6 (n + 1) c6)
      have hk7 := hk6.setCell (p := ⟨b5, 0, none⟩) (by have := HB5.out; show w1.heap.size ≤ b5; omega) (.slice A6 (n + 1) c6)
      have hs7 : (w3.setCell ⟨b5, 0, none⟩ (.slice A6 (n + 1) c6)).heap.size = w3.heap.size := by simp [World.setCell]
      have hr8 : Own ((w3.setCell ⟨b5, 0, none⟩ (.slice A6 (n + 1) c6)).alloc (.cells #[.int .i64 (W : Nat), .int .i64 (H : Nat), .int .i64 (m : Nat), .slice B px.length d] 25)) w3.heap.size 25 [.int .i64 (W : Nat), .int .i64 (H : Nat), .int .i64 (m : Nat), .slice B px.length d] := by
        have := Own.new (w3.setCell ⟨b5, 0, none⟩ (.slice A6 (n + 1) c6)) 25 [.int .i64 (W : Nat), .int .i64 (H : Nat), .int .i64 (m : Nat), .slice B px.length d]
        rwa [hs7] at this
      replace hbx7 := hbx7.alloc (.cells #[.int .i64 (W : Nat), .int .i64 (H : Nat), .int .i64 (m : Nat), .slice B px.length d] 25)
      replace hown7 := hown7.alloc (.cells #[.int .i64 (W : Nat), .int .i64 (H : Nat), .int .i64 (m : Nat), .slice B px.length d] 25)
      replace hk7 := hk7.alloc (by rw [hs7]; exact hk6.size) (.cells #[.int .i64 (W : Nat), .int .i64 (H : Nat), .int .i64 (m : Nat), .slice B px.length d] 25)
      generalize (w3.setCell ⟨b5, 0, none⟩ (.slice A6 (n + 1) c6)).alloc (.cells #[.int .i64 (W : Nat), .int .i64 (H : Nat), .int .i64 (m : Nat), .slice B px.length d] 25) = W5 at *
      have hhl : (headB es).length = n + 1 := by rw [← HHD.out, List.length_append, HN.out]; rfl
      have hown8 : W5.ownsRow w1.heap.size 5 1 (.slice A6 (n + 1) c6) (n + 1) (u8s (headB es)) := by
        have := hown7
        rw [← HHD.out, u8s_append]
        exact this
      have hbh : (w3.heap.size : Nat) = w3.heap.size := rfl
      generalize w3.heap.size = b8 at *
      have hhb : (headB es).length ≤ 4680 := by omega
      obtain ⟨hd, hhd⟩ : ∃ hd, headB es = hd := ⟨_, rfl⟩
      have HHD2 := Lib.hid hhd
      rw [hhd] at hhl hown8 hhb
      clear hhd hbh hs7 hown7 HHD hbx6 hk6 x6 y6 j1 j2 j3 j4 j5 hgrow hown3 hbx4 hout4 hnews hk4 hW4 hout hbx x0 hb5l hb1w hb1wl hb16 hk hol hoI HN
      simp only [List.set_cons_zero] at hbx7
      obtain ⟨N, hN⟩ : ∃ N, n + 1 = N := ⟨_, rfl⟩
      rw [hN] at hbx7 hown8 hhl
      rw [hN]
      have HHL := Lib.hid hhl
      have hNb : N ≤ 4680 := by omega
      clear hN hhl hhb
      go_cut [] from 45 to 57 (fun wx => EncCut w1 wx b5 b8 (hd ++ sizesB W H m) [.int .i64 (W : Nat), .int .i64 (H : Nat), .int .i64 (m : Nat), .slice B px.length d])
      case first =>
        have hNpos : 0 < N := by rw [← HHL.out, ← HHD2.out, headB, List.length_append]; exact Nat.lt_of_lt_of_le (by decide : 0 < 1) (Nat.le_add_left 1 _)
        have r8 := hr8.drew
        have x8 := hbx7.drew
        have e0 := r8.cell 0
        have e1 := r8.cell 1
        have e2 := r8.cell 2
        have xx := x8.cell 0
        have hkD : Keeps w1 W5.drew := Below.drew hk7
        have hoD : W5.drew.ownsRow w1.heap.size 5 1 (.slice A6 N c6) N (u8s hd) := hown8
        obtain ⟨gh, gc, hgA, -, -, hgc, -, -, -, -⟩ := hown8.open1 hNpos
        have hA6 : A6 = some ⟨gh, 0, none⟩ ∧ c6 = gc := by cases hgA; exact ⟨rfl, rfl⟩
        obtain ⟨rfl, rfl⟩ := hA6
        have hs5 : b5 < W5.heap.size := hbx7.lt
        simp only [List.getElem?_cons_zero, List.getElem?_cons_succ] at e0 e1 e2 xx
        have hb0 : BRow W5.drew (some ⟨gh, 0, none⟩) hd := BRow.of_own hoD HHL.out.symm
        have hb85 : b8 ≠ b5 := own_ne hr8 hbx7 (by decide)
        have HFLAT : Hid ([hd, fourB W, fourB H, fourB m].flatten = hd ++ sizesB W H m) := Lib.hid (by simp [sizesB])
        clear hgA hr8 hbx7 hown8 hk7
        have hS : (fun w' : World => w'.cell? ⟨b8, 0, none⟩ = some (.int .i64 (W : Nat)) ∧ w'.cell? ⟨b8, 1, none⟩ = some (.int .i64 (H : Nat)) ∧ w'.cell? ⟨b8, 2, none⟩ = some (.int .i64 (m : Nat)) ∧ w'.cell? ⟨b5, 0, none⟩ = some (.slice (some ⟨gh, 0, none⟩) N c6)) W5.drew := ⟨e0, e1, e2, xx⟩
        refine wp_region_noPanic ?_
        refine wp_region_mix 12 (fun w' : World => w'.cell? ⟨b8, 0, none⟩ = some (.int .i64 (W : Nat)) ∧ w'.cell? ⟨b8, 1, none⟩ = some (.int .i64 (H : Nat)) ∧ w'.cell? ⟨b8, 2, none⟩ = some (.int .i64 (m : Nat)) ∧ w'.cell? ⟨b5, 0, none⟩ = some (.slice (some ⟨gh, 0, none⟩) N c6)) rfl ?_
        refine wpAnyT_take 0 (.slice (some ⟨gh, 0, none⟩) N c6) rfl (by kernel_rfl) (by kernel_rfl) (by kernel_rfl) (by kernel_rfl) (fun _ _ _ h => h) (by rfl) (fun w' hS' => ?_) hS ?_
        · obtain ⟨s0, s1, s2, s3⟩ := hS'
          go_simp
          try with_reducible rfl
        try simp only [Act.put]
        try simp only [List.setIfInBounds_toArray]
        try simp only [List.set]
        refine wpAnyT_take 1 (.pointer (some ⟨b8, 0, none⟩)) rfl (by kernel_rfl) (by kernel_rfl) (by kernel_rfl) (by kernel_rfl) (fun _ _ _ h => h) (by rfl) (fun w' hS' => ?_) hS ?_
        · obtain ⟨s0, s1, s2, s3⟩ := hS'
          go_simp
          try with_reducible rfl
        try simp only [Act.put]
        try simp only [List.setIfInBounds_toArray]
        try simp only [List.set]
        refine wpAnyT_take 2 (.int .i64 (W : Nat)) rfl (by kernel_rfl) (by kernel_rfl) (by kernel_rfl) (by kernel_rfl) (fun _ _ _ h => h) (by rfl) (fun w' hS' => ?_) hS ?_
        · obtain ⟨s0, s1, s2, s3⟩ := hS'
          go_simp
          try with_reducible rfl
        try simp only [Act.put]
        try simp only [List.setIfInBounds_toArray]
        try simp only [List.set]
        refine wpAnyT_take 4 (.pointer (some ⟨b8, 1, none⟩)) rfl (by kernel_rfl) (by kernel_rfl) (by kernel_rfl) (by kernel_rfl) (fun _ _ _ h => h) (by rfl) (fun w' hS' => ?_) hS ?_
        · obtain ⟨s0, s1, s2, s3⟩ := hS'
          go_simp
          try with_reducible rfl
        try simp only [Act.put]
        try simp only [List.setIfInBounds_toArray]
        try simp only [List.set]
        refine wpAnyT_take 5 (.int .i64 (H : Nat)) rfl (by kernel_rfl) (by kernel_rfl) (by kernel_rfl) (by kernel_rfl) (fun _ _ _ h => h) (by rfl) (fun w' hS' => ?_) hS ?_
        · obtain ⟨s0, s1, s2, s3⟩ := hS'
          go_simp
          try with_reducible rfl
        try simp only [Act.put]
        try simp only [List.setIfInBounds_toArray]
        try simp only [List.set]
        refine wpAnyT_take 7 (.pointer (some ⟨b8, 2, none⟩)) rfl (by kernel_rfl) (by kernel_rfl) (by kernel_rfl) (by kernel_rfl) (fun _ _ _ h => h) (by rfl) (fun w' hS' => ?_) hS ?_
        · obtain ⟨s0, s1, s2, s3⟩ := hS'
          go_simp
          try with_reducible rfl
        try simp only [Act.put]
        try simp only [List.setIfInBounds_toArray]
        try simp only [List.set]
        refine wpAnyT_take 8 (.int .i64 (m : Nat)) rfl (by kernel_rfl) (by kernel_rfl) (by kernel_rfl) (by kernel_rfl) (fun _ _ _ h => h) (by rfl) (fun w' hS' => ?_) hS ?_
        · obtain ⟨s0, s1, s2, s3⟩ := hS'
          go_simp
          try with_reducible rfl
        try simp only [Act.put]
        try simp only [List.setIfInBounds_toArray]
        try simp only [List.set]
        refine wpAnyT_op 3 (by kernel_rfl) rfl (by rfl) (fun K hK0 => ?_)
        have hK := Lib.hid hK0
        clear hK0
        try simp only [List.getElem_toArray, List.getElem_cons_succ, List.getElem_cons_zero]
        try go_simp
        refine (four_row W W5.drew (by omega)).mono ?_
        rintro e wa ⟨ba, rfl, hra, hka⟩
        have ra := r8.below hka
        have xa := x8.below hka
        try go_simp
        refine hK.out _ _ (.inr ⟨ra.cell 0, ra.cell 1, ra.cell 2, xa.cell 0⟩) ?_
        clear hK K
        try simp only [Act.put]
        try simp only [List.setIfInBounds_toArray]
        try simp only [List.set]
        refine wpAnyT_op 6 (by kernel_rfl) rfl (by rfl) (fun K hK0 => ?_)
        have hK := Lib.hid hK0
        clear hK0
        try simp only [List.getElem_toArray, List.getElem_cons_succ, List.getElem_cons_zero]
        try go_simp
        refine (four_row H wa (by omega)).mono ?_
        rintro e wb ⟨bb, rfl, hrb, hkb⟩
        have rb := ra.below hkb
        have xb := xa.below hkb
        try go_simp
        refine hK.out _ _ (.inr ⟨rb.cell 0, rb.cell 1, rb.cell 2, xb.cell 0⟩) ?_
        clear hK K
        try simp only [Act.put]
        try simp only [List.setIfInBounds_toArray]
        try simp only [List.set]
        refine wpAnyT_op 9 (by kernel_rfl) rfl (by rfl) (fun K hK0 => ?_)
        have hK := Lib.hid hK0
        clear hK0
        try simp only [List.getElem_toArray, List.getElem_cons_succ, List.getElem_cons_zero]
        try go_simp
        refine (four_row m wb (by omega)).mono ?_
        rintro e wv ⟨bc, rfl, hrc, hkc⟩
        have rc := rb.below hkc
        have xc := xb.below hkc
        try go_simp
        refine hK.out _ _ (.inr ⟨rc.cell 0, rc.cell 1, rc.cell 2, xc.cell 0⟩) ?_
        clear hK K
        try simp only [Act.put]
        try simp only [List.setIfInBounds_toArray]
        try simp only [List.set]
        refine wpAnyT_op 10 (by kernel_rfl) rfl (by rfl) (fun K hK0 => ?_)
        have hK := Lib.hid hK0
        clear hK0
        try simp only [List.getElem_toArray, List.getElem_cons_succ, List.getElem_cons_zero]
        try go_simp
        have rd := rc.alloc (.cells #[.slice (some ⟨gh, 0, none⟩) N c6, .slice (some ⟨ba, 0, none⟩) 4 4, .slice (some ⟨bb, 0, none⟩) 4 4, .slice (some ⟨bc, 0, none⟩) 4 4] 32)
        have xd := xc.alloc (.cells #[.slice (some ⟨gh, 0, none⟩) N c6, .slice (some ⟨ba, 0, none⟩) 4 4, .slice (some ⟨bb, 0, none⟩) 4 4, .slice (some ⟨bc, 0, none⟩) 4 4] 32)
        have kd : Keeps wv (wv.alloc (.cells #[.slice (some ⟨gh, 0, none⟩) N c6, .slice (some ⟨ba, 0, none⟩) 4 4, .slice (some ⟨bb, 0, none⟩) 4 4, .slice (some ⟨bc, 0, none⟩) 4 4] 32)) := (Below.refl _ _).alloc (Nat.le_refl _) _
        have hR4 := rowsAt4 (own4 wv 32 gh ba bb bc N c6) HHL.out rfl rfl rfl ((((hb0.below hka).below hkb).below hkc).below kd) (((hra.below hkb).below hkc).below kd) ((hrb.below hkc).below kd) (hrc.below kd) ⟨by simp, hgc⟩ ⟨by simp, Nat.le_refl _⟩ ⟨by simp, Nat.le_refl _⟩ ⟨by simp, Nat.le_refl _⟩
        refine hK.out _ _ (.inr ⟨rd.cell 0, rd.cell 1, rd.cell 2, xd.cell 0⟩) ?_
        clear hK K
        try simp only [Act.put]
        try simp only [List.setIfInBounds_toArray]
        try simp only [List.set]
        refine wpAnyT_op 11 (by kernel_rfl) rfl (by rfl) (fun K hK0 => ?_)
        have hK := Lib.hid hK0
        clear hK0
        try simp only [List.getElem_toArray, List.getElem_cons_succ, List.getElem_cons_zero]
        try go_simp
        refine (concat_any (b := wv.heap.size) (c := 4) hR4 (by simp) (by simp) (by rw [HFLAT.out]; simp [sizesB, fourB]) (by rw [HFLAT.out, List.length_append, HHL.out]; simp [sizesB, fourB]; omega)).mono ?_
        rintro e we ⟨V, rfl, hV, hke⟩
        rw [HFLAT.out] at hV
        unfold BOwn at hV
        obtain ⟨N9, hN9⟩ : ∃ N9, (hd ++ sizesB W H m).length = N9 := ⟨_, rfl⟩
        rw [hN9] at hV
        have HN9 := Lib.hid hN9
        clear hN9
        obtain ⟨A9, c9, rfl, -⟩ := hV.sl
        have re := rd.below hke
        have xe := xd.below hke
        try go_simp
        refine hK.out _ _ (.inr ⟨re.cell 0, re.cell 1, re.cell 2, xe.cell 0⟩) ?_
        clear hK K
        try simp only [Act.put]
        try simp only [List.setIfInBounds_toArray]
        try simp only [List.set]
        have rf := re.far (p := ⟨b5, 0, none⟩) hb85 (.slice A9 N9 c9)
        have x0 := xe.cell 0
        have xf := xe.frozen 0
        simp only [List.getElem?_cons_zero] at x0
        refine wpAnyT_op 12 (by kernel_rfl) rfl (by rfl) (fun K hK0 => ?_)
        have hK := Lib.hid hK0
        clear hK0
        try simp only [List.getElem_toArray, List.getElem_cons_succ, List.getElem_cons_zero]
        try go_simp
        refine hK.out _ _ (.inl rfl) ?_
        clear hK K
        try simp only [Act.put]
        try simp only [List.setIfInBounds_toArray]
        try simp only [List.set]
        refine wpAnyT_done (by kernel_rfl) ?_ _
        refine NoPanic.normal ?_
        have kAll := (((hkD.trans' hka).trans' hkb).trans' hkc).trans' kd
        have hb5w : w1.heap.size ≤ b5 := by have := HB5.out; omega
        have g1 := xe.set 0 (.slice A9 N9 c9)
        have g2 := (ownsRow_far_ne hV (p := ⟨b5, 0, none⟩) (row_ne hV xe (by decide)).symm (.slice A9 N9 c9)).down kAll.size
        have g3 := (kAll.trans' hke).setCell (p := ⟨b5, 0, none⟩) hb5w (.slice A9 N9 c9)
        clear x0 xf hS e0 e1 e2 xx
        go_wp2
        go_meet
        exact ⟨A9, c9, by rw [HN9.out]; exact g1, by rw [HN9.out]; exact g2, rf, g3⟩
      case rest =>
        obtain ⟨A9, c9, hbx9, hown9, hr9, hk9⟩ := hcut
        have kw9 := kw1.trans' hk9
        have e0 := hr9.cell 0
        have e1 := hr9.cell 1
        have e2 := hr9.cell 2
        have e3 := hr9.cell 3
        have hWI : (1 : Int) ≤ W ∧ (W : Int) ≤ 64 := by omega
        simp only [List.getElem?_cons_zero, List.getElem?_cons_succ] at e0 e1 e2 e3
        clear hr8 hk7 hown8 hbx7
        go_wp2
        go_region_held3 (fun w' => w'.cell? ⟨b8, 0, none⟩ = some (.int .i64 (W : Nat)) ∧ w'.cell? ⟨b8, 1, none⟩ = some (.int .i64 (H : Nat)) ∧ w'.cell? ⟨b8, 2, none⟩ = some (.int .i64 (m : Nat)) ∧ w'.cell? ⟨b8, 3, none⟩ = some (.slice B px.length d))
          (first | exact ⟨e0, e1, e2, e3⟩ | exact ⟨ra.cell 0, ra.cell 1, ra.cell 2, ra.cell 3⟩ | exact ⟨rb.cell 0, rb.cell 1, rb.cell 2, rb.cell 3⟩)
          (first
            | (go_at_call 54; refine (HRES wc.drew (Below.drew kw9) ()).out.mono ?_; rintro e wa ⟨V, rfl, hV, hka⟩; have ra := (Own.drew hr9).below hka; obtain ⟨AR, cR, rfl, hcR, -, -⟩ := hV.sl)
            | (go_at_call 53; refine (chunk_any AR px.length cR W wa hWn).mono ?_; rintro e wb ⟨rfl, rfl⟩; have rb := (ra.alloc (.cells #[.slice AR px.length cR] 23)).alloc (.cells #[.int .i64 (W : Nat)] 3)))
        have hpos : 0 < px.length := by
          have := HL.out
          have h1 : 0 < (W : Int) * H := Int.mul_pos (by omega) (by omega)
          omega
        have hLn : px.length = H * W := by
          have : ((H * W : Nat) : Int) = (px.length : Int) := by rw [HL.out]; push_cast; rw [Int.mul_comm]
          omega
        have HLN := Lib.hid hLn
        clear hLn
        obtain ⟨gr, gcc, eR, hgr1, hgr2, -, -, -, -, -⟩ := hV.open1 hpos
        cases eR
        have hlr : (resI px W (m : Int)).length = px.length := resI_length _ _ _
        have hrow : IRow wa (some ⟨gr, 0, none⟩) (resI px W (m : Int)) := IRow.of_own hV hlr.symm
        have hgl : Grey 65535 (resI px W (m : Int)) := fun x hx => by have := resI_grey (m := (m : Int)) (by omega) W x hx; omega
        obtain ⟨ro, hro⟩ : ∃ o, wa.heap[gr]? = some o := ⟨_, Array.getElem?_eq_getElem hgr2⟩
        have hrc : ∃ cs fr, ro = Obj.cells cs 3 fr := by
          obtain ⟨-, ⟨-, h0⟩ | ⟨g', cap, cur, e, -, hg, -⟩⟩ := hV
          · omega
          · cases e
            rw [hg] at hro
            cases hro
            exact ⟨_, _, rfl⟩
        generalize hlres : resI px W (m : Int) = l at *
        have HLRES := Lib.hid hlres
        have hka9 := Keeps.trans' (Below.drew hk9) hka
        have hbxa := (Own.drew hbx9).below hka
        have howna := (show wc.drew.ownsRow w1.heap.size 5 1 (.slice A9 (hd ++ sizesB W H m).length c9) (hd ++ sizesB W H m).length (u8s (hd ++ sizesB W H m)) from hown9).keeps hka
        have hkwa := kw1.trans' hka9
        have hhds : (hd ++ sizesB W H m).length ≤ 5000 := by rw [List.length_append, HHL.out]; simp [sizesB, fourB]; omega
        generalize hhde : hd ++ sizesB W H m = hds at *
        have HHDE := Lib.hid hhde
        clear hhde
        clear hlres hV hown9 hbx9 hr9 hk9 e0 e1 e2 e3 ra rb hka
        obtain ⟨Wb, hWb⟩ : ∃ Wb, (wa.alloc (.cells #[.slice (some ⟨gr, 0, none⟩) px.length cR] 23)).alloc (.cells #[.int .i64 (W : Nat)] 3) = Wb := ⟨_, rfl⟩
        have o1 : Own Wb wa.heap.size 23 [.slice (some ⟨gr, 0, none⟩) px.length cR] := hWb ▸ (Own.new wa _ _).alloc _
        have o2 : Own Wb (wa.heap.size + 1) 3 [.int .i64 (W : Nat)] := hWb ▸ own2 wa _ _ _
        have hkb : Keeps wa Wb := hWb ▸ keep2 wa _ _
        have hsb : Wb.heap.size = wa.heap.size + 2 := by rw [← hWb]; simp
        rw [hWb]
        clear hWb
        have hbxb := hbxa.below hkb
        have hownb := howna.keeps hkb
        have hkwb := hkwa.trans' hkb
        have hrob : Wb.heap[gr]? = some ro := (hkb.block gr hgr2).trans hro
        have hrowb := hrow.below hkb
        clear hbxa howna hkwa hka9 hro hrow
        go_wp2
        refine (wpIn_wide (n := 4)).1 ?_
        obtain ⟨cs, fr, rfl⟩ := hrc
        have hbs : ∀ b ∈ [gr, wa.heap.size, wa.heap.size + 1], ∃ cs t fr, Wb.heap[b]? = some (.cells cs t fr) := by
          intro b hb
          simp only [List.mem_cons, List.not_mem_nil, or_false] at hb
          rcases hb with rfl | rfl | rfl
          · exact ⟨_, _, _, hrob⟩
          · exact ⟨_, _, _, o1⟩
          · exact ⟨_, _, _, o2⟩
        apply wpIn_range_idx (N := H) rfl (by omega) (gf := 72) (lb := #[.pointer (some ⟨wa.heap.size, 0, none⟩), .pointer (some ⟨wa.heap.size + 1, 0, none⟩)]) rfl trivial (enters_of Try.func72 (by kernel_rfl) rfl)
          (chunk_seq _ wa.heap.size gr 0 px.length cR W H hWn.1 HLN.out hcR hlen Wb o1 o2) ChunkKp.t (ChunkKp.b (by omega)) (Below.refl _ _) (fun _ => rfl)
          (EncI w Wb w1.heap.size b5 [gr, wa.heap.size, wa.heap.size + 1] (fun k => hds ++ rowsB l W k)) (fun _ _ _ => False)
          (EncI.from hbs (by have := hkwb.size; omega))
          (fun _ _ _ _ _ hs _ _ => hs)
          ⟨A9, c9, by simpa [rowsB] using hbxb, by simpa [rowsB] using hownb, fun _ _ => rfl, hkwb⟩
        case hassign =>
          intro l' x W' K hK
          unfold chunkEnc
          gi_wp2
          exact hK
        case hbody =>
          rintro l' k X ⟨A, c', g1, g2, g3, g4⟩ hk
          have hyw : k * W + W ≤ px.length := by rw [HLN.out, ← Nat.succ_mul]; exact Nat.mul_le_mul_right _ hk
          have hlrow : (rowOf l W k).length = W := rowOf_length (hlr.trans HLN.out) hk
          have hrX : IRow X (some ⟨gr, 0 + k * W, none⟩) (rowOf l W k) := Row.sub (Row.block hrowb (g3 gr (by simp))) (by omega) (by omega)
          rw [Nat.zero_add] at hrX
          have hgX := rowOf_grey hgl W k
          have hgr' : gr < Wb.heap.size := (Array.getElem?_eq_some_iff.1 hrob).1
          have hXS : Hid (rowsB l W (k + 1) = rowsB l W k ++ rowN (rowOf l W k)) := Lib.hid (rowsB_succ l W k)
          have HROW : Hid (rowN (rowOf l W k) = bestI (rowOf l W k) :: pack (codesB (bestI (rowOf l W k)) ((rowOf l W k).map Int.toNat))) := Lib.hid rfl
          have hbl := bestU_le (rowOf l W k) 17
          have hB := best_any (c := W) hrX (by omega) hgX
          rw [hlrow] at hB
          generalize rowOf l W k = row at *
          have hkb : bestI row ≤ 16 := hbl
          generalize bestI row = kb at *
          have HBEST := Lib.hid hB
          have HXS := Lib.hid hXS.out
          clear hB hbl hXS
          gi_wp2_with fail
          refine ⟨trivial, CallsIn.mono (F := Fence.wide.inRound l') (inRound HBEST.out) ?_⟩
          rintro e X' ⟨rfl, rfl⟩
          gi_wp2
          obtain ⟨X1, hX1⟩ : ∃ X1, X'.alloc (.cells #[.slice none 0 0, .int .i64 0] 88) = X1 := ⟨_, rfl⟩
          have hbw : Own X1 X'.heap.size 88 [.slice none 0 0, .int .i64 0] := hX1 ▸ Own.new X' _ _
          have hkX : Keeps X' X1 := hX1 ▸ (Below.refl _ _).alloc (Nat.le_refl _) _
          have hw0 : WrSt X1 X'.heap.size [] := ⟨_, hbw, World.ownsRow_nil _ _ _ _⟩
          rw [hX1]
          clear hX1
          have HRX := Lib.hid hrX
          have HGX := Lib.hid hgX
          have HNN : Hid (∀ v ∈ row.map Int.toNat, v ≤ 65535) := Lib.hid fun v hv => by
            obtain ⟨x, hx, rfl⟩ := List.mem_map.1 hv
            have := hgX x hx
            omega
          have HLR := Lib.hid hlrow
          clear hrX hgX hbw hlrow
          gi_loopw [74] (fun i wr => ∃ j : Nat, j ≤ W ∧ i = .int .i64 (j : Nat) ∧ Hid (WrSt wr X'.heap.size (codesB kb ((row.map Int.toNat).take j))) ∧ Below X'.heap.size X' wr) (fun i _ => W - (intOf i).toNat)
          case atStart => exact ⟨0, Nat.zero_le _, rfl, Lib.hid hw0, hkX⟩
          case round =>
            obtain ⟨j, hj, rfl, HST, hkj⟩ := hrel
            by_cases hlt : j < W
            · have hjI : (j : Int) < W := by omega
              obtain ⟨gb, go', eg, cx⟩ := IRow.at (HRX.out.below hkj) (j := j) (by rw [HLR.out]; exact hlt)
              cases eg
              have hx := HGX.out.get (by omega) j
              have hsn : (row.map Int.toNat).take (j + 1) = (row.map Int.toNat).take j ++ [(row.getD j 0).toNat] := by
                rw [List.take_succ_eq_append_getElem (by rw [List.length_map, HLR.out]; exact hlt)]
                simp [List.getD, show j < row.length by rw [HLR.out]; exact hlt]
              have HSN := Lib.hid hsn
              have hlen5 : (codesB kb ((row.map Int.toNat).take j)).length ≤ 5000000 := by
                have h1 := codesB_length_le kb ((row.map Int.toNat).take j) (fun v hv => HNN.out v (List.mem_of_mem_take hv)) hkb
                have h2 : ((row.map Int.toNat).take j).length ≤ 64 := by rw [List.length_take]; omega
                omega
              obtain ⟨xn, hxn⟩ : ∃ xn : Nat, row.getD j 0 = xn := ⟨(row.getD j 0).toNat, by omega⟩
              rw [hxn] at cx hx HSN
              have HCODE := Lib.hid (wcode_any HST.out hlen5 xn kb (by omega) hkb)
              clear hsn hxn hlen5
              gi_wp2_with fail
              refine ⟨trivial, CallsIn.mono (F := Fence.wide.inRound l') (inRound HCODE.out) ?_⟩
              rintro e wx ⟨⟨u, rfl⟩, hst, hbel⟩
              have HST2 : Hid (WrSt wx X'.heap.size (codesB kb ((row.map Int.toNat).take (j + 1)))) := Lib.hid (by rw [HSN.out, Int.toNat_natCast, codesB_snoc]; exact hst)
              have hkj2 : Below X'.heap.size X' wx := hkj.trans hbel
              gi_wp2
              go_roundw
              case rel => exact ⟨j + 1, by omega, by go_num, HST2, hkj2⟩
              case measure => simp [intOf]; omega
            · obtain rfl : W = j := by omega
              have HALL : Hid ((row.map Int.toNat).take W = row.map Int.toNat) := Lib.hid (List.take_of_length_le (by rw [List.length_map, HLR.out]; exact Nat.le_refl _))
              rw [HALL.out] at HST
              gi_wp2
              obtain ⟨Vw, q1, q2⟩ := HST.out
              obtain ⟨Aw, cw, rfl, hcw, -, hAw⟩ := q2.sl
              have p1 := (g1.below hkj).drew
              have p2 : wr.drew.ownsRow w1.heap.size 5 1 (.slice A (hds ++ rowsB l W k).length c') (hds ++ rowsB l W k).length (u8s (hds ++ rowsB l W k)) := (show wr.ownsRow _ _ _ _ _ _ from g2.keeps hkj)
              have p3 : wr.drew.ownsRow (X'.heap.size + 1) 5 1 (.slice Aw (pack (codesB kb (row.map Int.toNat))).length cw) (pack (codesB kb (row.map Int.toNat))).length (u8s (pack (codesB kb (row.map Int.toNat)))) := q2
              have p4 := q1.drew
              have hkD := Keeps.trans' hkj (Below.drew (Below.refl _ _))
              have hcl : (codesB kb (row.map Int.toNat)).length ≤ 5000000 := by
                have h1 := codesB_length_le kb (row.map Int.toNat) HNN.out hkb
                have h2 : (row.map Int.toNat).length ≤ 64 := by rw [List.length_map, HLR.out]; exact hWn.2
                omega
              have hpk := pack_length (codesB kb (row.map Int.toNat))
              have HROW2 := HROW
              generalize hpke : pack (codesB kb (row.map Int.toNat)) = pk at *
              generalize hoe : hds ++ rowsB l W k = out at *
              have HOE := Lib.hid hoe
              have hobound : out.length ≤ 100000000 := by
                have h1 := rowsB_length_le hgl hWn.2 k
                rw [← HOE.out, List.length_append]
                omega
              have hpkb : pk.length ≤ 700000 := by omega
              clear hpk
              have hbwlt : b5 < X'.heap.size := g1.lt
              have hgA : ∀ b ∈ blkOf (.slice A out.length c'), b < X'.heap.size := fun b hb => (g2.lo b hb).2
              have hbX : w1.heap.size ≤ wr.heap.size := by have := HB5.out; have := hkj.size; omega
              have HG1 := Lib.hid g1
              clear hpke hoe HST q1 q2 g1 g2
              have hw8 : IntKind.u8.wrap (kb : Int) = kb := IntWalk.u8_in _ (by omega)
              have hS : (fun w' : World => w'.cell? ⟨b5, 0, none⟩ = some (.slice A out.length c') ∧ w'.cell? ⟨X'.heap.size, 0, none⟩ = some (.slice Aw pk.length cw)) wr.drew := ⟨p1.cell 0, p4.cell 0⟩
              refine wpIn_region_mix 10 (fun w' : World => w'.cell? ⟨b5, 0, none⟩ = some (.slice A out.length c') ∧ w'.cell? ⟨X'.heap.size, 0, none⟩ = some (.slice Aw pk.length cw)) rfl (by kernel_rfl) ?_
              refine wpAnyT_take 0 (.slice A out.length c') rfl (by kernel_rfl) (by kernel_rfl) (by kernel_rfl) (by kernel_rfl) (fun _ _ _ h => h) (by rfl) (fun w' hS' => ?_) hS ?_
              · obtain ⟨s0, s1⟩ := hS'
                go_simp
                try with_reducible rfl
              try simp only [Act.put]
              try simp only [List.setIfInBounds_toArray]
              try simp only [List.set]
              refine wpAnyT_take 1 (.int .i64 (kb : Nat)) rfl (by kernel_rfl) (by kernel_rfl) (by kernel_rfl) (by kernel_rfl) (fun _ _ _ h => h) (by rfl) (fun w' hS' => ?_) hS ?_
              · obtain ⟨s0, s1⟩ := hS'
                go_simp
                try with_reducible rfl
              try simp only [Act.put]
              try simp only [List.setIfInBounds_toArray]
              try simp only [List.set]
              refine wpAnyT_take 2 (.int .u8 (kb : Nat)) rfl (by kernel_rfl) (by kernel_rfl) (by kernel_rfl) (by kernel_rfl) (fun _ _ _ h => h) (by rfl) (fun w' hS' => ?_) hS ?_
              · obtain ⟨s0, s1⟩ := hS'
                go_simp
                try with_reducible rfl
              try simp only [Act.put]
              try simp only [List.setIfInBounds_toArray]
              try simp only [List.set]
              refine wpAnyT_take 5 (.pointer (some ⟨X'.heap.size, 0, none⟩)) rfl (by kernel_rfl) (by kernel_rfl) (by kernel_rfl) (by kernel_rfl) (fun _ _ _ h => h) (by rfl) (fun w' hS' => ?_) hS ?_
              · obtain ⟨s0, s1⟩ := hS'
                go_simp
                try with_reducible rfl
              try simp only [Act.put]
              try simp only [List.setIfInBounds_toArray]
              try simp only [List.set]
              refine wpAnyT_take 6 (.pointer (some ⟨X'.heap.size, 0, none⟩)) rfl (by kernel_rfl) (by kernel_rfl) (by kernel_rfl) (by kernel_rfl) (fun _ _ _ h => h) (by rfl) (fun w' hS' => ?_) hS ?_
              · obtain ⟨s0, s1⟩ := hS'
                go_simp
                try with_reducible rfl
              try simp only [Act.put]
              try simp only [List.setIfInBounds_toArray]
              try simp only [List.set]
              refine wpAnyT_take 7 (.pointer (some ⟨X'.heap.size, 0, none⟩)) rfl (by kernel_rfl) (by kernel_rfl) (by kernel_rfl) (by kernel_rfl) (fun _ _ _ h => h) (by rfl) (fun w' hS' => ?_) hS ?_
              · obtain ⟨s0, s1⟩ := hS'
                go_simp
                try with_reducible rfl
              try simp only [Act.put]
              try simp only [List.setIfInBounds_toArray]
              try simp only [List.set]
              refine wpAnyT_take 8 (.slice Aw pk.length cw) rfl (by kernel_rfl) (by kernel_rfl) (by kernel_rfl) (by kernel_rfl) (fun _ _ _ h => h) (by rfl) (fun w' hS' => ?_) hS ?_
              · obtain ⟨s0, s1⟩ := hS'
                go_simp
                try with_reducible rfl
              try simp only [Act.put]
              try simp only [List.setIfInBounds_toArray]
              try simp only [List.set]
              refine wpAnyT_op 3 (by kernel_rfl) rfl (by rfl) (fun K hK0 => ?_)
              have hK := Lib.hid hK0
              clear hK0
              try simp only [List.getElem_toArray, List.getElem_cons_succ, List.getElem_cons_zero]
              try go_simp
              have n1 := p1.alloc (.cells #[.int .u8 (kb : Nat)] 5)
              have n2 := p2.alloc (.cells #[.int .u8 (kb : Nat)] 5)
              have n3 := p3.alloc (.cells #[.int .u8 (kb : Nat)] 5)
              have n4 := p4.alloc (.cells #[.int .u8 (kb : Nat)] 5)
              refine hK.out _ _ (.inr ⟨n1.cell 0, n4.cell 0⟩) ?_
              clear hK K
              try simp only [Act.put]
              try simp only [List.setIfInBounds_toArray]
              try simp only [List.set]
              refine wpAnyT_op 4 (by kernel_rfl) rfl (by rfl) (fun K hK0 => ?_)
              have hK := Lib.hid hK0
              clear hK0
              try simp only [List.getElem_toArray, List.getElem_cons_succ, List.getElem_cons_zero]
              refine wp_append_own _ _ _ 32 (by rfl) w1.heap.size 5 i0 (.int .u8 0) 1 1 Try.underlying32 hi hz0 hz1 hz2 rfl (by decide) (.slice A out.length c') out.length (u8s out) (by rfl) n2 ⟨wr.heap.size, 0, none⟩ 1 1 [.int .u8 (kb : Nat)] (by rfl) rfl (cell_one_new _ _ _) (by simp [Value.oneCell']) (by simp only [maxLen]; omega) (by omega) (by simp; omega) ?_
              intro v5 y5 m2 hgr5 _
              have m1 := n1.grown hgr5 (row_ne n2 n1 (by decide))
              have m4 := n4.grown hgr5 (row_ne n2 n4 (by decide))
              have m3 := n3.turn (Turn.of_grown hgr5) (fun b h1 h2 => by have := (n3.lo b h1).1; have := hgA b h2; omega)
              obtain ⟨A5', c5', rfl, -⟩ := m2.sl
              obtain ⟨N5, hN5⟩ : ∃ N5, out.length + 1 = N5 := ⟨_, rfl⟩
              rw [hN5] at m2
              try rw [hN5]
              have HN5 := Lib.hid hN5
              have hlen5 : N5 + pk.length ≤ 200000000 := by omega
              refine hK.out _ _ (.inr ⟨m1.cell 0, m4.cell 0⟩) ?_
              clear hK K
              try simp only [Act.put]
              try simp only [List.setIfInBounds_toArray]
              try simp only [List.set]
              clear hN5
              refine wpAnyT_op 9 (by kernel_rfl) rfl (by rfl) (fun K hK0 => ?_)
              have hK := Lib.hid hK0
              clear hK0
              try simp only [List.getElem_toArray, List.getElem_cons_succ, List.getElem_cons_zero]
              refine wp_append_row _ _ 32 (by rfl) w1.heap.size 5 i0 (.int .u8 0) 1 Try.underlying32 hi hz0 hz1 hz2 rfl (.slice A5' N5 c5') N5 (u8s out ++ [.int .u8 (kb : Nat)]) (by rfl) m2 Aw pk.length cw (bv pk) (by rfl) hAw hcw (BRow.of_own m3 rfl) (fun _ => rfl) (by simp only [maxLen]; omega) (by omega) (by have := hgr5.size; simp at this; omega) ?_
              intro v6 y6 r2 hgr6
              have r1 := m1.grown hgr6 (row_ne m2 m1 (by decide))
              have r4 := m4.grown hgr6 (row_ne m2 m4 (by decide))
              obtain ⟨A6', c6', rfl, -⟩ := r2.sl
              refine hK.out _ _ (.inr ⟨r1.cell 0, r4.cell 0⟩) ?_
              clear hK K
              try simp only [Act.put]
              try simp only [List.setIfInBounds_toArray]
              try simp only [List.set]
              have x0 := r1.cell 0
              have xf := r1.frozen 0
              simp only [List.getElem?_cons_zero] at x0
              refine wpAnyT_op 10 (by kernel_rfl) rfl (by rfl) (fun K hK0 => ?_)
              have hK := Lib.hid hK0
              clear hK0
              try simp only [List.getElem_toArray, List.getElem_cons_succ, List.getElem_cons_zero]
              try go_simp
              refine hK.out _ _ (.inl rfl) ?_
              clear hK K
              try simp only [Act.put]
              try simp only [List.setIfInBounds_toArray]
              try simp only [List.set]
              refine wpAnyT_done (by kernel_rfl) ?_ _
              have hobj : ∀ b o, X'.heap[b]? = some o → b ≠ b5 → (∀ cs fr, o ≠ .cells cs 5 fr) → (y6.setCell ⟨b5, 0, none⟩ (.slice A6' (N5 + pk.length) c6')).heap[b]? = some o := fun b o hb hb5 ho => by
                have hlt : b < X'.heap.size := (Array.getElem?_eq_some_iff.1 hb).1
                have h1 : (wr.drew.alloc (.cells #[.int .u8 (kb : Nat)] 5)).heap[b]? = some o := by
                  refine (Below.heap_alloc _ _ _ (by have := hkj.size; show b < wr.heap.size; omega)).trans ?_
                  exact (hkj.block b hlt).trans hb
                exact set_obj (grown_obj m2 hgr6 (grown_obj n2 hgr5 h1 ho) ho) hb5
              have hsz : X'.heap.size ≤ (y6.setCell ⟨b5, 0, none⟩ (.slice A6' (N5 + pk.length) c6')).heap.size := by
                have h1 := hkj.size
                have h2 := hgr5.size
                have h3 := hgr6.size
                simp [World.setCell] at h2 ⊢
                omega
              have s1 := r1.set 0 (.slice A6' (N5 + pk.length) c6')
              have s2 := ownsRow_far_ne r2 (p := ⟨b5, 0, none⟩) (row_ne r2 r1 (by decide)).symm (.slice A6' (N5 + pk.length) c6')
              have hu : (u8s out ++ [.int .u8 (kb : Nat)]) ++ (List.range pk.length).map (bv pk) = u8s (out ++ (kb :: pk)) := by
                rw [List.append_assoc, u8s_append]
                congr 1
                show _ = .int .u8 (kb : Nat) :: u8s pk
                rw [List.singleton_append]
                congr 1
                apply List.ext_getElem
                · simp [u8s]
                · intro i h1 h2
                  have h3 : i < pk.length := by simpa [u8s] using h2
                  simp [u8s, bv, List.getD, h3]
              have hX : hds ++ rowsB l W (k + 1) = out ++ (kb :: pk) := by rw [HXS.out, ← List.append_assoc, HOE.out, HROW.out]
              have hN6 : (out ++ (kb :: pk)).length = N5 + pk.length := by rw [List.length_append, List.length_cons, ← HN5.out]; omega
              have hBel : Below w.heap.size w (y6.setCell ⟨b5, 0, none⟩ (.slice A6' (N5 + pk.length) c6')) := by
                have h1 : Below w.heap.size w (wr.drew.alloc (.cells #[.int .u8 (kb : Nat)] 5)) := ((g4.trans (hkj.mono g4.size)).drew).alloc (by have := g4.size; have := hkj.size; show w.heap.size ≤ wr.heap.size; omega) _
                have h2 := h1.grown hgr5 h1.size (fun b e => by have := (n2.lt b e).1; omega)
                have h3 := h2.grown hgr6 h2.size (fun b e => by have := (m2.lt b e).1; omega)
                exact h3.setCell (p := ⟨b5, 0, none⟩) (by have := HB5.out; show w.heap.size ≤ b5; omega) _
              rw [hu] at s2
              have k1 : (y6.setCell ⟨b5, 0, none⟩ (.slice A6' (N5 + pk.length) c6')).heap[wa.heap.size]? = Wb.heap[wa.heap.size]? := by
                have e1 := (g3 wa.heap.size (by simp)).trans o1
                exact (hobj _ _ e1 (own_ne (w := X') e1 HG1.out (by decide)) (fun _ _ h => by cases h)).trans o1.symm
              have k2 : (y6.setCell ⟨b5, 0, none⟩ (.slice A6' (N5 + pk.length) c6')).heap[wa.heap.size + 1]? = Wb.heap[wa.heap.size + 1]? := by
                have e1 := (g3 (wa.heap.size + 1) (by simp)).trans o2
                exact (hobj _ _ e1 (own_ne (w := X') e1 HG1.out (by decide)) (fun _ _ h => by cases h)).trans o2.symm
              have k3 : (y6.setCell ⟨b5, 0, none⟩ (.slice A6' (N5 + pk.length) c6')).heap[gr]? = Wb.heap[gr]? := by
                have e1 := (g3 gr (by simp)).trans hrob
                refine (hobj _ _ e1 ?_ (fun _ _ h => by cases h)).trans hrob.symm
                rintro rfl
                have := HG1.out
                unfold Own at this
                rw [e1] at this
                cases this
              refine ⟨⟨hsz, fun i o _ hi hc => hobj i o hi ?_ ?_⟩, ⟨hsz, ?_, ?_⟩, A6', c6', ?_, ?_, ?_, hBel⟩
              · rintro rfl
                have := HG1.out
                unfold Own at this
                rw [hi] at this
                cases this
                cases hc
              · rintro cs' fr' rfl
                cases hc
              · exact k1.trans (g3 wa.heap.size (by simp)).symm
              · exact k2.trans (g3 (wa.heap.size + 1) (by simp)).symm
              · show Own _ b5 32 [.slice A6' (hds ++ rowsB l W (k + 1)).length c6']
                rw [hX, hN6]
                exact s1
              · show World.ownsRow _ _ _ _ (.slice A6' (hds ++ rowsB l W (k + 1)).length c6') (hds ++ rowsB l W (k + 1)).length (u8s (hds ++ rowsB l W (k + 1)))
                rw [hX, hN6]
                exact s2
              · intro b hb
                simp only [List.mem_cons, List.not_mem_nil, or_false] at hb
                rcases hb with rfl | rfl | rfl
                · exact k3
                · exact k1
                · exact k2
        case hdone =>
          rintro D X hD ⟨A, c', g1, g2, -, g4⟩ hDf
          dsimp only at g1 g2
          have hF : hds ++ rowsB l W H = fileB es W H m px := by rw [fileB, HHD2.out, HHDE.out, HLRES.out]
          have HF := Lib.hid hF
          generalize hds ++ rowsB l W H = fl at *
          have x0 := g1.cell 0
          simp only [List.getElem?_cons_zero] at x0
          clear hF
          go_wp2
          refine ⟨by simp, .inl ⟨_, _, rfl, run_takeDeferred hDf, ?_⟩⟩
          refine ⟨_, results_tmp2 rfl _ _ _, .slice A fl.length c', by rfl, ?_, g4.trans (belowK_b (w := Wb) hkwb.size X D _ _ hD hDf rfl rfl)⟩
          rw [← HF.out]
          exact (World.ownsRow.nc g2 (grownBy_putObj' _ D (.deferred none)) (fun r e => by cases e; exact ⟨_, hDf, rfl⟩)).down (by omega)
        case hstop =>
          rintro D c' k X _ _ h _
          exact h.elim
end Go.Proofs.Ytbkcnhbdjllojaa
