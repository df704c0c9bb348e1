/- The document's file of a frame: the walk. -/
import Derived.Test.YtbkcnhbdjllojaaWord
namespace Go.Proofs.Ytbkcnhbdjllojaa
open Go.RowKit Go.Shelf

def foldB (bs : List Bool) : Nat := bs.foldl (fun (a : Nat) (b : Bool) => 2 * a + if b then 1 else 0) 0
theorem foldB_lt {bs : List Bool} (h : bs.length ≤ 8) : foldB bs < 256 := by
  have h1 := foldl_bits_lt bs 0
  have h2 : 2 ^ bs.length ≤ 2 ^ 8 := Nat.pow_le_pow_right (by omega) h
  unfold foldB
  omega
theorem foldB_succ {bs : List Bool} {i : Nat} (h : i < bs.length) : foldB (bs.take (i + 1)) = 2 * foldB (bs.take i) + if bs.getD i false then 1 else 0 := foldl_take_succ h 0
theorem foldB_byte {bs : List Bool} {q : Nat} (h : ((bs.drop (8 * q)).take 8).length = 8) : foldB ((bs.drop (8 * q)).take 8) = byteOf 8 (bs.drop (8 * q)) := by
  have h1 := byteOf_fold 8 ((bs.drop (8 * q)).take 8) 0 h
  have h2 := byteOf_append 8 ((bs.drop (8 * q)).take 8) ((bs.drop (8 * q)).drop 8) (by omega)
  rw [List.take_append_drop] at h2
  unfold foldB
  rw [h1, h2]
  omega
def strLen : Value → Nat
  | .string s => s.size
  | _ => 0
set_option maxRecDepth 100000 in
set_option maxHeartbeats 4000000 in
theorem lfile_any {w : World} {A B : Option Addr} {c d : Nat} {es : List Ent} {px : List Int} (he : EntR w A es) (hr : IRow w B px) (W H m : Nat) (hc : frmC es W H m px = 0) :
    Calls Try.prog 19 #[frmV A es.length c W H m B px.length d] w fun e w' => ∃ V, e = .returned V ∧ BOwn w' w.heap.size V (fileB es W H m px) ∧ Keeps w w' := by
  obtain ⟨i0, hi, hz0, hz1, hz2⟩ := info_parts info_u8
  have hras : rasC W H m px = 0 := Classical.byContradiction fun h => by rw [frmC, if_pos h] at hc; exact h hc
  have hcnt : es.length ≤ 32 := Nat.le_of_not_lt fun h => by rw [frmC, if_neg (by simp [hras]), if_pos h] at hc; cases hc
  have hent : entC none es = 0 := by rw [frmC, if_neg (by simp [hras]), if_neg (by omega)] at hc; exact hc
  obtain ⟨hW, hH, hm, hL, hlen, hg⟩ := rasC_0 hras
  have hsh := entC_short es none hent
  have hel : (es.length : Int) ≤ 32 := by omega
  have hWn : 1 ≤ W ∧ W ≤ 64 := by omega
  have hHn : 1 ≤ H ∧ H ≤ 64 := by omega
  have hmn : 1 ≤ m ∧ m ≤ 65535 := by omega
  obtain ⟨W0, hW0⟩ : ∃ W0, w.alloc (.cells #[.slice A es.length c, .int .i64 (W : Nat), .int .i64 (H : Nat), .int .i64 (m : Nat), .slice B px.length d] 27) = W0 := ⟨_, rfl⟩
  have hb : Own W0 w.heap.size 27 [.slice A es.length c, .int .i64 (W : Nat), .int .i64 (H : Nat), .int .i64 (m : Nat), .slice B px.length d] := hW0 ▸ Own.new w _ _
  have hk0 : Keeps w W0 := hW0 ▸ (Below.refl _ _).alloc (Nat.le_refl _) _
  have HS0 : Hid (W0.heap.size = w.heap.size + 1) := Lib.hid (by rw [← hW0]; simp)
  have HRES := fun w1 (hk : Keeps w w1) => Lib.hid (lresiduals_any (w := w1) (c := d) (hr.below hk) W H m hras)
  have HLN : px.length = H * W := by
    have : ((H * W : Nat) : Int) = (px.length : Int) := by rw [hL]; push_cast; rw [Int.mul_comm]
    omega
  have HRL : Hid ((resI px W m).length = H * W) := Lib.hid (by rw [resI_length, HLN])
  have HRG : Hid (Grey 65535 (resI px W m)) := Lib.hid (fun x hx => by have := resI_grey (px := px) (m := (m : Int)) (by omega) W x hx; omega)
  have HPOS : 1 ≤ H * W := Nat.mul_pos (by omega) (by omega)
  have HFB : Hid (fileB es W H m px = headB es ++ sizesB W H m ++ rowsB (resI px W m) W H) := Lib.hid rfl
  have HLE : Hid (H * W ≤ 4096) := Lib.hid (by omega)
  have HE := Lib.hid he
  have HSH := Lib.hid hsh
  have hfl := flatMap_len es hsh
  have HFL : Hid (∀ j, ((es.take j).flatMap entB).length ≤ 4672) := Lib.hid fun j => by
    have := flatMap_len (es.take j) fun e he => hsh e (List.mem_of_mem_take he)
    have h2 : (es.take j).length ≤ es.length := by simp; omega
    omega
  clear he hr hc hras hcnt hent hL hg hsh hfl hlen HLN hm
  have l0 : (W0.alloc (.cells #[.int .u8 70, .int .u8 82, .int .u8 65, .int .u8 77, .int .u8 69, .int .u8 49, .int .u8 10] 5 (7, 8))).cell? ⟨w.heap.size, 0, none⟩ = some (.slice A es.length c) := (hb.alloc _).cell 0
  have hcv := Lib.run_convert_bytes_const (P := Try.prog) W0 32 5 #[.int .u8 70, .int .u8 82, .int .u8 65, .int .u8 77, .int .u8 69, .int .u8 49, .int .u8 10] 7 7 Try.underlying32 Try.underlying5
  go_enter Try.func19, Try.ntmps19
  go_wp2
  clear hcv l0
  have hR2 : OutR (W0.alloc (.cells #[.int .u8 70, .int .u8 82, .int .u8 65, .int .u8 77, .int .u8 69, .int .u8 49, .int .u8 10] 5 (7, 8))) W0.heap.size 5 (.slice (some ⟨W0.heap.size, 0, none⟩) 7 7) 7 (u8s magicB) := by
    refine .inr ⟨W0.heap.size, rfl, Nat.le_refl _, by simp, rfl, fun j u hj => ?_, _, _, World.alloc_heap_new W0 _⟩
    rw [World.cell?_alloc_mark]
    simpa [u8s, magicB] using hj
  have hK2 : Keeps W0 (W0.alloc (.cells #[.int .u8 70, .int .u8 82, .int .u8 65, .int .u8 77, .int .u8 69, .int .u8 49, .int .u8 10] 5 (7, 8))) := (Below.refl _ _).alloc (Nat.le_refl _) _
  clear hW0
  generalize W0.alloc (.cells #[.int .u8 70, .int .u8 82, .int .u8 65, .int .u8 77, .int .u8 69, .int .u8 49, .int .u8 10] 5 (7, 8)) = W2 at *
  go_loopw [23, 3] (fun i g wr => ∃ (j : Nat) (V : Value), j ≤ es.length ∧ i = .int .i64 (j : Nat) ∧ g = V ∧ OutR wr W0.heap.size 5 V (magicB ++ (es.take j).flatMap entB).length (u8s (magicB ++ (es.take j).flatMap entB)) ∧ Keeps W0 wr) (fun i _ _ => es.length - (intOf i).toNat)
  case atStart => exact ⟨0, _, Nat.zero_le _, rfl, rfl, hR2, hK2⟩
  case round =>
    obtain ⟨j, V, hj, rfl, rfl, hout, hk⟩ := hrel
    by_cases hlt : j < es.length
    · obtain ⟨⟨k, v⟩, hkv⟩ : ∃ e, es[j]? = some e := ⟨_, List.getElem?_eq_getElem hlt⟩
      have hjI : (j : Int) < es.length := by omega
      obtain ⟨B1, o1, rfl, hB1, c1, c2⟩ := (HE.out.below (hk0.trans' hk)) j k v hkv
      have hsz := HSH.out _ (List.mem_of_getElem? hkv)
      have HEN : Hid ((es.take (j + 1)).flatMap entB = (es.take j).flatMap entB ++ entB (k, v)) := Lib.hid (flatMap_take_succ hkv)
      have hfl := HFL.out (j + 1)
      rw [HEN.out, List.length_append] at hfl
      clear hkv
      have ha : (bytesN (k ++ ⟨#[32]⟩ ++ v ++ ⟨#[10]⟩)) = entB (k, v) := by simp only [bytesN_append, entB]; rfl
      have hb' : (k ++ ⟨#[32]⟩ ++ v ++ ⟨#[10]⟩ : ByteArray).size = (entB (k, v)).length := by rw [← ha, bytesN_length]
      have hss : 0 < (entB (k, v)).length := by simp [entB]; omega
      have HA := Lib.hid ha
      have HB := Lib.hid hb'
      have hml : magicB.length = 7 := rfl
      have hol : (magicB ++ (es.take j).flatMap entB).length = 7 + ((es.take j).flatMap entB).length := by rw [List.length_append, hml]
      obtain ⟨A5, c5, rfl⟩ := hout.sl
      generalize hout' : (magicB ++ (es.take j).flatMap entB) = out at *
      have HO' := Lib.hid hout'
      obtain ⟨n, hn⟩ : ∃ n, out.length = n := ⟨_, rfl⟩
      rw [hn] at hout hol ⊢
      have hoI : (n : Int) ≤ 4679 := by omega
      obtain ⟨m5, hm5⟩ : ∃ m5, (entB (k, v)).length = m5 := ⟨_, rfl⟩
      rw [hm5] at hfl HB hss
      have hmI : n + m5 ≤ 5000 := by omega
      have hks : (k.size : Int) ≤ 24 := by have h : k.size ≤ 24 := hsz.1; omega
      have hvs : (v.size : Int) ≤ 120 := by have h : v.size ≤ 120 := hsz.2; omega
      have HN := Lib.hid hn
      have HM := Lib.hid hm5
      obtain ⟨W4, hW4⟩ : ∃ W4, wr.alloc (.cells #[.string k, .string v] 57) = W4 := ⟨_, rfl⟩
      have hb7 : Own W4 wr.heap.size 57 [.string k, .string v] := hW4 ▸ Own.new wr _ _
      have hk4 : Keeps wr W4 := hW4 ▸ (Below.refl _ _).alloc (Nat.le_refl _) _
      have hout4 := hout.keeps hk4
      have n0 := hb7.cell 0
      have n1 := hb7.cell 1
      simp only [List.getElem?_cons_zero, List.getElem?_cons_succ] at n0 n1
      clear ha hb' hml hol hout' hn hm5 hout hsz hfl
      go_wp2_with (at_builtin; refine wpList_append_out_string rfl _ _ 32 9 rfl W0.heap.size 5 i0 Try.underlying32 Try.underlying9 hi hz0 hz1 hz2 _ n (u8s out) rfl hout4 (k ++ ⟨#[32]⟩ ++ v ++ ⟨#[10]⟩) rfl (by rw [HB.out]; exact hss) (by rw [HB.out]; simp only [maxLen]; omega) (by rw [HB.out]; omega) (Nat.le_trans hk.size hk4.size) ?_; intro v' w3 hown3 hgrow; obtain ⟨N5, hN5⟩ : ∃ N5, n + (k ++ ⟨#[32]⟩ ++ v ++ ⟨#[10]⟩ : ByteArray).size = N5 := ⟨_, rfl⟩; rw [hN5] at hown3; have HN5 := Lib.hid hN5; clear hN5; have hk6 := (hk.trans' hk4).grown hgrow (Nat.le_trans hk.size hk4.size) (fun b e => (hout4.lo b e).1))
      go_roundw
      case rel =>
        refine ⟨j + 1, _, by omega, by go_num, rfl, .inl ?_, hk6⟩
        rw [HEN.out, ← List.append_assoc, HO'.out, List.length_append, HN.out, u8s_append, ← HA.out, ← strCells_u8s, HA.out, HM.out, ← HB.out, HN5.out]
        exact hown3
      case measure => simp [intOf]; omega
    · obtain rfl : j = es.length := by omega
      have HHD : Hid (magicB ++ (es.take es.length).flatMap entB ++ [10] = headB es) := Lib.hid (by rw [List.take_length, headB])
      have hfl := HFL.out es.length
      generalize hout' : (magicB ++ (es.take es.length).flatMap entB) = out at *
      have hol : out.length ≤ 4679 := by rw [← hout', List.length_append]; have : magicB.length = 7 := rfl; omega
      obtain ⟨A5, c5, rfl⟩ := hout.sl
      obtain ⟨n, hn⟩ : ∃ n, out.length = n := ⟨_, rfl⟩
      rw [hn] at hout hol ⊢
      have HN := Lib.hid hn
      have hoI : (n : Int) ≤ 4679 := by omega
      clear hout' hn hfl
      have f0 := (hb.below hk).drew
      have f1 := ((hb.below hk).alloc (.cells #[.int .u8 10] 5)).drew
      have hkA : Keeps W0 (wr.alloc (.cells #[.int .u8 10] 5)).drew := Below.drew (hk.alloc hk.size _)
      have houtA : OutR (wr.alloc (.cells #[.int .u8 10] 5)).drew W0.heap.size 5 (.slice A5 n c5) n (u8s out) := hout.keeps (Below.drew ((Below.refl _ _).alloc (Nat.le_refl _) _))
      have HOUT := Lib.hid houtA
      have s0 : wr.drew.cell? ⟨w.heap.size, 1, none⟩ = some (.int .i64 (W : Nat)) ∧ wr.drew.cell? ⟨w.heap.size, 2, none⟩ = some (.int .i64 (H : Nat)) ∧ wr.drew.cell? ⟨w.heap.size, 3, none⟩ = some (.int .i64 (m : Nat)) := ⟨f0.cell 1, f0.cell 2, f0.cell 3⟩
      have s1 : (wr.alloc (.cells #[.int .u8 10] 5)).drew.cell? ⟨w.heap.size, 1, none⟩ = some (.int .i64 (W : Nat)) ∧ (wr.alloc (.cells #[.int .u8 10] 5)).drew.cell? ⟨w.heap.size, 2, none⟩ = some (.int .i64 (H : Nat)) ∧ (wr.alloc (.cells #[.int .u8 10] 5)).drew.cell? ⟨w.heap.size, 3, none⟩ = some (.int .i64 (m : Nat)) := ⟨f1.cell 1, f1.cell 2, f1.cell 3⟩
      clear hout houtA
      go_wp2
      go_region_held3 (fun w' => w'.cell? ⟨w.heap.size, 1, none⟩ = some (.int .i64 (W : Nat)) ∧ w'.cell? ⟨w.heap.size, 2, none⟩ = some (.int .i64 (H : Nat)) ∧ w'.cell? ⟨w.heap.size, 3, none⟩ = some (.int .i64 (m : Nat)))
        (first | (with_reducible exact s0) | (with_reducible exact s1) | (with_reducible exact s2) | (with_reducible exact s3) | (with_reducible exact s4) | (with_reducible exact s5) | fail)
        (first
          | (refine step_append_out (by rfl) _ _ 32 (by rfl) W0.heap.size 5 i0 (.int .u8 0) 1 Try.underlying32 hi hz0 hz1 hz2 rfl (.slice A5 n c5) n (u8s out) (by rfl) HOUT.out ⟨wr.heap.size, 0, none⟩ 1 1 [.int .u8 10] (by rfl) rfl (cell_one_new _ _ _) (by simp [Value.oneCell']) (by omega) (by simp only [maxLen]; omega) (by omega) hkA.size ?_; intro v' w3 hown3 hgrow; obtain ⟨A6, c6, rfl, -⟩ := hown3.sl; have hk3 : Keeps W0 w3 := hkA.grown hgrow hkA.size (fun b e => (HOUT.out.lo b e).1); have f2 := hb.below hk3; have s2 : w3.cell? ⟨w.heap.size, 1, none⟩ = some (.int .i64 (W : Nat)) ∧ w3.cell? ⟨w.heap.size, 2, none⟩ = some (.int .i64 (H : Nat)) ∧ w3.cell? ⟨w.heap.size, 3, none⟩ = some (.int .i64 (m : Nat)) := ⟨f2.cell 1, f2.cell 2, f2.cell 3⟩; have HO3 : Hid (w3.ownsRow W0.heap.size 5 1 (.slice A6 (n + 1) c6) (n + 1) (u8s (out ++ [10]))) := Lib.hid (by rw [u8s_append]; exact hown3))
          | (go_at_call 57; (with_reducible refine (word_any HO3.out (by omega) W (by omega) hk3.size).mono ?_); rintro e w4 ⟨A7, c7, rfl, hown4, hb4⟩; have hk4 : Keeps W0 w4 := hk3.trans hb4; have f3 := hb.below hk4; have s3 : w4.cell? ⟨w.heap.size, 1, none⟩ = some (.int .i64 (W : Nat)) ∧ w4.cell? ⟨w.heap.size, 2, none⟩ = some (.int .i64 (H : Nat)) ∧ w4.cell? ⟨w.heap.size, 3, none⟩ = some (.int .i64 (m : Nat)) := ⟨f3.cell 1, f3.cell 2, f3.cell 3⟩; have HO4 := Lib.hid hown4)
          | (go_at_call 57; (with_reducible refine (word_any HO4.out (by omega) H (by omega) hk4.size).mono ?_); rintro e w5 ⟨A8, c8, rfl, hown5, hb5⟩; have hk5 : Keeps W0 w5 := hk4.trans hb5; have f4 := hb.below hk5; have s4 : w5.cell? ⟨w.heap.size, 1, none⟩ = some (.int .i64 (W : Nat)) ∧ w5.cell? ⟨w.heap.size, 2, none⟩ = some (.int .i64 (H : Nat)) ∧ w5.cell? ⟨w.heap.size, 3, none⟩ = some (.int .i64 (m : Nat)) := ⟨f4.cell 1, f4.cell 2, f4.cell 3⟩; have HO5 := Lib.hid hown5)
          | (go_at_call 57; (with_reducible refine (word_any HO5.out (by omega) m (by omega) hk5.size).mono ?_); rintro e w6 ⟨A9, c9, rfl, hown6, hb6⟩; have hk6 : Keeps W0 w6 := hk5.trans hb6; have f5 := hb.below hk6; have s5 : w6.cell? ⟨w.heap.size, 1, none⟩ = some (.int .i64 (W : Nat)) ∧ w6.cell? ⟨w.heap.size, 2, none⟩ = some (.int .i64 (H : Nat)) ∧ w6.cell? ⟨w.heap.size, 3, none⟩ = some (.int .i64 (m : Nat)) := ⟨f5.cell 1, f5.cell 2, f5.cell 3⟩; have HO6 := Lib.hid hown6))
      have HX : Hid (out ++ [10] ++ fourB W ++ fourB H ++ fourB m = headB es ++ sizesB W H m) := Lib.hid (by rw [← HHD.out]; simp [sizesB])
      have HN6 : Hid (n + 1 + 4 + 4 + 4 = (headB es ++ sizesB W H m).length) := Lib.hid (by rw [← HX.out, ← HN.out]; simp [fourB])
      rw [HX.out, HN6.out] at HO6
      rw [HN6.out]
      have hhl : (headB es ++ sizesB W H m).length ≤ 4700 := by have := HN6.out; omega
      generalize headB es ++ sizesB W H m = hds at *
      have HR6 := HRES _ (hk0.trans' hk6)
      have k1 := f5.cell 1
      have k2 := f5.cell 2
      have k3 := f5.cell 3
      have k4 := f5.cell 4
      simp only [List.getElem?_cons_zero, List.getElem?_cons_succ] at k1 k2 k3 k4
      have HF5 := Lib.hid f5
      clear s0 s1 s2 s3 s4 s5 f0 f1 f2 f3 f4 f5 HO3 HO4 HO5 HOUT hown3 hown4 hown5 hown6 hb4 hb5 hb6 hgrow hkA hk3 hk4 hk5 HHD HX HN6 HN
      go_wp2_with fail
      refine HR6.out.mono ?_
      rintro e w8 ⟨V8, rfl, hV8, hk8⟩
      generalize resI px W m = l at *
      have hkl : Keeps W0 w8 := hk6.trans' hk8
      obtain ⟨g, c8, rfl, -, -, hc8, -, -, -, -⟩ := hV8.open1 (by rw [HRL.out]; omega)
      have HL8 : Hid (w8.ownsRow w6.heap.size 3 1 (.slice (some ⟨g, 0, none⟩) l.length c8) l.length (i64s l)) := Lib.hid hV8
      have HO8 : Hid (w8.ownsRow W0.heap.size 5 1 (.slice A9 hds.length c9) hds.length (u8s hds)) := Lib.hid (HO6.out.keeps hk8)
      have f8 := HF5.out.below hk8
      have k2 := f8.cell 2
      simp only [List.getElem?_cons_zero, List.getElem?_cons_succ] at k2
      clear hV8 f8 k1 k3 k4
      have hW1 : (1 : Int) ≤ W ∧ (W : Int) ≤ 64 := by omega
      have hH1 : (1 : Int) ≤ H ∧ (H : Int) ≤ 64 := by omega
      have HWn := Lib.hid hWn
      have HHn := Lib.hid hHn
      clear hj hlt hoI hol hmn hWn hHn hel HPOS hW hH
      go_wp2
      go_loopw [58, 3] (fun i g' wr => ∃ (y : Nat) (V : Value), y ≤ H ∧ i = .int .i64 (y : Nat) ∧ g' = V ∧ Hid (wr.ownsRow W0.heap.size 5 1 V (hds ++ rowsB l W y).length (u8s (hds ++ rowsB l W y))) ∧ Hid (wr.ownsRow w6.heap.size 3 1 (.slice (some ⟨g, 0, none⟩) l.length c8) l.length (i64s l)) ∧ Keeps W0 wr) (fun i _ _ => H - (intOf i).toNat)
      case atStart => exact ⟨0, _, Nat.zero_le _, rfl, rfl, Lib.hid (by simpa [rowsB] using HO8.out), HL8, hkl⟩
      case round =>
        obtain ⟨y, V, hy, rfl, rfl, HOR, HLR, hk⟩ := hrel
        by_cases hlt : y < H
        · have hyI : (y : Int) < H := by omega
          have hlw : l.length = H * W := HRL.out
          have hyw : y * W + W ≤ H * W := by rw [← Nat.succ_mul]; exact Nat.mul_le_mul_right _ hlt
          have hle := HLE.out
          obtain ⟨q, hq⟩ : ∃ q, y * W = q := ⟨_, rfl⟩
          have hqn : q + W ≤ l.length := by omega
          have em : (y : Int) * W = (q : Int) := by rw [← hq]; push_cast; rfl
          have em2 : ((y : Int) + 1) * W = (q : Int) + W := by rw [Int.add_mul, em, Int.one_mul]
          have hqc : (q : Int) + W ≤ c8 ∧ (0 : Int) ≤ q ∧ (q : Int) ≤ 4096 := by omega
          have hrow : IRow wr (some ⟨g, q, none⟩) (rowOf l W y) := by
            have := Row.sub (IRow.of_own HLR.out rfl) (n := q) (by omega) (m := W) (by omega)
            rw [Nat.zero_add] at this
            rwa [rowOf, hq]
          have hrl : (rowOf l W y).length = W := rowOf_length hlw hlt
          have hgr := rowOf_grey HRG.out W y
          have HXS : Hid (rowsB l W (y + 1) = rowsB l W y ++ rowN (rowOf l W y)) := Lib.hid (rowsB_succ l W y)
          have HROW : Hid (rowN (rowOf l W y) = bestI (rowOf l W y) :: pack (codesB (bestI (rowOf l W y)) ((rowOf l W y).map Int.toNat))) := Lib.hid rfl
          have hrb := rowsB_length_le HRG.out HWn.out.2 y
          have HBEST := lbest_any (c := c8 - q) hrow (by omega) hgr
          have hbl : bestI (rowOf l W y) ≤ 16 := bestU_le (rowOf l W y) 17
          rw [hrl] at HBEST
          have HROWE : Hid ((l.drop q).take W = rowOf l W y) := Lib.hid (by rw [rowOf, hq])
          generalize rowOf l W y = row at *
          generalize bestI row = kb at *
          replace HBEST := Lib.hid HBEST
          have HRL2 := Lib.hid hrl
          have HGR := Lib.hid hgr
          have HROWI := Lib.hid hrow
          have hout : (hds ++ rowsB l W y).length ≤ 100000000 := by rw [List.length_append]; have := HHn.out; have := Nat.mul_le_mul_right 700000 (show y ≤ 64 by omega); omega
          obtain ⟨out, hoe⟩ : ∃ out, hds ++ rowsB l W y = out := ⟨_, rfl⟩
          have HOE : Hid (hds ++ rowsB l W (y + 1) = out ++ rowN row) := Lib.hid (by rw [HXS.out, ← List.append_assoc, hoe])
          rw [hoe] at HOR hout
          obtain ⟨A5, c5, rfl, -⟩ := HOR.out.sl
          obtain ⟨n, hn⟩ : ∃ n, out.length = n := ⟨_, rfl⟩
          rw [hn] at HOR hout ⊢
          have HN := Lib.hid hn
          have k1 := (hb.below hk).cell 1
          simp only [List.getElem?_cons_zero, List.getElem?_cons_succ] at k1
          have hkb : kb ≤ 16 := hbl
          have hw8 : IntKind.u8.wrap (kb : Int) = kb := IntWalk.u8_in _ (by omega)
          have HWH := Lib.hid (show l.length = H * W from hlw)
          have HQN := Lib.hid hqn
          clear hq hrb hrl hgr hrow hn hoe hlw hle hbl hqn hyw k2
          go_wp2_with fail
          refine HBEST.out.mono ?_
          rintro e wb ⟨rfl, rfl⟩
          obtain ⟨W4, hW4⟩ : ∃ W4, wb.alloc (.cells #[.int .u8 (kb : Nat)] 5) = W4 := ⟨_, rfl⟩
          have hO4 : W4.ownsRow W0.heap.size 5 1 (.slice A5 n c5) n (u8s out) := hW4 ▸ HOR.out.alloc _
          have hL4 : W4.ownsRow w6.heap.size 3 1 (.slice (some ⟨g, 0, none⟩) l.length c8) l.length (i64s l) := hW4 ▸ HLR.out.alloc _
          have hk4 : Keeps W0 W4 := hW4 ▸ hk.alloc hk.size _
          have hnews : ∀ (j : Nat) (u : Value), [(Value.int .u8 (kb : Nat))][j]? = some u → W4.cell? ((⟨wb.heap.size, 0, none⟩ : Addr).add j) = some u := hW4 ▸ cell_one_new wb (.int .u8 (kb : Nat)) 5
          have HO4 := Lib.hid hO4
          have HL4 := Lib.hid hL4
          clear hO4 hL4 HOR HLR
          go_wp2_with (at_builtin; refine wpList_append_own _ rfl _ _ 32 rfl W0.heap.size 5 i0 (.int .u8 0) 1 1 Try.underlying32 hi hz0 hz1 hz2 rfl (by decide) _ _ _ rfl HO4.out ⟨wb.heap.size, 0, none⟩ 1 1 [.int .u8 (kb : Nat)] rfl rfl hnews (by simp [Value.oneCell']) (by simp only [maxLen]; omega) (by omega) hk4.size ?_; intro v' w3 hown3 hgrow hnil; obtain ⟨A6, c6, rfl, -⟩ := hown3.sl)
          have HL3 : Hid (w3.ownsRow w6.heap.size 3 1 (.slice (some ⟨g, 0, none⟩) l.length c8) l.length (i64s l)) := Lib.hid (HL4.out.turn (Turn.of_grown hgrow) (rows_ne HL4.out HO4.out (by decide)))
          have hk3 : Keeps W0 w3 := hk4.grown hgrow hk4.size (fun b e => (HO4.out.lt b e).1)
          have HO3 : Hid (w3.ownsRow W0.heap.size 5 1 (.slice A6 (n + 1) c6) (n + 1) (u8s (out ++ [kb]))) := Lib.hid (by rw [u8s_snoc]; exact hown3)
          have HR3 : Hid (IRow w3 (some ⟨g, q, none⟩) row) := Lib.hid (by
            have := Row.sub (IRow.of_own HL3.out rfl) (n := q) (by have := HQN.out; omega) (m := W) HQN.out
            rw [Nat.zero_add, HROWE.out] at this
            exact this)
          clear hown3 hgrow hnil hnews hW4 HL4 HO4 hk4 hk k1 HBEST hw8 hqc
          go_loop [83, 10] (fun i s => ∃ j : Nat, j ≤ W ∧ i = .int .i64 (j : Nat) ∧ s = .string (chB (codesB kb ((row.map Int.toNat).take j)))) (fun i _ => W - (intOf i).toNat)
          case atStart => exact ⟨0, Nat.zero_le _, rfl, rfl⟩
          case round =>
            obtain ⟨j, hj, rfl, rfl⟩ := hrel
            have HNN : Hid (∀ v ∈ row.map Int.toNat, v ≤ 65535) := Lib.hid fun v hv => by
              obtain ⟨x, hx, rfl⟩ := List.mem_map.1 hv
              have := HGR.out x hx
              omega
            have hlen5 : (codesB kb ((row.map Int.toNat).take j)).length ≤ 5000000 := by
              have h1 := codesB_length_le kb ((row.map Int.toNat).take j) (fun v hv => HNN.out v (List.mem_of_mem_take hv)) hkb
              have h2 : ((row.map Int.toNat).take j).length ≤ 64 := by rw [List.length_take]; omega
              omega
            by_cases hjl : j < W
            · have hjI : (j : Int) < W := by omega
              obtain ⟨gb, go', eg, cx⟩ := IRow.at HR3.out (j := j) (by rw [HRL2.out]; exact hjl)
              cases eg
              have hx := HGR.out.get (by omega) j
              have hsn : (row.map Int.toNat).take (j + 1) = (row.map Int.toNat).take j ++ [(row.getD j 0).toNat] := by
                rw [List.take_succ_eq_append_getElem (by rw [List.length_map, HRL2.out]; exact hjl)]
                simp [List.getD, show j < row.length by rw [HRL2.out]; exact hjl]
              obtain ⟨v, hv⟩ : ∃ v : Nat, row.getD j 0 = v := ⟨(row.getD j 0).toNat, by omega⟩
              rw [hv] at cx hx hsn
              have HSN : Hid (codesB kb ((row.map Int.toNat).take (j + 1)) = codesB kb ((row.map Int.toNat).take j) ++ codeB kb v) := Lib.hid (by rw [hsn, Int.toNat_natCast, codesB_snoc])
              clear hsn hv
              generalize codesB kb ((row.map Int.toNat).take j) = pre at *
              obtain ⟨qq, hqq⟩ : ∃ q, v / 2 ^ kb = q := ⟨_, rfl⟩
              have eq : (v : Int) / 2 ^ kb = (qq : Int) := by rw [← hqq]; push_cast; rfl
              have hqv : qq ≤ v := by rw [← hqq]; exact Nat.div_le_self _ _
              have hvb : (v : Int) ≤ 65535 := hx.2
              have hvn : v ≤ 65535 := by omega
              have HC : Hid (codeB kb v = List.replicate qq true ++ false :: lowB kb v) := Lib.hid (by rw [codeB, hqq])
              have HPL := Lib.hid hlen5
              clear hqq hlen5 hx
              go_wp2
              clear eq
              go_loop [90, 10] (fun i s => ∃ r : Nat, r ≤ qq ∧ i = .int .i64 (r : Nat) ∧ s = .string (chB (pre ++ List.replicate r true))) (fun i _ => qq - (intOf i).toNat)
              case atStart => exact ⟨0, Nat.zero_le _, rfl, by simp⟩
              case round =>
                obtain ⟨r, hrr, rfl, rfl⟩ := hrel
                have hsz : (chB (pre ++ List.replicate r true)).size ≤ 5100000 := by rw [chB_size]; have := HPL.out; simp; omega
                have H1 : Hid (chB (pre ++ List.replicate r true) ++ ⟨#[49]⟩ = chB (pre ++ List.replicate (r + 1) true)) := Lib.hid (by rw [chB_one, List.append_assoc, ← replicate_snoc])
                have H0 : Hid (chB (pre ++ List.replicate r true) ++ ⟨#[48]⟩ = chB (pre ++ List.replicate r true ++ [false])) := Lib.hid (chB_zero _)
                by_cases hrl : r < qq
                · have hrI : (r : Int) < qq := by omega
                  generalize chB (pre ++ List.replicate r true) = s at *
                  have hszI : (s.size : Int) ≤ 5100000 := by omega
                  go_wp2
                  go_round
                  case rel => exact ⟨r + 1, by omega, by go_num, by rw [H1.out]⟩
                  case measure => simp [intOf]; omega
                · obtain rfl : r = qq := by omega
                  generalize chB (pre ++ List.replicate r true) = s at *
                  have hszI : (s.size : Int) ≤ 5100000 := by omega
                  go_wp2
                  clear hszI
                  go_loop [13, 10] (fun i s => ∃ (r' : Nat) (ps : List Bool), r' ≤ kb ∧ i = .int .i64 ((r' : Int) - 1) ∧ Hid (ps ++ lowB r' v = lowB kb v) ∧ s = .string (chB (pre ++ List.replicate r true ++ [false] ++ ps))) (fun i _ => (intOf i + 1).toNat)
                  case atStart => exact ⟨kb, [], Nat.le_refl _, by go_num, Lib.hid rfl, by rw [H0.out, List.append_nil]⟩
                  case round =>
                    obtain ⟨r', ps, hr', rfl, HPS, rfl⟩ := hrel
                    have hpl : ps.length ≤ kb := by
                      have := congrArg List.length HPS.out
                      rw [List.length_append, lowB_length, lowB_length] at this
                      omega
                    have hsz2 : (chB (pre ++ List.replicate r true ++ [false] ++ ps)).size ≤ 5200000 := by rw [chB_size]; have := HPL.out; simp; omega
                    have G1 : Hid (chB (pre ++ List.replicate r true ++ [false] ++ ps) ++ ⟨#[49]⟩ = chB (pre ++ List.replicate r true ++ [false] ++ (ps ++ [true]))) := Lib.hid (by rw [chB_one, List.append_assoc])
                    have G0 : Hid (chB (pre ++ List.replicate r true ++ [false] ++ ps) ++ ⟨#[48]⟩ = chB (pre ++ List.replicate r true ++ [false] ++ (ps ++ [false]))) := Lib.hid (by rw [chB_zero, List.append_assoc])
                    have GE : Hid (r' = 0 → chB (pre ++ List.replicate r true ++ [false] ++ ps) = chB (codesB kb ((row.map Int.toNat).take (j + 1)))) := Lib.hid fun h0 => by
                      subst h0
                      have e1 : ps = lowB kb v := by have := HPS.out; rwa [lowB, List.append_nil] at this
                      rw [HSN.out, HC.out, e1]
                      simp
                    generalize chB (pre ++ List.replicate r true ++ [false] ++ ps) = s2 at *
                    have hszI : (s2.size : Int) ≤ 5200000 := by omega
                    by_cases hr0 : 0 < r'
                    · obtain ⟨i, rfl⟩ : ∃ i, r' = i + 1 := ⟨r' - 1, by omega⟩
                      have e1 : ((i + 1 : Nat) : Int) - 1 = (i : Nat) := by omega
                      rw [e1]
                      have hiI : (0 : Int) ≤ i ∧ (i : Int) ≤ 16 := by omega
                      obtain ⟨p, hp⟩ : ∃ p, v / 2 ^ i = p := ⟨_, rfl⟩
                      have eq : (v : Int) / 2 ^ i = (p : Int) := by rw [← hp]; push_cast; rfl
                      have hpv : p ≤ v := by rw [← hp]; exact Nat.div_le_self _ _
                      have hand := and_one p (by omega)
                      have HT : Hid (v.testBit i = decide (p % 2 = 1)) := Lib.hid (by rw [Nat.testBit_eq_decide_div_mod_eq, hp])
                      have hL : ps ++ [v.testBit i] ++ lowB i v = lowB kb v := by rw [← HPS.out, lowB, List.append_assoc]; rfl
                      have n49 : Utf8.encode 49 = ⟨#[49]⟩ := by kernel_rfl
                      have n48 : Utf8.encode 48 = ⟨#[48]⟩ := by kernel_rfl
                      clear hp hsz2 hpl
                      by_cases hbit : p % 2 = 1
                      · have ht : v.testBit i = true := by rw [HT.out]; simp [hbit]
                        rw [ht] at hL
                        have hand1 : bits .and .i64 (p : Int) 1 = 1 := by rw [hand, hbit]; rfl
                        have HL2 := Lib.hid hL
                        clear ht hand hbit hL
                        go_wp2
                        go_round
                        case rel => exact ⟨i, _, by omega, by go_num, HL2, by rw [G1.out]⟩
                        case measure => simp [intOf]
                      · have ht : v.testBit i = false := by rw [HT.out]; simp [hbit]
                        rw [ht] at hL
                        have hand1 : bits .and .i64 (p : Int) 1 = 0 := by rw [hand, show p % 2 = 0 by omega]; rfl
                        have HL2 := Lib.hid hL
                        clear ht hand hbit hL
                        go_wp2
                        go_round
                        case rel => exact ⟨i, _, by omega, by go_num, HL2, by rw [G0.out]⟩
                        case measure => simp [intOf]
                    · obtain rfl : r' = 0 := by omega
                      have e1 : ((0 : Nat) : Int) - 1 = -1 := rfl
                      rw [e1]
                      have HGE := Lib.hid (GE.out rfl)
                      go_wp2
                      go_round
                      case rel => exact ⟨j + 1, by omega, by go_num, by rw [HGE.out]⟩
                      case measure => simp [intOf]; omega
            · obtain rfl : W = j := by omega
              have HALL : Hid ((row.map Int.toNat).take W = row.map Int.toNat) := Lib.hid (List.take_of_length_le (by rw [List.length_map, HRL2.out]; exact Nat.le_refl _))
              rw [HALL.out] at hlen5 ⊢
              obtain ⟨bs, hbs⟩ : ∃ bs, codesB kb (row.map Int.toNat) = bs := ⟨_, rfl⟩
              rw [hbs] at hlen5 ⊢
              have HROW2 : Hid (rowN row = kb :: pack bs) := Lib.hid (by rw [HROW.out, hbs])
              have HBL := Lib.hid hlen5
              clear hbs hlen5
              go_wp2
              go_loop [10] (fun s => ∃ p : Nat, bs.length + p ≤ 8 * ((bs.length + 7) / 8) ∧ s = .string (chB (bs ++ List.replicate p false))) (fun s => 8 * ((bs.length + 7) / 8) - strLen s)
              case atStart => exact ⟨0, by omega, by simp⟩
              case round =>
                obtain ⟨p, hp, rfl⟩ := hrel
                have hM : (chB (bs ++ List.replicate p false)).size = bs.length + p := by rw [chB_size]; simp
                have G0 : Hid (chB (bs ++ List.replicate p false) ++ ⟨#[48]⟩ = chB (bs ++ List.replicate (p + 1) false)) := Lib.hid (by rw [chB_zero, List.append_assoc, ← replicate_snoc])
                obtain ⟨cs, hcs⟩ : ∃ cs, bs ++ List.replicate p false = cs := ⟨_, rfl⟩
                have hcl : cs.length = bs.length + p := by rw [← hcs]; simp
                rw [hcs] at hM G0 ⊢
                obtain ⟨M, hMe⟩ : ∃ M, bs.length + p = M := ⟨_, rfl⟩
                rw [hMe] at hM hcl
                have hbl5 := HBL.out
                have hMI : (M : Int) ≤ 5100000 := by omega
                obtain ⟨r8, hr8⟩ : ∃ r8, M % 8 = r8 := ⟨_, rfl⟩
                have e8 : (M : Int).tmod 8 = (r8 : Int) := by rw [Int.tmod_eq_emod_of_nonneg (by omega)]; omega
                by_cases h8 : r8 = 0
                · subst h8
                  have HPK : Hid (packN (M / 8) cs = pack bs) := Lib.hid (by rw [← hcl]; exact pack_padded hcs.symm (by omega) (by rw [hcl]; exact hr8))
                  obtain ⟨Q, hQ⟩ : ∃ Q, M / 8 = Q := ⟨_, rfl⟩
                  rw [hQ] at HPK
                  have hMQ : M = 8 * Q := by omega
                  have HCL := Lib.hid hcl
                  have HMQ := Lib.hid hMQ
                  have HCS : Hid (∀ q, (chB cs).extract (8 * q) (8 * q + 8) = chB ((cs.drop (8 * q)).take 8)) := Lib.hid fun q => by rw [chB_slice]; congr 2; omega
                  clear hMe hcs hcl hr8 hQ hp G0 hbl5
                  generalize chB cs = s at *
                  go_wp2
                  clear e8
                  go_loopw [14, 3] (fun i g' wr => ∃ (z : Nat) (V : Value), z ≤ Q ∧ i = .int .i64 ((8 * z : Nat) : Int) ∧ g' = V ∧ Hid (wr.ownsRow W0.heap.size 5 1 V (n + 1 + z) (u8s (out ++ [kb] ++ packN z cs))) ∧ Hid (wr.ownsRow w6.heap.size 3 1 (.slice (some ⟨g, 0, none⟩) l.length c8) l.length (i64s l)) ∧ Keeps W0 wr) (fun i _ _ => 8 * Q - (intOf i).toNat)
                  case atStart => exact ⟨0, _, Nat.zero_le _, rfl, rfl, Lib.hid (by simpa [packN] using HO3.out), HL3, hk3⟩
                  case round =>
                    obtain ⟨z, V, hz, rfl, rfl, HOZ, HLZ, hk⟩ := hrel
                    by_cases hzl : z < Q
                    · have hzQ : 8 * z + 8 ≤ M := by omega
                      obtain ⟨A7, c7, rfl, -⟩ := HOZ.out.sl
                      obtain ⟨b8, hb8⟩ : ∃ b8, (cs.drop (8 * z)).take 8 = b8 := ⟨_, rfl⟩
                      have hl8 : b8.length = 8 := by rw [← hb8]; simp; have := HCL.out; omega
                      have HBY : Hid (packN (z + 1) cs = packN z cs ++ [foldB b8]) := Lib.hid (by rw [packN_split, ← hb8, foldB_byte (by rw [hb8]; exact hl8)])
                      have hext := HCS.out z
                      rw [hb8] at hext
                      have HCH : Hid (∀ (i : Nat) (h : i < (chB b8).size), (chB b8)[i].toNat = if b8.getD i false then 49 else 48) := Lib.hid fun i h => chB_get (by rwa [chB_size] at h) h
                      have hsz8 : (chB b8).size = 8 := by rw [chB_size]; exact hl8
                      generalize chB b8 = s8 at *
                      obtain ⟨k8, hk8⟩ : ∃ k8, 8 * z = k8 := ⟨_, rfl⟩
                      rw [hk8] at hext ⊢
                      have h1I : (k8 : Int) + 8 ≤ M := by omega
                      have h2I : (k8 : Int) < M := by omega
                      have HK8 := Lib.hid hk8
                      have HL8 := Lib.hid hl8
                      have HZQ := Lib.hid hzQ
                      clear hb8 hk8 hzQ hl8
                      have hsl : ∀ u, (Instr.slice 9 (.string s) (some (.int .i64 (k8 : Nat))) (some (.int .i64 ((k8 : Int) + 8))) none).run Try.prog u = .ok (.string s8) u := fun u => by
                        rw [run_slice_string (P := Try.prog) u 9 s .i64 .i64 (k8 : Nat) ((k8 : Int) + 8) Try.underlying9 (by omega) (by omega) (by rw [hM]; omega), Int.toNat_natCast, show ((k8 : Int) + 8).toNat = k8 + 8 by omega, hext]
                      go_wp2
                      go_loopw [15] (fun a w' => ∃ pos : Nat, pos ≤ 8 ∧ w' = wr.iter s8 pos ∧ a = .int .i64 ((foldB (b8.take pos) : Nat) : Int)) (fun _ w' => 8 - w'.iterPos wr.heap.size)
                      case atStart => exact ⟨0, by omega, rfl, rfl⟩
                      case round =>
                        obtain ⟨pos, hp8, rfl, rfl⟩ := hrel
                        by_cases hpl : pos < 8
                        · have hps : pos < s8.size := by rw [hsz8]; exact hpl
                          have hch := HCH.out pos hps
                          have hfs := foldB_succ (bs := b8) (i := pos) (by rw [HL8.out]; exact hpl)
                          have hfl := foldB_lt (bs := b8.take pos) (by rw [List.length_take]; omega)
                          cases hbb : b8.getD pos false with
                          | true =>
                            rw [hbb, if_pos rfl] at hch hfs
                            have hnx : ∀ ty, (Instr.next (.pointer (some ⟨wr.heap.size, 0, none⟩)) true ty).run Try.prog (wr.iter s8 pos) = .ok (.tuple #[.bool true, .int .i64 pos, .int .i32 49]) (wr.iter s8 (pos + 1)) := fun ty => by
                              rw [run_next_ascii wr s8 pos ty hps (by omega), hch]
                              rfl
                            have HFS := Lib.hid hfs
                            generalize foldB (b8.take pos) = a at *
                            clear hfs hch hbb
                            have haI : (a : Int) < 256 := by omega
                            go_wp2
                            go_roundw
                            case rel => exact ⟨pos + 1, by omega, rfl, by rw [HFS.out]; go_num⟩
                            case measure => simp; omega
                          | false =>
                            rw [hbb, if_neg (by decide)] at hch hfs
                            have hnx : ∀ ty, (Instr.next (.pointer (some ⟨wr.heap.size, 0, none⟩)) true ty).run Try.prog (wr.iter s8 pos) = .ok (.tuple #[.bool true, .int .i64 pos, .int .i32 48]) (wr.iter s8 (pos + 1)) := fun ty => by
                              rw [run_next_ascii wr s8 pos ty hps (by omega), hch]
                              rfl
                            have HFS := Lib.hid hfs
                            generalize foldB (b8.take pos) = a at *
                            clear hfs hch hbb
                            have haI : (a : Int) < 256 := by omega
                            go_wp2
                            go_roundw
                            case rel => exact ⟨pos + 1, by omega, rfl, by rw [HFS.out]; go_num⟩
                            case measure => simp; omega
                        · obtain rfl : pos = 8 := by omega
                          have hnx : ∀ ty, (Instr.next (.pointer (some ⟨wr.heap.size, 0, none⟩)) true ty).run Try.prog (wr.iter s8 8) = _ := fun ty => run_next_end wr s8 8 ty (by rw [hsz8]; omega)
                          have h8a : b8.take 8 = b8 := List.take_of_length_le (by rw [HL8.out]; exact Nat.le_refl _)
                          have hfl := foldB_lt (bs := b8) (by rw [HL8.out]; exact Nat.le_refl _)
                          rw [h8a]
                          generalize foldB b8 = a at *
                          have hw8 : IntKind.u8.wrap (a : Int) = a := IntWalk.u8_in _ (by omega)
                          obtain ⟨W5, hW5⟩ : ∃ W5, (wr.iter s8 8).alloc (.cells #[.int .u8 (a : Nat)] 5) = W5 := ⟨_, rfl⟩
                          have hO5 : W5.ownsRow W0.heap.size 5 1 (.slice A7 (n + 1 + z) c7) (n + 1 + z) (u8s (out ++ [kb] ++ packN z cs)) := hW5 ▸ ((HOZ.out.alloc (.stringIter s8 8)).alloc _)
                          have hL5 : W5.ownsRow w6.heap.size 3 1 (.slice (some ⟨g, 0, none⟩) l.length c8) l.length (i64s l) := hW5 ▸ ((HLZ.out.alloc (.stringIter s8 8)).alloc _)
                          have hk5 : Keeps W0 W5 := hW5 ▸ ((hk.alloc hk.size (.stringIter s8 8)).alloc (by rw [World.size_alloc]; have := hk.size; omega) _)
                          have hnews : ∀ (j : Nat) (u : Value), [(Value.int .u8 (a : Nat))][j]? = some u → W5.cell? ((⟨(wr.iter s8 8).heap.size, 0, none⟩ : Addr).add j) = some u := hW5 ▸ cell_one_new (wr.iter s8 8) (.int .u8 (a : Nat)) 5
                          have HO5 := Lib.hid hO5
                          have HL5 := Lib.hid hL5
                          have HNW := Lib.hid hnews
                          have hnz : (n : Int) + 1 + z ≤ 200000000 := by omega
                          clear hO5 hL5 hnews hext h1I h2I h8a
                          go_wp2_with (at_builtin; refine wpList_append_own _ rfl _ _ 32 rfl W0.heap.size 5 i0 (.int .u8 0) 1 1 Try.underlying32 hi hz0 hz1 hz2 rfl (by decide) _ _ _ rfl HO5.out _ 1 1 [.int .u8 (a : Nat)] rfl rfl HNW.out (by simp [Value.oneCell']) (by simp only [maxLen]; omega) (by omega) hk5.size ?_; intro v' w7 hown7 hgrow hnil; obtain ⟨A8, c8', rfl, -⟩ := hown7.sl)
                          have HL7 : Hid (w7.ownsRow w6.heap.size 3 1 (.slice (some ⟨g, 0, none⟩) l.length c8) l.length (i64s l)) := Lib.hid (HL5.out.turn (Turn.of_grown hgrow) (rows_ne HL5.out HO5.out (by decide)))
                          have hk7 : Keeps W0 w7 := hk5.grown hgrow hk5.size (fun b e => (HO5.out.lt b e).1)
                          have HO7 : Hid (w7.ownsRow W0.heap.size 5 1 (.slice A8 (n + 1 + z + 1) c8') (n + 1 + z + 1) (u8s (out ++ [kb] ++ packN (z + 1) cs))) := Lib.hid (by rw [HBY.out, ← List.append_assoc, u8s_snoc]; exact hown7)
                          clear hown7 hgrow hnil HNW
                          go_roundw
                          case rel => exact ⟨z + 1, _, by omega, by have := HK8.out; go_num, rfl, HO7, HL7, hk7⟩
                          case measure => have := HK8.out; have := HZQ.out; simp [intOf]; omega
                    · obtain rfl : z = Q := by omega
                      have HOF : Hid (hds ++ rowsB l W (y + 1) = out ++ [kb] ++ packN z cs) := Lib.hid (by rw [HOE.out, HROW2.out, HPK.out]; simp)
                      have HLF : Hid ((hds ++ rowsB l W (y + 1)).length = n + 1 + z) := Lib.hid (by
                        have := HOZ.out.1
                        rw [← HOF.out, u8s_length] at this
                        omega)
                      obtain ⟨A7, c7, rfl, -⟩ := HOZ.out.sl
                      obtain ⟨k8, hk8⟩ : ∃ k8, 8 * z = k8 := ⟨_, rfl⟩
                      rw [hk8]
                      have hkM : (k8 : Int) = M := by omega
                      go_wp2
                      go_roundw
                      case rel => exact ⟨y + 1, _, by omega, by go_num, rfl, by rw [HLF.out, HOF.out]; exact HOZ, HLZ, hk⟩
                      case measure => simp [intOf]; omega
                · have h8' : ((r8 : Int) != 0) = true := by simp; omega
                  have HME := Lib.hid hMe
                  generalize chB cs = s at *
                  have HS1 : Hid ((s ++ ⟨#[48]⟩).size = M + 1) := Lib.hid (by rw [ByteArray.size_append, hM]; rfl)
                  clear hMe
                  go_wp2
                  go_round
                  case rel => exact ⟨p + 1, by have := HME.out; omega, by rw [G0.out]⟩
                  case measure => have := HME.out; simp only [strLen, hM, HS1.out]; omega
        · obtain rfl : y = H := by omega
          obtain ⟨A5, c5, rfl, -⟩ := HOR.out.sl
          go_wp2
          go_ret
          refine ⟨_, rfl, ?_, hk0.trans' hk⟩
          rw [HFB.out]
          exact HOR.out.down (by have := HS0.out; omega)
end Go.Proofs.Ytbkcnhbdjllojaa
