/- The chapter's example: the walk. -/
import Derived.Test.YtomjnjpehokjbaaGreatDoorMgOf
import Derived.Test.YtomjnjpehokjbaaGreatDoorMgBytes
import Derived.Test.YtomjnjpehokjbaaGreatDoorMgVIdx
import Derived.Lib.SlBytesConst
namespace Go.Proofs.YtomjnjpehokjbaaGreatDoor
open Go.RowKit Go.Shelf
def V5 : List Value := [.int .i64 0, .bool false, .slice none 0 0, .slice none 0 0, .slice none 0 0]
/-- the blocks that the example lays -/
def exW (w : World) : World := ((((w.alloc (.cells #[.int .u32 5] 51)).alloc (.cells #[.int .u8 97, .int .u8 58] 5 (2, 3))).alloc (.cells #[.int .i64 0, .bool false, .slice (some ⟨w.heap.size, 0, none⟩) 1 1, .slice none 0 0, .slice none 0 0, .int .i64 1, .bool false, .slice none 0 0, .slice (some ⟨w.heap.size + 1, 0, none⟩) 2 2, .slice none 0 0, .int .i64 2, .bool false, .slice none 0 0, .slice none 0 0, .slice none 0 0] 30))).alloc (.cells #[.int .i64 2, .bool false, .slice none 0 0, .slice none 0 0, .slice (some ⟨w.heap.size + 1 + 1, 0, none⟩) 3 3] 30)
theorem exW_keeps (w : World) : Keeps w (exW w) := ((((Below.refl _ _).alloc (Nat.le_refl _) _).alloc (by simp) _).alloc (by simp; omega) _).alloc (by simp; omega) _
theorem exW_h0 (w : World) : (exW w).heap[w.heap.size]? = some (.cells #[.int .u32 5] 51 (0, 0)) := by
  unfold exW
  rw [Below.heap_alloc _ _ _ (by simp; omega), Below.heap_alloc _ _ _ (by simp; omega), Below.heap_alloc _ _ _ (by simp)]
  exact heap_alloc_new w _
theorem exW_h1 (w : World) : (exW w).heap[w.heap.size + 1]? = some (.cells #[.int .u8 97, .int .u8 58] 5 (2, 3)) := by
  unfold exW
  rw [Below.heap_alloc _ _ _ (by simp), Below.heap_alloc _ _ _ (by simp)]
  have := heap_alloc_new (w.alloc (.cells #[.int .u32 5] 51)) (.cells #[.int .u8 97, .int .u8 58] 5 (2, 3))
  rwa [World.size_alloc] at this
theorem exW_h2 (w : World) : (exW w).heap[w.heap.size + 1 + 1]? = some (.cells #[.int .i64 0, .bool false, .slice (some ⟨w.heap.size, 0, none⟩) 1 1, .slice none 0 0, .slice none 0 0, .int .i64 1, .bool false, .slice none 0 0, .slice (some ⟨w.heap.size + 1, 0, none⟩) 2 2, .slice none 0 0, .int .i64 2, .bool false, .slice none 0 0, .slice none 0 0, .slice none 0 0] 30 (0, 0)) := by
  unfold exW
  rw [Below.heap_alloc _ _ _ (by simp)]
  have := heap_alloc_new ((w.alloc (.cells #[.int .u32 5] 51)).alloc (.cells #[.int .u8 97, .int .u8 58] 5 (2, 3))) (.cells #[.int .i64 0, .bool false, .slice (some ⟨w.heap.size, 0, none⟩) 1 1, .slice none 0 0, .slice none 0 0, .int .i64 1, .bool false, .slice none 0 0, .slice (some ⟨w.heap.size + 1, 0, none⟩) 2 2, .slice none 0 0, .int .i64 2, .bool false, .slice none 0 0, .slice none 0 0, .slice none 0 0] 30 (0, 0))
  rwa [World.size_alloc, World.size_alloc] at this
theorem exW_h3 (w : World) : Own (exW w) (w.heap.size + 1 + 1 + 1) 30 [.int .i64 2, .bool false, .slice none 0 0, .slice none 0 0, .slice (some ⟨w.heap.size + 1 + 1, 0, none⟩) 3 3] := by
  have := Own.new (((w.alloc (.cells #[.int .u32 5] 51)).alloc (.cells #[.int .u8 97, .int .u8 58] 5 (2, 3))).alloc (.cells #[.int .i64 0, .bool false, .slice (some ⟨w.heap.size, 0, none⟩) 1 1, .slice none 0 0, .slice none 0 0, .int .i64 1, .bool false, .slice none 0 0, .slice (some ⟨w.heap.size + 1, 0, none⟩) 2 2, .slice none 0 0, .int .i64 2, .bool false, .slice none 0 0, .slice none 0 0, .slice none 0 0] 30)) 30 [.int .i64 2, .bool false, .slice none 0 0, .slice none 0 0, .slice (some ⟨w.heap.size + 1 + 1, 0, none⟩) 3 3]
  rwa [World.size_alloc, World.size_alloc, World.size_alloc] at this
theorem lt_of_heap' {w : World} {b : Nat} {o : Obj} (h : w.heap[b]? = some o) : b < w.heap.size := (Array.getElem?_eq_some_iff.1 h).1
/-- the example in memory -/
theorem exW_val (w : World) : ValC anyB 70000 (exW w) exT [.int .i64 2, .bool false, .slice none 0 0, .slice none 0 0, .slice (some ⟨w.heap.size + 1 + 1, 0, none⟩) 3 3] := by
  have h0 := exW_h0 w
  have h1 := exW_h1 w
  have h2 := exW_h2 w
  have hu : U32 (exW w) (.slice (some ⟨w.heap.size, 0, none⟩) 1 1) (dig 5) := by
    rw [dig5]
    refine U32.mk (xs := [5]) (fun _ => ⟨_, 0, rfl, lt_of_heap' h0, fun j hj => ?_⟩) (by simp) (by simp [maxLen]) (fun e => by cases e)
    have : j = 0 := by simp at hj; omega
    subst this
    rw [cell_of_row _ _ _ _ _ _ h0]
    rfl
  have hi : ValC anyB 70000 (exW w) (intT 5) [.int .i64 0, .bool false, .slice (some ⟨w.heap.size, 0, none⟩) 1 1, .slice none 0 0, .slice none 0 0] :=
    ValC.make (n := decide ((5 : Int) < 0)) ⟨by rw [show (5 : Int).natAbs = 5 from rfl, dig5]; decide, by simp, by simp⟩ hu SlK.nil ⟨by simp, by simp [maxLen], fun _ => rfl⟩ ElsC.nil
  have ht : ValC anyB 70000 (exW w) (txtT [97, 58]) [.int .i64 1, .bool false, .slice none 0 0, .slice (some ⟨w.heap.size + 1, 0, none⟩) 2 2, .slice none 0 0] := by
    refine ValC.make ⟨by simp, by simp, by simp⟩ U32.nil ⟨_, 2, rfl, by simp, by simp [maxLen], (fun e => by cases e), fun _ => ⟨_, 0, rfl, lt_of_heap' h1, fun j hj => ?_⟩, fun _ _ _ _ => trivial⟩ ⟨by simp, by simp [maxLen], fun _ => rfl⟩ ElsC.nil
    rw [cell_of_row _ _ _ _ _ _ h1]
    match j, hj with
    | 0, _ => rfl
    | 1, _ => rfl
  have hl : ValC anyB 70000 (exW w) (lstT []) [.int .i64 2, .bool false, .slice none 0 0, .slice none 0 0, .slice none 0 0] :=
    ValC.make ⟨by simp, by simp, by simp⟩ U32.nil SlK.nil ⟨by simp, by simp [maxLen], fun _ => rfl⟩ ElsC.nil
  refine ValC.make (l := [intT 5, txtT [97, 58], lstT []]) ⟨by simp, by simp, by simp⟩ U32.nil SlK.nil ⟨by simp, by simp [maxLen], fun e => by cases e⟩ (fun j x hj => ?_)
  have hc := fun i => cell_of_row (exW w) (w.heap.size + 1 + 1) i _ _ _ h2
  match j, hj with
  | 0, hj =>
    cases hj
    exact ⟨_, 0, _, _, _, _, _, rfl, trivial, lt_of_heap' h2, ⟨hc 0, hc 1, hc 2, hc 3, hc 4⟩, hi⟩
  | 1, hj =>
    cases hj
    exact ⟨_, 0, _, _, _, _, _, rfl, trivial, lt_of_heap' h2, ⟨hc 5, hc 6, hc 7, hc 8, hc 9⟩, ht⟩
  | 2, hj =>
    cases hj
    exact ⟨_, 0, _, _, _, _, _, rfl, trivial, lt_of_heap' h2, ⟨hc 10, hc 11, hc 12, hc 13, hc 14⟩, hl⟩
theorem encode_ok {t : Tr} {cs : List Value} {w : World} (hv : ValC anyB 800000 w t cs) (ht : PowTab w) (hc : chkC t = 0) : Calls Tryz.prog 22 #[.agg cs.toArray] w fun e w' => ∃ A c, e = .returned (.tuple #[.slice A (enD 8 t).length c, .int .i64 0]) ∧ Byt w' A c (enD 8 t) ∧ Keeps w w' :=
  (encode_any hv ht).mono fun e w' ⟨V, he, hk, h1, _⟩ => by
    have hown := h1 hc
    have hs := own8 hown rfl
    obtain ⟨A, c, rfl, -⟩ := id hs
    exact ⟨A, c, by rw [he, hc], hs.map (fun _ _ _ => rfl) (fun _ _ _ => trivial), hk⟩
theorem decode_yes {w : World} {A : Option Addr} {c : Nat} {xs : List UInt8} {t : Tr} (hb : Byt w A c xs) (he : EnvB w.heap.size w) (hl : xs.length ≤ 65536) (ht : decT xs = some t) :
    Calls Tryz.prog 7 #[.slice A xs.length c] w fun e w' => ∃ k n A1 n1 c1 B n2 c2 D n3 c3, e = .returned (.tuple #[.agg #[.int .i64 k, .bool n, .slice A1 n1 c1, .slice B n2 c2, .slice D n3 c3], .int .i64 0]) ∧ ValC anyB 70000 w' t [.int .i64 k, .bool n, .slice A1 n1 c1, .slice B n2 c2, .slice D n3 c3] ∧ Keeps w w' :=
  (decode_any hb he).mono fun _ _ ⟨hk, _, h⟩ => by
    obtain ⟨cs, he, hv⟩ := (h hl).2 t ht
    obtain ⟨k, n, A1, n1, c1, B, n2, c2, D, n3, c3, rfl⟩ := hv.form
    exact ⟨k, n, A1, n1, c1, B, n2, c2, D, n3, c3, he, hv, hk⟩
theorem decode_none {w : World} {A : Option Addr} {c : Nat} {xs : List UInt8} (hb : Byt w A c xs) (he : EnvB w.heap.size w) (hl : xs.length ≤ 65536) (ht : decT xs = none) :
    Calls Tryz.prog 7 #[.slice A xs.length c] w fun e w' => e = .returned (.tuple #[.agg #[.int .i64 0, .bool false, .slice none 0 0, .slice none 0 0, .slice none 0 0], .int .i64 8]) ∧ Keeps w w' :=
  (decode_any hb he).mono fun _ _ ⟨hk, _, h⟩ => ⟨(h hl).1 ht, hk⟩
/-- bytes that a conversion of a constant lays -/
theorem byt_const (w : World) (l : List UInt8) (hl : l.length ≤ 1000) : Byt (w.alloc (.cells (Lib.byteCells l).toArray 5 (l.length, l.length + 1))) (some ⟨w.heap.size, 0, none⟩) l.length l :=
  ⟨_, _, rfl, Nat.le_refl _, by simp only [maxLen]; omega, (fun e => by cases e), fun hp => ⟨_, 0, rfl, by simp, fun j hj => by
    rw [cell_of_row _ _ _ _ _ _ (heap_alloc_new w _), Nat.zero_add, List.getElem?_toArray]
    exact b8_get l j hj⟩, fun _ _ _ _ => trivial⟩
theorem conv_const (w : World) (l : List UInt8) (hl : l.length ≤ 1000) : ∃ W3, (convert 22 22 (.slice (some ⟨w.heap.size, 0, none⟩) l.length l.length)).run Tryz.prog (w.alloc (.cells (Lib.byteCells l).toArray 5)) = .ok (.slice (some ⟨w.heap.size, 0, none⟩) l.length l.length) W3 ∧ Byt W3 (some ⟨w.heap.size, 0, none⟩) l.length l ∧ Keeps w W3 :=
  ⟨_, Lib.run_convert_bytes_const (P := Tryz.prog) w 22 5 (Lib.byteCells l).toArray l.length l.length Tryz.underlying22 Tryz.underlying5, by
    rw [show (Lib.byteCells l).toArray.size = l.length by simp [Lib.byteCells]]
    exact byt_const w l hl, box2 w _⟩
def exI : List Int := [-12, 7]
theorem exI_in : ∀ x ∈ exI, -9223372036854775808 ≤ x ∧ x ≤ 9223372036854775807 := by
  intro x hx
  simp only [exI, List.mem_cons, List.not_mem_nil, or_false] at hx
  omega
theorem byt_string {w : World} {A : Option Addr} {c : Nat} {xs : List UInt8} (h : Byt w A c xs) : (convert 22 9 (.slice A xs.length c)).run Tryz.prog w = .ok (.string ⟨xs.toArray⟩) w := by
  have h1 := (bytesIn8 (SlK.row h) rfl).convert (n8_length xs) c 22 5 9 Tryz.underlying22 Tryz.underlying5 Tryz.underlying9
  rw [str_n8] at h1
  exact h1
set_option maxRecDepth 100000 in
set_option maxHeartbeats 4000000 in
theorem known_any {w : World} (he : EnvB w.heap.size w) : Calls Tryz.prog 6 #[] w fun e w' => e = .returned (.bool true) ∧ Keeps w w' := by
  have HE := Lib.hid he
  have hcv := Lib.run_convert_bytes_const (P := Tryz.prog) (w.alloc (.cells #[.int .u32 5] 51)) 22 5 #[.int .u8 97, .int .u8 58] 2 2 Tryz.underlying22 Tryz.underlying5
  simp only [World.size_alloc] at hcv
  clear he
  go_enter Tryz.func6, Tryz.ntmps6
  go_upto_region 2 with fail
  obtain ⟨W1, hW1⟩ : ∃ W1, exW w = W1 := ⟨_, rfl⟩
  have hk1 : Keeps w W1 := hW1 ▸ exW_keeps w
  have q1 : Own W1 (w.heap.size + 1 + 1 + 1) 30 [.int .i64 2, .bool false, .slice none 0 0, .slice none 0 0, .slice (some ⟨w.heap.size + 1 + 1, 0, none⟩) 3 3] := hW1 ▸ exW_h3 w
  have hv1 : ValC anyB 70000 W1 exT [.int .i64 2, .bool false, .slice none 0 0, .slice none 0 0, .slice (some ⟨w.heap.size + 1 + 1, 0, none⟩) 3 3] := hW1 ▸ exW_val w
  unfold exW at hW1
  rw [hW1]
  clear hcv hW1
  have HV1 := Lib.hid hv1
  have HENC := Lib.hid (encode_ok (hv1.le (by omega)) ((HE.out.keep (hk1.mono (Nat.le_refl _))).1.1) exT_chk)
  rw [exT_enc] at HENC
  clear hv1
  have x0 := q1.cell 0
  have x1 := q1.cell 1
  have x2 := q1.cell 2
  have x3 := q1.cell 3
  have x4 := q1.cell 4
  simp only [List.getElem?_cons_zero, List.getElem?_cons_succ] at x0 x1 x2 x3 x4
  go_wp2_with fail
  refine HENC.out.mono ?_
  rintro e w2 ⟨Ab, cb, rfl, hb, hk2⟩
  have HB := Lib.hid hb
  have hkw2 := hk1.trans' hk2
  have q2 := q1.below hk2
  obtain ⟨W3, hcv3, hb3, hk3⟩ := conv_const w2 wantL (by decide)
  simp only [show (Lib.byteCells wantL).toArray = #[.int .u8 108, .int .u8 51, .int .u8 58, .int .u8 105, .int .u8 53, .int .u8 59, .int .u8 116, .int .u8 50, .int .u8 58, .int .u8 97, .int .u8 58, .int .u8 108, .int .u8 48, .int .u8 58] from rfl, show wantL.length = 14 from rfl] at hcv3 hb3
  have hkw3 := hkw2.trans' hk3
  have HD := Lib.hid (decode_yes (xs := wantL) hb3 ((HE.out.keep (hkw3.mono (Nat.le_refl _))).mono hkw3.size) (by decide) exT_dec)
  rw [show wantL.length = 14 from rfl] at HD
  have HB3 := Lib.hid hk3
  clear hb hb3
  rw [show wantL.length = 14 from rfl]
  go_wp2_with fail
  refine HD.out.mono ?_
  rintro e w4 ⟨k4, n4, A4, m4, c4, B4, l4, e4, D4, j4, f4, rfl, hv4, hk4⟩
  have hkw4 := hkw3.trans' hk4
  obtain ⟨W5, hW5⟩ : ∃ W5, w4.alloc (.cells #[.int .i64 k4, .bool n4, .slice A4 m4 c4, .slice B4 l4 e4, .slice D4 j4 f4] 30) = W5 := ⟨_, rfl⟩
  have hk5 : Keeps w4 W5 := hW5 ▸ box2 w4 _
  have p5 : Own W5 w4.heap.size 30 [.int .i64 k4, .bool n4, .slice A4 m4 c4, .slice B4 l4 e4, .slice D4 j4 f4] := hW5 ▸ Own.new w4 _ _
  have hkw5 := hkw4.trans' hk5
  have HV5 := Lib.hid (hv4.keep hk5)
  obtain ⟨W6, hcv6, hb6, hk6⟩ := conv_const W5 badL (by decide)
  simp only [show (Lib.byteCells badL).toArray = #[.int .u8 105, .int .u8 48, .int .u8 53, .int .u8 59] from rfl, show badL.length = 4 from rfl] at hcv6 hb6
  have hkw6 := hkw5.trans' hk6
  have HD6 := Lib.hid (decode_none (xs := badL) hb6 ((HE.out.keep (hkw6.mono (Nat.le_refl _))).mono hkw6.size) (by decide) bad_dec)
  rw [show badL.length = 4 from rfl] at HD6
  clear hv4 hb6
  go_wp2_with fail
  refine HD6.out.mono ?_
  rintro e w7 ⟨rfl, hk7⟩
  have hkw7 := hkw6.trans' hk7
  go_upto_region 5 with fail
  obtain ⟨W8, hW8⟩ : ∃ W8, w7.alloc (.cells #[.int .i64 0, .bool false, .slice none 0 0, .slice none 0 0, .slice none 0 0] 30) = W8 := ⟨_, rfl⟩
  rw [hW8]
  have hk8 : Keeps w7 W8 := hW8 ▸ box2 w7 _
  obtain ⟨W9, hW9⟩ : ∃ W9, W8.alloc (.cells #[.int .i64 (-12), .int .i64 7] 3) = W9 := ⟨_, rfl⟩
  have hk9 : Keeps W8 W9 := hW9 ▸ box2 W8 _
  have o9 : Own W9 W8.heap.size 3 [.int .i64 (-12), .int .i64 7] := hW9 ▸ Own.new W8 _ _
  have hkw9 := (hkw7.trans' hk8).trans' hk9
  have hI9 : IRow W9 (some ⟨W8.heap.size, 0, none⟩) exI := fun _ => ⟨_, 0, rfl, o9.lt, fun j hj => by
    rw [o9.cell]
    match j, hj with
    | 0, _ => rfl
    | 1, _ => rfl⟩
  have HO := Lib.hid (ofInts_any (c := 2) hI9 exI_in (by decide))
  rw [show exI.length = 2 from rfl] at HO
  clear hW8 hI9 o9
  go_wp2_with fail
  refine HO.out.mono ?_
  rintro e w10 ⟨cs, rfl, hv10, hk10⟩
  obtain ⟨k6, n6, A6, m6, c6, B6, l6, e6, D6, j6, f6, rfl⟩ := hv10.form
  have HT := Lib.hid (toInts_any (hv10.le (by omega)))
  clear hv10
  go_wp2_with fail
  refine HT.out.mono ?_
  rintro e w11 ⟨At, ct, rfl, hIt, hk11⟩
  rw [toIL_ints exI_in] at hIt ⊢
  rw [toIC_ints exI_in, show exI.length = 2 from rfl]
  have hk7w : Keeps w7 w11 := ((hk8.trans' hk9).trans' hk10).trans' hk11
  have hkw11 := hkw7.trans' hk7w
  have hk2w : Keeps w2 w11 := ((((hk3.trans' hk4).trans' hk5).trans' hk6).trans' hk7).trans' hk7w
  have hk5w : Keeps W5 w11 := (hk6.trans' hk7).trans' hk7w
  have hb11 := HB.out.keep hk2w
  have hst := byt_string hb11
  rw [show wantL.length = 14 from rfl] at hst
  have q11 := q2.below hk2w
  have p11 := p5.below hk5w
  have hv11 := (HV1.out.keep hk2).keep hk2w
  have hu11 := HV5.out.keep hk5w
  have HEQ := Lib.hid (vequal_any (N := 70000) (by simp [maxLen]) exT exT _ _ w11 hv11 hu11)
  rw [eqB_refl] at HEQ
  have hq : ((⟨wantL.toArray⟩ : ByteArray).toList == (⟨#[108, 51, 58, 105, 53, 59, 116, 50, 58, 97, 58, 108, 48, 58]⟩ : ByteArray).toList) = true := by
    rw [show (⟨#[108, 51, 58, 105, 53, 59, 116, 50, 58, 97, 58, 108, 48, 58]⟩ : ByteArray) = ⟨wantL.toArray⟩ from rfl]
    simp
  have HIT := Lib.hid hIt
  have HB11 := Lib.hid hb11
  clear hv11 hu11 hIt hb11
  clear x0 x1 x2 x3 x4
  have x0 := q11.cell 0
  have x1 := q11.cell 1
  have x2 := q11.cell 2
  have x3 := q11.cell 3
  have x4 := q11.cell 4
  simp only [List.getElem?_cons_zero, List.getElem?_cons_succ] at x0 x1 x2 x3 x4
  have y0 := p11.cell 0
  have y1 := p11.cell 1
  have y2 := p11.cell 2
  have y3 := p11.cell 3
  have y4 := p11.cell 4
  simp only [List.getElem?_cons_zero, List.getElem?_cons_succ] at y0 y1 y2 y3 y4
  go_wp2_with fail
  refine HEQ.out.mono ?_
  rintro e w12 ⟨rfl, hk12⟩
  obtain ⟨W13, hW13⟩ : ∃ W13, w12.alloc (.cells #[.int .i64 (-12), .int .i64 7] 3) = W13 := ⟨_, rfl⟩
  have hk13 : Keeps w12 W13 := hW13 ▸ box2 w12 _
  have o13 : Own W13 w12.heap.size 3 [.int .i64 (-12), .int .i64 7] := hW13 ▸ Own.new w12 _ _
  have hI13 : IRow W13 (some ⟨w12.heap.size, 0, none⟩) exI := fun _ => ⟨_, 0, rfl, o13.lt, fun j hj => by
    rw [o13.cell]
    match j, hj with
    | 0, _ => rfl
    | 1, _ => rfl⟩
  have hk123 := hk12.trans' hk13
  have HQ := Lib.hid (equalI_any (c := ct) (d := 2) (HIT.out.below hk123) hI13 (n := 2) (m := 2) rfl rfl (by decide) (by decide))
  rw [decide_eq_true (rfl : exI = exI)] at HQ
  clear o13 hI13
  go_wp2_with fail
  refine HQ.out.mono ?_
  rintro e w14 ⟨rfl, hk14⟩
  have hk114 := hk123.trans' hk14
  have HN1 := Lib.hid (isName_any ⟨#[48, 48, 48, 48, 48, 48, 48, 48, 48, 48, 48, 48, 48, 48, 48, 48, 48, 48, 48, 48, 48, 48, 48, 48, 48, 48, 48, 48, 48, 48, 48, 48]⟩ w14 (by decide))
  rw [show isNm (⟨#[48, 48, 48, 48, 48, 48, 48, 48, 48, 48, 48, 48, 48, 48, 48, 48, 48, 48, 48, 48, 48, 48, 48, 48, 48, 48, 48, 48, 48, 48, 48, 48]⟩ : ByteArray).data.toList = true by decide] at HN1
  go_wp2_with fail
  refine HN1.out.mono ?_
  rintro e w15 ⟨rfl, rfl⟩
  have hnm := name_any (c := cb) (SlK.row (HB11.out.keep hk114)) (by decide)
  rw [show wantL.length = 14 from rfl] at hnm
  have HN2 := Lib.hid hnm
  clear hnm
  go_wp2_with fail
  refine HN2.out.mono ?_
  rintro e w16 ⟨rfl, hk16⟩
  have hn3 := isName_any ⟨(nameP wantL).toArray⟩ w16 (by
    have : (nameP wantL).length = 32 := by rw [nameP, nameL_length, digN_length]
    show (nameP wantL).toArray.size ≤ _
    rw [List.size_toArray, this]
    decide)
  rw [show isNm (⟨(nameP wantL).toArray⟩ : ByteArray).data.toList = true from nameP_isNm wantL] at hn3
  have HN3 := Lib.hid hn3
  clear hn3
  go_wp2_with fail
  refine HN3.out.mono ?_
  rintro e w17 ⟨rfl, rfl⟩
  go_wp2
  go_ret
  exact ⟨rfl, (hkw11.trans' hk114).trans' hk16⟩
end Go.Proofs.YtomjnjpehokjbaaGreatDoor
