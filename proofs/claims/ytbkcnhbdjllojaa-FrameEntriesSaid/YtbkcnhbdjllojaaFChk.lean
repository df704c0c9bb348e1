/- Is it a frame? The walks: the program's and the document's. -/
import Derived.Test.YtbkcnhbdjllojaaChk
import Derived.Test.YtbkcnhbdjllojaaKey
import Derived.IntWalk
namespace Go.Proofs.Ytbkcnhbdjllojaa
open Go.RowKit Go.Shelf

abbrev Ent := ByteArray × ByteArray
/-- entries in memory -/
def EntR (w : World) (A : Option Addr) (es : List Ent) : Prop :=
  ∀ j k v, es[j]? = some (k, v) → ∃ B o, A = some ⟨B, o, none⟩ ∧ B < w.heap.size ∧ w.cell? ⟨B, o + j * 2, none⟩ = some (.string k) ∧ w.cell? ⟨B, o + j * 2 + 1, none⟩ = some (.string v)
theorem EntR.below {w w' : World} {A : Option Addr} {es : List Ent} (h : EntR w A es) (hk : Keeps w w') : EntR w' A es := fun j k v hj => by
  obtain ⟨B, o, e, hB, h1, h2⟩ := h j k v hj
  exact ⟨B, o, e, Nat.lt_of_lt_of_le hB hk.size, (hk.cell (p := ⟨B, o + j * 2, none⟩) hB).trans h1, (hk.cell (p := ⟨B, o + j * 2 + 1, none⟩) hB).trans h2⟩
def sLess (a b : ByteArray) : Bool := Op.bytesLess a.toList b.toList
/-- the code of entries behind a key -/
def entC : Option ByteArray → List Ent → Int
  | _, [] => 0
  | p, (k, v) :: r => if keyB k = false then 10 else if (p.all fun q => sLess q k) = false then 5 else if valC v ≠ 0 then valC v else entC (some k) r
def frmC (es : List Ent) (W H m : Int) (px : List Int) : Int := if rasC W H m px ≠ 0 then rasC W H m px else if 32 < es.length then 3 else entC none es
/-- the key ahead of the place j -/
def prevK (es : List Ent) : Nat → Option ByteArray
  | 0 => none
  | j + 1 => (es[j]?).map Prod.fst
theorem bytesLess_tri : ∀ a b : List UInt8, (!Op.bytesLess a b) = (Op.bytesLess b a || b == a)
  | [], [] => by simp [Op.bytesLess]
  | [], _ :: _ => by simp [Op.bytesLess]
  | _ :: _, [] => by simp [Op.bytesLess]
  | x :: a, y :: b => by
    have ih := bytesLess_tri a b
    simp only [Op.bytesLess, List.cons_beq_cons]
    rcases Nat.lt_trichotomy x.toNat y.toNat with h | h | h
    · have h1 : x < y := h
      have h2 : ¬ y < x := fun e => by have : y.toNat < x.toNat := e; omega
      have h3 : ¬ y = x := fun e => by subst e; omega
      simp [h1, h2, h3]
    · have h1 : x = y := UInt8.toNat_inj.1 h
      subst h1
      have h2 : ¬ x < x := fun e => by have : x.toNat < x.toNat := e; omega
      simp [h2, ih]
    · have h1 : y < x := h
      have h2 : ¬ x < y := fun e => by have : x.toNat < y.toNat := e; omega
      have h3 : ¬ x = y := fun e => by subst e; omega
      simp [h1, h2, h3]
theorem entC_key {p : Option ByteArray} {k v : ByteArray} {r : List Ent} (h : keyB k = false) : entC p ((k, v) :: r) = 10 := by rw [entC, if_pos h]
theorem entC_ord {q k v : ByteArray} {r : List Ent} (h : keyB k = true) (h2 : sLess q k = false) : entC (some q) ((k, v) :: r) = 5 := by rw [entC, if_neg (by simp [h]), if_pos (by simp [h2])]
theorem entC_val0 {k v : ByteArray} {r : List Ent} (h : keyB k = true) (h3 : valC v ≠ 0) : entC none ((k, v) :: r) = valC v := by rw [entC, if_neg (by simp [h]), if_neg (by simp), if_pos h3]
theorem entC_valS {q k v : ByteArray} {r : List Ent} (h : keyB k = true) (h2 : sLess q k = true) (h3 : valC v ≠ 0) : entC (some q) ((k, v) :: r) = valC v := by rw [entC, if_neg (by simp [h]), if_neg (by simp [h2]), if_pos h3]
theorem entC_next0 {k v : ByteArray} {r : List Ent} (h : keyB k = true) (h3 : valC v = 0) : entC none ((k, v) :: r) = entC (some k) r := by rw [entC, if_neg (by simp [h]), if_neg (by simp), if_neg (by simp [h3])]
theorem entC_nextS {q k v : ByteArray} {r : List Ent} (h : keyB k = true) (h2 : sLess q k = true) (h3 : valC v = 0) : entC (some q) ((k, v) :: r) = entC (some k) r := by rw [entC, if_neg (by simp [h]), if_neg (by simp [h2]), if_neg (by simp [h3])]
theorem drop_ent {es : List Ent} {j : Nat} {e : Ent} (h : es[j]? = some e) : es.drop j = e :: es.drop (j + 1) := by
  obtain ⟨hlt, rfl⟩ := List.getElem?_eq_some_iff.1 h
  rw [List.drop_eq_getElem_cons hlt]
theorem prevK_succ {es : List Ent} {j : Nat} {k v : ByteArray} (h : es[j]? = some (k, v)) : prevK es (j + 1) = some k := by simp [prevK, h]
theorem run_sge (u : World) (q k : ByteArray) : (binOp .geq 9 (.string q) (.string k)).run Try.prog u = .ok (.bool (!Op.bytesLess q.toList k.toList)) u := by
  simp [binOp, Op.stringOp, go_sem]
theorem run_sle (u : World) (q k : ByteArray) : (binOp .leq 9 (.string k) (.string q)).run Try.prog u = .ok (.bool (!Op.bytesLess q.toList k.toList)) u := by
  rw [bytesLess_tri]
  simp [binOp, Op.stringOp, go_sem]
/-- texts of a bearable length -/
def EntS (es : List Ent) : Prop := ∀ e ∈ es, e.1.size ≤ 1000000 ∧ e.2.size ≤ 1000000

set_option maxRecDepth 100000 in
set_option maxHeartbeats 2000000 in
theorem fcheck_any {w : World} {A B : Option Addr} {c d : Nat} {es : List Ent} {px : List Int} (he : EntR w A es) (hr : IRow w B px) (hs : EntS es) (W H m : Int) (hl : px.length ≤ maxLen) (hel : es.length ≤ maxLen) :
    Calls Try.prog 14 #[.agg #[.slice A es.length c, .int .i64 W, .int .i64 H, .int .i64 m, .slice B px.length d]] w fun e w' => e = .returned (.int .i64 (frmC es W H m px)) ∧ Keeps w w' := by
  have helI : (es.length : Int) ≤ 9223372036854775807 := by simp only [maxLen] at hel; omega
  obtain ⟨W0, hW0⟩ : ∃ W0, w.alloc (.cells #[.slice A es.length c, .int .i64 W, .int .i64 H, .int .i64 m, .slice B px.length d] 27) = W0 := ⟨_, rfl⟩
  have hb : Own W0 w.heap.size 27 [.slice A es.length c, .int .i64 W, .int .i64 H, .int .i64 m, .slice B px.length d] := hW0 ▸ Own.new w _ _
  have l1 : W0.cell? ⟨w.heap.size, 1, none⟩ = some (.int .i64 W) := hb.cell 1
  have l2 : W0.cell? ⟨w.heap.size, 2, none⟩ = some (.int .i64 H) := hb.cell 2
  have l3 : W0.cell? ⟨w.heap.size, 3, none⟩ = some (.int .i64 m) := hb.cell 3
  have l4 : W0.cell? ⟨w.heap.size, 4, none⟩ = some (.slice B px.length d) := hb.cell 4
  have hk0 : Keeps w W0 := hW0 ▸ (Below.refl _ _).alloc (Nat.le_refl _) _
  have HC := Lib.hid (rcheck_any (c := d) (hr.below hk0) W H m hl)
  have HEN := Lib.hid (he.below hk0)
  have HS := Lib.hid hs
  obtain ⟨r, hrr⟩ : ∃ r, rasC W H m px = r := ⟨_, rfl⟩
  rw [hrr] at HC
  have HR : Hid (frmC es W H m px = if r ≠ 0 then r else if 32 < es.length then 3 else entC none es) := Lib.hid (by rw [frmC, hrr])
  clear hrr he hr hs
  by_cases hr0 : r = 0
  · subst hr0
    rw [if_neg (by simp)] at HR
    by_cases t1 : 32 < es.length
    · rw [if_pos t1] at HR
      go_enter Try.func14, Try.ntmps14
      go_wp2_with fail
      refine HC.out.mono ?_
      rintro e w1 ⟨rfl, hk1⟩
      have l0 : w1.cell? ⟨w.heap.size, 0, none⟩ = some (.slice A es.length c) := (hb.below hk1).cell 0
      go_wp2
      go_ret
      exact ⟨by rw [HR.out]; rfl, hk0.trans' hk1⟩
    rw [if_neg t1] at HR
    go_enter Try.func14, Try.ntmps14
    go_wp2_with fail
    refine HC.out.mono ?_
    rintro e w1 ⟨rfl, hk1⟩
    have l0 : w1.cell? ⟨w.heap.size, 0, none⟩ = some (.slice A es.length c) := (hb.below hk1).cell 0
    go_wp2
    clear hW0 l0 l1 l2 l3 l4
    replace hb := hb.below hk1
    replace HEN := Lib.hid (HEN.out.below hk1)
    go_loopw [20] (fun i wr => ∃ j : Nat, j ≤ es.length ∧ i = .int .i64 (j : Nat) ∧ Hid (entC none es = entC (prevK es j) (es.drop j)) ∧ Keeps w1 wr) (fun i _ => es.length - (intOf i).toNat)
    case atStart => exact ⟨0, Nat.zero_le _, rfl, Lib.hid rfl, Below.refl _ _⟩
    case round =>
      obtain ⟨j, hjd, rfl, HE, hk⟩ := hrel
      have l0 : wr.cell? ⟨w.heap.size, 0, none⟩ = some (.slice A es.length c) := (hb.below hk).cell 0
      have hbl := (hb.below hk).lt
      by_cases hlt : j < es.length
      · obtain ⟨⟨k, v⟩, hkv⟩ : ∃ e, es[j]? = some e := ⟨_, List.getElem?_eq_getElem hlt⟩
        obtain ⟨B1, o1, rfl, hB1, c1, c2⟩ := (HEN.out.below hk) j k v hkv
        have hsz := HS.out _ (List.mem_of_getElem? hkv)
        have HK := fun w => Lib.hid (isKey_any k w hsz.1)
        have HV := fun w => Lib.hid (checkText_any v w hsz.2)
        have HPS := Lib.hid (prevK_succ hkv)
        rw [drop_ent hkv] at HE
        obtain ⟨W1, hW1⟩ : ∃ W1, wr.alloc (.cells #[.string k, .string v] 57) = W1 := ⟨_, rfl⟩
        have hb1 : Own W1 wr.heap.size 57 [.string k, .string v] := hW1 ▸ Own.new wr _ _
        have hk2 : Keeps wr W1 := hW1 ▸ (Below.refl _ _).alloc (Nat.le_refl _) _
        have hkk := hk.trans' hk2
        have n0 : W1.cell? ⟨wr.heap.size, 0, none⟩ = some (.string k) := hb1.cell 0
        have n1 : W1.cell? ⟨wr.heap.size, 1, none⟩ = some (.string v) := hb1.cell 1
        have m0 : W1.cell? ⟨w.heap.size, 0, none⟩ = some (.slice (some ⟨B1, o1, none⟩) es.length c) := (hk2.cell (p := ⟨w.heap.size, 0, none⟩) hbl).trans l0
        have hjI : (j : Int) < es.length := by omega
        cases hkb : keyB k with
        | false =>
          have HF := Lib.hid (entC_key (p := prevK es j) (v := v) (r := es.drop (j + 1)) hkb)
          rw [hkb] at HK
          clear hkv
          go_wp2_with fail
          refine (HK _).out.mono ?_
          rintro e w2 ⟨rfl, rfl⟩
          go_wp2
          go_ret
          exact ⟨by rw [HR.out, HE.out, HF.out]; rfl, (hk0.trans' hk1).trans' hkk⟩
        | true =>
          rw [hkb] at HK
          rcases Nat.eq_zero_or_pos j with rfl | hj0
          · have hval : valC v ≠ 0 → entC (prevK es 0) ((k, v) :: es.drop (0 + 1)) = valC v := @entC_val0 k v (es.drop (0 + 1)) hkb
            have hnext : valC v = 0 → entC (prevK es 0) ((k, v) :: es.drop (0 + 1)) = entC (some k) (es.drop (0 + 1)) := @entC_next0 k v (es.drop (0 + 1)) hkb
            clear hkv
            simp only [Nat.zero_mul, Nat.add_zero] at c1 c2
            go_wp2_with fail
            refine (HK _).out.mono ?_
            rintro e w2 ⟨rfl, rfl⟩
            go_wp2
            go_quiet (fail)
            replace HV := HV (w2.drewN nq)
            by_cases h3 : valC v = 0
            · have HN2 := Lib.hid (hnext h3)
              rw [h3] at HV
              clear h3 hval hnext
              go_wp2_with fail
              refine HV.out.mono ?_
              rintro e w2 ⟨rfl, rfl⟩
              go_wp2
              go_roundw
              case rel => exact ⟨0 + 1, by omega, by go_num, by rw [HPS.out]; exact Lib.hid (HE.out.trans HN2.out), below_drewN hkk _⟩
              case measure => simp [intOf]; omega
            · have HF := Lib.hid (hval h3)
              have hne : (valC v != 0) = true := by simpa using h3
              obtain ⟨y, hy⟩ : ∃ y, valC v = y := ⟨_, rfl⟩
              rw [hy] at HV HF hne
              clear hy h3 hval hnext
              go_wp2_with fail
              refine HV.out.mono ?_
              rintro e w2 ⟨rfl, rfl⟩
              go_wp2
              go_ret
              exact ⟨by rw [HR.out, HE.out, HF.out]; rfl, (hk0.trans' hk1).trans' (below_drewN hkk _)⟩
          · obtain ⟨i, hij⟩ : ∃ i : Nat, (j : Int) - 1 = i := ⟨j - 1, by omega⟩
            have hij2 : j = i + 1 := by omega
            obtain ⟨⟨q, u⟩, hqu⟩ : ∃ e, es[i]? = some e := ⟨_, List.getElem?_eq_getElem (by omega)⟩
            obtain ⟨B2, o2, e2, -, q1, -⟩ := (HEN.out.below hkk) i q u hqu
            cases e2
            have hpk : prevK es j = some q := by rw [hij2, prevK_succ hqu]
            rw [hpk] at HE
            have hiI : (i : Int) < es.length := by omega
            have hjp : (0 : Int) < j := by omega
            have hiB : (i : Int) ≤ 32 := by omega
            have hwr : IntKind.i64.wrap (i : Int) = (i : Nat) := IntWalk.i64_in _ (by omega)
            cases hsl : sLess q k with
            | false =>
              have HF := Lib.hid (@entC_ord q k v (es.drop (j + 1)) hkb hsl)
              have hsl2 := fun u => run_sge u q k
              simp only [show Op.bytesLess q.toList k.toList = false from hsl, Bool.not_false] at hsl2
              clear hkv hqu hpk hsl hij2
              go_wp2_with fail
              refine (HK _).out.mono ?_
              rintro e w2 ⟨rfl, rfl⟩
              go_wp2
              go_quiet (fail)
              go_wp2
              go_ret
              exact ⟨by rw [HR.out, HE.out, HF.out]; rfl, (hk0.trans' hk1).trans' (below_drewN hkk _)⟩
            | true =>
              have hval := @entC_valS q k v (es.drop (j + 1)) hkb hsl
              have hnext := @entC_nextS q k v (es.drop (j + 1)) hkb hsl
              have hsl2 := fun u => run_sge u q k
              simp only [show Op.bytesLess q.toList k.toList = true from hsl, Bool.not_true] at hsl2
              clear hkv hqu hpk hsl hij2
              go_wp2_with fail
              refine (HK _).out.mono ?_
              rintro e w2 ⟨rfl, rfl⟩
              go_wp2
              go_quiet (fail)
              replace HV := HV (w2.drewN nq)
              by_cases h3 : valC v = 0
              · have HN2 := Lib.hid (hnext h3)
                rw [h3] at HV
                clear h3 hval hnext
                go_wp2_with fail
                refine HV.out.mono ?_
                rintro e w2 ⟨rfl, rfl⟩
                go_wp2
                go_roundw
                case rel => exact ⟨j + 1, by omega, by go_num, by rw [HPS.out]; exact Lib.hid (HE.out.trans HN2.out), below_drewN hkk _⟩
                case measure => simp [intOf]; omega
              · have HF := Lib.hid (hval h3)
                have hne : (valC v != 0) = true := by simpa using h3
                obtain ⟨y, hy⟩ : ∃ y, valC v = y := ⟨_, rfl⟩
                rw [hy] at HV HF hne
                clear hy h3 hval hnext
                go_wp2_with fail
                refine HV.out.mono ?_
                rintro e w2 ⟨rfl, rfl⟩
                go_wp2
                go_ret
                exact ⟨by rw [HR.out, HE.out, HF.out]; rfl, (hk0.trans' hk1).trans' (below_drewN hkk _)⟩
      · obtain rfl : j = es.length := by omega
        have HE0 := Lib.hid (show entC none es = 0 by rw [HE.out, List.drop_eq_nil_of_le (Nat.le_refl _)]; cases prevK es es.length <;> rfl)
        go_wp2
        go_ret
        exact ⟨by rw [HR.out, HE0.out]; rfl, (hk0.trans' hk1).trans' hk⟩
  · rw [if_pos hr0] at HR
    have hne : (r != 0) = true := by simpa using hr0
    go_enter Try.func14, Try.ntmps14
    go_wp2_with fail
    refine HC.out.mono ?_
    rintro e w1 ⟨rfl, hk1⟩
    go_wp2
    go_ret
    exact ⟨by rw [HR.out]; rfl, hk0.trans' hk1⟩
set_option maxRecDepth 100000 in
set_option maxHeartbeats 2000000 in
theorem dfcheck_any {w : World} {A B : Option Addr} {c d : Nat} {es : List Ent} {px : List Int} (he : EntR w A es) (hr : IRow w B px) (hs : EntS es) (W H m : Int) (hl : px.length ≤ maxLen) (hel : es.length ≤ maxLen) :
    Calls Try.prog 15 #[.agg #[.slice A es.length c, .int .i64 W, .int .i64 H, .int .i64 m, .slice B px.length d]] w fun e w' => e = .returned (.int .i64 (frmC es W H m px)) ∧ Keeps w w' := by
  have helI : (es.length : Int) ≤ 9223372036854775807 := by simp only [maxLen] at hel; omega
  obtain ⟨W0, hW0⟩ : ∃ W0, w.alloc (.cells #[.slice A es.length c, .int .i64 W, .int .i64 H, .int .i64 m, .slice B px.length d] 27) = W0 := ⟨_, rfl⟩
  have hb : Own W0 w.heap.size 27 [.slice A es.length c, .int .i64 W, .int .i64 H, .int .i64 m, .slice B px.length d] := hW0 ▸ Own.new w _ _
  have l1 : W0.cell? ⟨w.heap.size, 1, none⟩ = some (.int .i64 W) := hb.cell 1
  have l2 : W0.cell? ⟨w.heap.size, 2, none⟩ = some (.int .i64 H) := hb.cell 2
  have l3 : W0.cell? ⟨w.heap.size, 3, none⟩ = some (.int .i64 m) := hb.cell 3
  have l4 : W0.cell? ⟨w.heap.size, 4, none⟩ = some (.slice B px.length d) := hb.cell 4
  have hk0 : Keeps w W0 := hW0 ▸ (Below.refl _ _).alloc (Nat.le_refl _) _
  have HC := Lib.hid (dcheck_any (c := d) (hr.below hk0) W H m hl)
  have HEN := Lib.hid (he.below hk0)
  have HS := Lib.hid hs
  obtain ⟨r, hrr⟩ : ∃ r, rasC W H m px = r := ⟨_, rfl⟩
  rw [hrr] at HC
  have HR : Hid (frmC es W H m px = if r ≠ 0 then r else if 32 < es.length then 3 else entC none es) := Lib.hid (by rw [frmC, hrr])
  clear hrr he hr hs
  by_cases hr0 : r = 0
  · subst hr0
    rw [if_neg (by simp)] at HR
    by_cases t1 : 32 < es.length
    · rw [if_pos t1] at HR
      go_enter Try.func15, Try.ntmps15
      go_wp2_with fail
      refine HC.out.mono ?_
      rintro e w1 ⟨rfl, hk1⟩
      have l0 : w1.cell? ⟨w.heap.size, 0, none⟩ = some (.slice A es.length c) := (hb.below hk1).cell 0
      go_wp2
      go_ret
      exact ⟨by rw [HR.out]; rfl, hk0.trans' hk1⟩
    rw [if_neg t1] at HR
    go_enter Try.func15, Try.ntmps15
    go_wp2_with fail
    refine HC.out.mono ?_
    rintro e w1 ⟨rfl, hk1⟩
    have l0 : w1.cell? ⟨w.heap.size, 0, none⟩ = some (.slice A es.length c) := (hb.below hk1).cell 0
    go_wp2
    clear hW0 l0 l1 l2 l3 l4
    replace hb := hb.below hk1
    replace HEN := Lib.hid (HEN.out.below hk1)
    go_loopw [20] (fun i wr => ∃ j : Nat, j ≤ es.length ∧ i = .int .i64 (j : Nat) ∧ Hid (entC none es = entC (prevK es j) (es.drop j)) ∧ Keeps w1 wr) (fun i _ => es.length - (intOf i).toNat)
    case atStart => exact ⟨0, Nat.zero_le _, rfl, Lib.hid rfl, Below.refl _ _⟩
    case round =>
      obtain ⟨j, hjd, rfl, HE, hk⟩ := hrel
      have l0 : wr.cell? ⟨w.heap.size, 0, none⟩ = some (.slice A es.length c) := (hb.below hk).cell 0
      have hbl := (hb.below hk).lt
      by_cases hlt : j < es.length
      · obtain ⟨⟨k, v⟩, hkv⟩ : ∃ e, es[j]? = some e := ⟨_, List.getElem?_eq_getElem hlt⟩
        obtain ⟨B1, o1, rfl, hB1, c1, c2⟩ := (HEN.out.below hk) j k v hkv
        have hsz := HS.out _ (List.mem_of_getElem? hkv)
        have HK := fun w => Lib.hid (keyed_any k w hsz.1)
        have HV := fun w => Lib.hid (valued_any v w hsz.2)
        have HPS := Lib.hid (prevK_succ hkv)
        rw [drop_ent hkv] at HE
        obtain ⟨W1, hW1⟩ : ∃ W1, wr.alloc (.cells #[.string k, .string v] 57) = W1 := ⟨_, rfl⟩
        have hb1 : Own W1 wr.heap.size 57 [.string k, .string v] := hW1 ▸ Own.new wr _ _
        have hk2 : Keeps wr W1 := hW1 ▸ (Below.refl _ _).alloc (Nat.le_refl _) _
        have hkk := hk.trans' hk2
        have n0 : W1.cell? ⟨wr.heap.size, 0, none⟩ = some (.string k) := hb1.cell 0
        have n1 : W1.cell? ⟨wr.heap.size, 1, none⟩ = some (.string v) := hb1.cell 1
        have m0 : W1.cell? ⟨w.heap.size, 0, none⟩ = some (.slice (some ⟨B1, o1, none⟩) es.length c) := (hk2.cell (p := ⟨w.heap.size, 0, none⟩) hbl).trans l0
        have hjI : (j : Int) < es.length := by omega
        cases hkb : keyB k with
        | false =>
          have HF := Lib.hid (entC_key (p := prevK es j) (v := v) (r := es.drop (j + 1)) hkb)
          rw [hkb] at HK
          clear hkv
          go_wp2_with fail
          refine (HK _).out.mono ?_
          rintro e w2 ⟨rfl, rfl⟩
          go_wp2
          go_ret
          exact ⟨by rw [HR.out, HE.out, HF.out]; rfl, (hk0.trans' hk1).trans' hkk⟩
        | true =>
          rw [hkb] at HK
          rcases Nat.eq_zero_or_pos j with rfl | hj0
          · have hval : valC v ≠ 0 → entC (prevK es 0) ((k, v) :: es.drop (0 + 1)) = valC v := @entC_val0 k v (es.drop (0 + 1)) hkb
            have hnext : valC v = 0 → entC (prevK es 0) ((k, v) :: es.drop (0 + 1)) = entC (some k) (es.drop (0 + 1)) := @entC_next0 k v (es.drop (0 + 1)) hkb
            clear hkv
            simp only [Nat.zero_mul, Nat.add_zero] at c1 c2
            go_wp2_with fail
            refine (HK _).out.mono ?_
            rintro e w2 ⟨rfl, rfl⟩
            go_wp2
            go_quiet (fail)
            replace HV := HV (w2.drewN nq)
            by_cases h3 : valC v = 0
            · have HN2 := Lib.hid (hnext h3)
              rw [h3] at HV
              clear h3 hval hnext
              go_wp2_with fail
              refine HV.out.mono ?_
              rintro e w2 ⟨rfl, rfl⟩
              go_wp2
              go_roundw
              case rel => exact ⟨0 + 1, by omega, by go_num, by rw [HPS.out]; exact Lib.hid (HE.out.trans HN2.out), below_drewN hkk _⟩
              case measure => simp [intOf]; omega
            · have HF := Lib.hid (hval h3)
              have hne : (valC v != 0) = true := by simpa using h3
              obtain ⟨y, hy⟩ : ∃ y, valC v = y := ⟨_, rfl⟩
              rw [hy] at HV HF hne
              clear hy h3 hval hnext
              go_wp2_with fail
              refine HV.out.mono ?_
              rintro e w2 ⟨rfl, rfl⟩
              go_wp2
              go_ret
              exact ⟨by rw [HR.out, HE.out, HF.out]; rfl, (hk0.trans' hk1).trans' (below_drewN hkk _)⟩
          · obtain ⟨i, hij⟩ : ∃ i : Nat, (j : Int) - 1 = i := ⟨j - 1, by omega⟩
            have hij2 : j = i + 1 := by omega
            obtain ⟨⟨q, u⟩, hqu⟩ : ∃ e, es[i]? = some e := ⟨_, List.getElem?_eq_getElem (by omega)⟩
            obtain ⟨B2, o2, e2, -, q1, -⟩ := (HEN.out.below hkk) i q u hqu
            cases e2
            have hpk : prevK es j = some q := by rw [hij2, prevK_succ hqu]
            rw [hpk] at HE
            have hiI : (i : Int) < es.length := by omega
            have hjp : (0 : Int) < j := by omega
            have hiB : (i : Int) ≤ 32 := by omega
            have hwr : IntKind.i64.wrap (i : Int) = (i : Nat) := IntWalk.i64_in _ (by omega)
            cases hsl : sLess q k with
            | false =>
              have HF := Lib.hid (@entC_ord q k v (es.drop (j + 1)) hkb hsl)
              have hsl2 := fun u => run_sle u q k
              simp only [show Op.bytesLess q.toList k.toList = false from hsl, Bool.not_false] at hsl2
              clear hkv hqu hpk hsl hij2
              go_wp2_with fail
              refine (HK _).out.mono ?_
              rintro e w2 ⟨rfl, rfl⟩
              go_wp2
              go_quiet (fail)
              go_wp2
              go_ret
              exact ⟨by rw [HR.out, HE.out, HF.out]; rfl, (hk0.trans' hk1).trans' (below_drewN hkk _)⟩
            | true =>
              have hval := @entC_valS q k v (es.drop (j + 1)) hkb hsl
              have hnext := @entC_nextS q k v (es.drop (j + 1)) hkb hsl
              have hsl2 := fun u => run_sle u q k
              simp only [show Op.bytesLess q.toList k.toList = true from hsl, Bool.not_true] at hsl2
              clear hkv hqu hpk hsl hij2
              go_wp2_with fail
              refine (HK _).out.mono ?_
              rintro e w2 ⟨rfl, rfl⟩
              go_wp2
              go_quiet (fail)
              replace HV := HV (w2.drewN nq)
              by_cases h3 : valC v = 0
              · have HN2 := Lib.hid (hnext h3)
                rw [h3] at HV
                clear h3 hval hnext
                go_wp2_with fail
                refine HV.out.mono ?_
                rintro e w2 ⟨rfl, rfl⟩
                go_wp2
                go_roundw
                case rel => exact ⟨j + 1, by omega, by go_num, by rw [HPS.out]; exact Lib.hid (HE.out.trans HN2.out), below_drewN hkk _⟩
                case measure => simp [intOf]; omega
              · have HF := Lib.hid (hval h3)
                have hne : (valC v != 0) = true := by simpa using h3
                obtain ⟨y, hy⟩ : ∃ y, valC v = y := ⟨_, rfl⟩
                rw [hy] at HV HF hne
                clear hy h3 hval hnext
                go_wp2_with fail
                refine HV.out.mono ?_
                rintro e w2 ⟨rfl, rfl⟩
                go_wp2
                go_ret
                exact ⟨by rw [HR.out, HE.out, HF.out]; rfl, (hk0.trans' hk1).trans' (below_drewN hkk _)⟩
      · obtain rfl : j = es.length := by omega
        have HE0 := Lib.hid (show entC none es = 0 by rw [HE.out, List.drop_eq_nil_of_le (Nat.le_refl _)]; cases prevK es es.length <;> rfl)
        go_wp2
        go_ret
        exact ⟨by rw [HR.out, HE0.out]; rfl, (hk0.trans' hk1).trans' hk⟩
  · rw [if_pos hr0] at HR
    have hne : (r != 0) = true := by simpa using hr0
    go_enter Try.func15, Try.ntmps15
    go_wp2_with fail
    refine HC.out.mono ?_
    rintro e w1 ⟨rfl, hk1⟩
    go_wp2
    go_ret
    exact ⟨by rw [HR.out]; rfl, hk0.trans' hk1⟩
end Go.Proofs.Ytbkcnhbdjllojaa
