/- The search for a key: the walks. -/
import Derived.Test.YtbkcnhbdjllojaaEntF
namespace Go.Proofs.Ytbkcnhbdjllojaa
open Go.RowKit Go.Shelf

set_option maxRecDepth 100000 in
theorem cmpF_any (k v key : ByteArray) (w : World) :
    Calls Try.prog 80 #[.agg #[.string k, .string v], .string key] w fun e w' => e = .returned (.int .i64 (Lib.compareBytes k.data.toList key.data.toList)) ∧ Keeps w w' := by
  obtain ⟨W1, hW1⟩ : ∃ W1, w.alloc (.cells #[.string k, .string v] 57) = W1 := ⟨_, rfl⟩
  have g1 : Own W1 w.heap.size 57 [.string k, .string v] := hW1 ▸ Own.new w _ _
  have hk1 : Keeps w W1 := hW1 ▸ (Below.refl _ _).alloc (Nat.le_refl _) _
  have x0 := g1.cell 0
  have HC := Lib.hid (Try.strings_Compare k key W1)
  generalize Lib.compareBytes k.data.toList key.data.toList = r at *
  simp only [List.getElem?_cons_zero] at x0
  go_enter Try.func80, Try.ntmps80
  go_wp2_with fail
  refine HC.out.mono ?_
  rintro e w2 ⟨rfl, rfl⟩
  go_wp2
  go_ret
  exact ⟨rfl, hk1⟩
theorem cmpK_lt (k key : ByteArray) : decide (Lib.compareBytes k.data.toList key.data.toList < 0) = sLess k key := by
  rw [sLess, ByteArray.toList_eq, ByteArray.toList_eq]
  exact cmp_lt _ _
theorem cmpK_eq (k key : ByteArray) : (Lib.compareBytes k.data.toList key.data.toList == 0) = isK key k := by
  have h1 := cmp_eq k.data.toList key.data.toList
  rw [isK, ByteArray.toList_eq, ByteArray.toList_eq]
  by_cases h : k.data.toList = key.data.toList
  · rw [h1.2 h, h]; simp
  · have h2 : Lib.compareBytes k.data.toList key.data.toList ≠ 0 := fun e => h (h1.1 e)
    rw [beq_eq_false_iff_ne.2 h2, beq_eq_false_iff_ne.2 h]
def headK (key : ByteArray) : List Ent → Bool
  | [] => false
  | e :: _ => isK key e.1
/-- a list parted by a key -/
structure Parts (key : ByteArray) (es l r : List Ent) : Prop where
  e : es = l ++ r
  lo : AllL l key
  hi : ∀ e ∈ r, sLess e.1 key = false
theorem Parts.below {key : ByteArray} {es l r : List Ent} (h : Parts key es l r) {j : Nat} {k v : ByteArray} (hj : es[j]? = some (k, v)) : sLess k key = decide (j < l.length) := by
  by_cases hl : j < l.length
  · have h1 : l[j]? = some (k, v) := by rw [h.e, List.getElem?_append_left hl] at hj; exact hj
    have := h.lo (k, v) (List.mem_of_getElem? h1)
    simp only at this
    rw [this, decide_eq_true hl]
  · have h1 : r[j - l.length]? = some (k, v) := by rw [h.e, List.getElem?_append_right (by omega)] at hj; exact hj
    have := h.hi (k, v) (List.mem_of_getElem? h1)
    simp only at this
    rw [this, decide_eq_false hl]
theorem run_shr1 (u : World) (x : Nat) (h : x < 18446744073709551616) : (binOp .shr 105 (.int .u64 (x : Nat)) (.int .u64 1)).run Try.prog u = .ok (.int .u64 ((x / 2 : Nat) : Int)) u := by
  have _ := h
  simp [binOp, go_sem]
set_option maxRecDepth 100000 in
set_option maxHeartbeats 1000000 in
theorem bsearch_any {w : World} {A : Option Addr} {c : Nat} {es l r : List Ent} {key : ByteArray} (hE : EntR w A es) (hl : es.length ≤ 1000) (hp : Parts key es l r) :
    Calls Try.prog 79 #[.slice A es.length c, .string key, .func (.func 80) #[] #[]] w fun e w' => e = .returned (.tuple #[.int .i64 (l.length : Nat), .bool (headK key r)]) ∧ Keeps w w' := by
  have hlI : (es.length : Int) ≤ 1000 := by omega
  have HE := Lib.hid hE
  have HP : Hid (Parts key es l r) := Lib.hid hp
  have hll : l.length ≤ es.length := by rw [hp.e]; simp
  clear hE hp
  go_enter Try.func79, Try.ntmps79
  go_wp2
  go_loopw [9, 10] (fun i j wr => ∃ a b : Nat, a ≤ l.length ∧ l.length ≤ b ∧ b ≤ es.length ∧ i = .int .i64 (a : Nat) ∧ j = .int .i64 (b : Nat) ∧ Keeps w wr) (fun i j _ => (intOf j - intOf i).toNat)
  case atStart => exact ⟨0, es.length, Nat.zero_le _, hll, Nat.le_refl _, rfl, rfl, Below.refl _ _⟩
  case round =>
    obtain ⟨a, b, ha, hb, hbe, rfl, rfl, hk⟩ := hrel
    by_cases hlt : a < b
    · have hI : (a : Int) < b := by omega
      obtain ⟨h, hh⟩ : ∃ h, (a + b) / 2 = h := ⟨_, rfl⟩
      have hhb : h < b := by omega
      have hha : a ≤ h := by omega
      obtain ⟨⟨k, v⟩, hkv⟩ : ∃ e, es[h]? = some e := ⟨_, List.getElem?_eq_getElem (by omega)⟩
      obtain ⟨bb, o, rfl, -, c1, c2⟩ := (HE.out.below hk) h k v hkv
      have hsl := HP.out.below hkv
      have HC := Lib.hid (cmpF_any k v key wr)
      have hcl := cmpK_lt k key
      rw [hsl] at hcl
      generalize Lib.compareBytes k.data.toList key.data.toList = cv at *
      have hhI : (h : Int) < es.length := by omega
      have abI : ((a : Int) + b) < 2001 := by omega
      clear hkv hsl
      by_cases hc : cv < 0
      · have hh1 : h < l.length := by rw [decide_eq_true hc] at hcl; exact of_decide_eq_true hcl.symm
        clear hcl
        go_wp2_with fail
        refine HC.out.mono ?_
        rintro e w1 ⟨rfl, hk1⟩
        go_wp2
        go_roundw
        case rel => exact ⟨h + 1, b, by omega, hb, hbe, by go_num, rfl, hk.trans' hk1⟩
        case measure => simp [intOf]; omega
      · have hh1 : l.length ≤ h := by rw [decide_eq_false hc] at hcl; have := of_decide_eq_false hcl.symm; omega
        clear hcl
        go_wp2_with fail
        refine HC.out.mono ?_
        rintro e w1 ⟨rfl, hk1⟩
        go_wp2
        go_roundw
        case rel => exact ⟨a, h, ha, hh1, by omega, rfl, by congr 1; omega, hk.trans' hk1⟩
        case measure => simp [intOf]; omega
    · obtain rfl : a = l.length := by omega
      cases hr : r with
      | nil =>
        have hn : l.length = es.length := by rw [HP.out.e, hr]; simp
        have HR := Lib.hid hr
        have hnI : (l.length : Int) = es.length := by omega
        go_wp2
        go_ret2
        exact ⟨by rw [HR.out]; rfl, hk⟩
      | cons e0 r0 =>
        obtain ⟨k, v⟩ := e0
        have hkv : es[l.length]? = some (k, v) := by rw [HP.out.e, hr, List.getElem?_append_right (Nat.le_refl _), Nat.sub_self]; rfl
        have hln : l.length < es.length := (List.getElem?_eq_some_iff.1 hkv).1
        obtain ⟨bb, o, rfl, -, c1, c2⟩ := (HE.out.below hk) l.length k v hkv
        have HC := Lib.hid (cmpF_any k v key wr)
        have HQ : Hid ((Lib.compareBytes k.data.toList key.data.toList == 0) = headK key ((k, v) :: r0)) := Lib.hid (cmpK_eq k key)
        generalize Lib.compareBytes k.data.toList key.data.toList = cv at *
        have hlnI : (l.length : Int) < es.length := by omega
        have HR := Lib.hid hr
        clear hkv hr
        go_wp2_with fail
        refine HC.out.mono ?_
        rintro e w1 ⟨rfl, hk1⟩
        go_wp2
        go_ret2
        exact ⟨by rw [HR.out, ← HQ.out]; rfl, hk.trans' hk1⟩
set_option maxRecDepth 100000 in
theorem find_any {w : World} {A : Option Addr} {c : Nat} {es l r : List Ent} {key : ByteArray} (hE : EntR w A es) (hl : es.length ≤ 1000) (hp : Parts key es l r) (W H m : Int) (B : Option Addr) (n d : Nat) :
    Calls Try.prog 65 #[frmV A es.length c W H m B n d, .string key] w fun e w' => e = .returned (.tuple #[.int .i64 (l.length : Nat), .bool (headK key r)]) ∧ Keeps w w' := by
  obtain ⟨W1, hW1⟩ : ∃ W1, w.alloc (.cells #[.slice A es.length c, .int .i64 W, .int .i64 H, .int .i64 m, .slice B n d] 27) = W1 := ⟨_, rfl⟩
  have g1 : Own W1 w.heap.size 27 [.slice A es.length c, .int .i64 W, .int .i64 H, .int .i64 m, .slice B n d] := hW1 ▸ Own.new w _ _
  have hk1 : Keeps w W1 := hW1 ▸ (Below.refl _ _).alloc (Nat.le_refl _) _
  have x0 := g1.cell 0
  simp only [List.getElem?_cons_zero] at x0
  have HB := Lib.hid (bsearch_any (c := c) (hE.below hk1) hl hp)
  generalize headK key r = b at *
  clear hE hp
  go_enter Try.func65, Try.ntmps65
  go_wp2_with fail
  refine HB.out.mono ?_
  rintro e w2 ⟨rfl, hk2⟩
  go_wp2
  go_ret2
  exact ⟨rfl, hk1.trans' hk2⟩
end Go.Proofs.Ytbkcnhbdjllojaa
