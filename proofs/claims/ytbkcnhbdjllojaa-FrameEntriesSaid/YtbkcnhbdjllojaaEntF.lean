/- Searching and cloning entries: the walks. -/
import Derived.Test.YtbkcnhbdjllojaaOrdE
import Derived.Test.YtbkcnhbdjllojaaShelf
import Derived.Test.YtbkcnhbdjllojaaLawEnc
import Derived.Lib.SliceRun
namespace Go.Proofs.Ytbkcnhbdjllojaa
open Go.RowKit Go.Shelf

theorem EntR.cells {w : World} {a : Addr} {es : List Ent} (h : EntR w (some a) es) : ∀ j u, (entVs es)[j]? = some u → w.cell? (a.add j) = some u := fun j u hj => by
  have hlt : j < 2 * es.length := by have := (List.getElem?_eq_some_iff.1 hj).1; rwa [entVs_length] at this
  obtain ⟨i, hi⟩ : ∃ i, j = 2 * i ∨ j = 2 * i + 1 := ⟨j / 2, by omega⟩
  obtain ⟨⟨k, v⟩, hkv⟩ : ∃ e, es[i]? = some e := ⟨_, List.getElem?_eq_getElem (by omega)⟩
  obtain ⟨b, o, e, -, c1, c2⟩ := h i k v hkv
  cases e
  obtain ⟨g1, g2⟩ := entVs_get hkv
  rw [addp]
  rcases hi with rfl | rfl
  · rw [g1] at hj
    cases hj
    rw [Nat.mul_comm 2 i]
    exact c1
  · rw [g2] at hj
    cases hj
    rw [← Nat.add_assoc, Nat.mul_comm 2 i]
    exact c2
theorem entVs_one (es : List Ent) : ∀ u ∈ entVs es, u.oneCell' = true := fun u hu => by
  simp only [entVs, List.mem_flatMap] at hu
  obtain ⟨e, -, hu⟩ := hu
  simp only [List.mem_cons, List.not_mem_nil, or_false] at hu
  rcases hu with rfl | rfl <;> rfl
theorem made2e (w : World) (t : TypeId) (size : Nat) : (w.alloc (.cells #[] t)).ownsRow w.heap.size t size (.slice (some ⟨w.heap.size, 0, none⟩) 0 0) 0 [] :=
  World.ownsRow_made w #[] 0 (Nat.le_refl _) (by simp [maxLen]) (by simp)
set_option maxRecDepth 100000 in
set_option maxHeartbeats 1000000 in
/-- slices.Clone of entries -/
theorem cloneE_any {w : World} {A : Option Addr} {c : Nat} {es : List Ent} (hE : EntR w A es) (hl : es.length ≤ 1000) :
    Calls Try.prog 43 #[.slice A es.length c] w fun e w' => ∃ V, e = .returned V ∧ w'.ownsRow w.heap.size 57 2 V es.length (entVs es) ∧ Keeps w w' := by
  obtain ⟨i0, hi, hz0, hz1, hz2⟩ := info_parts info_ent
  have hlI : (es.length : Int) ≤ 1000 := by omega
  have q22 : ∀ (w : World) (a : Option Addr) (n c n' c' : Nat), (binOp .eql 22 (.slice a n c) (.slice none n' c')).run Try.prog w = .ok (.bool a.isNone) w := fun w a n c n' c' => Lib.run_eql_slice_nil w _ _ a n c n' c' Try.underlying22
  cases A with
  | none =>
    have h0 : es = [] := by
      cases es with
      | nil => rfl
      | cons e r => obtain ⟨b, o, h, -⟩ := hE 0 e.1 e.2 rfl; cases h
    subst h0
    clear hE
    go_enter Try.func43, Try.ntmps43
    go_wp2
    go_ret
    exact ⟨_, rfl, World.ownsRow_nil _ _ _ _, Below.refl _ _⟩
  | some a =>
    obtain ⟨W1, hW1⟩ : ∃ W1, w.alloc (.cells #[] 57) = W1 := ⟨_, rfl⟩
    have hown : W1.ownsRow w.heap.size 57 2 (.slice (some ⟨w.heap.size, 0, none⟩) 0 0) 0 [] := hW1 ▸ made2e w _ 2
    have hk1 : Keeps w W1 := hW1 ▸ (Below.refl _ _).alloc (Nat.le_refl _) _
    have HC := Lib.hid (hE.below hk1).cells
    have hel := entVs_length es
    have H1 := Lib.hid (entVs_one es)
    clear hE
    go_enter Try.func43, Try.ntmps43
    go_wp2_with (at_builtin; refine wpList_append_own _ rfl _ _ 22 rfl w.heap.size 57 i0 (.agg #[.string ⟨#[]⟩, .string ⟨#[]⟩]) 2 32 Try.underlying22 hi hz0 hz1 hz2 rfl (by decide) _ _ _ rfl hown a es.length c (entVs es) rfl (by omega) HC.out H1.out (by simp only [maxLen]; omega) (by omega) hk1.size ?_; intro v' w3 hown3 hgrow hnil; obtain ⟨A6, c6, rfl, -⟩ := hown3.sl)
    have hk3 := hk1.grown hgrow hk1.size (fun b e => (hown.lt b e).1)
    rw [Nat.zero_add, List.nil_append] at hown3
    go_wp2
    go_ret
    exact ⟨_, by simp, hown3, hk3⟩
/-- what a function value says of an entry -/
def SaysE (P : Program) (g : Nat) (lb : Array Value) (p : ByteArray → Bool) (B : Nat) (w : World) : Prop := ∀ u, Below B w u → ∀ k v : ByteArray, Calls P g (#[.agg #[.string k, .string v]] ++ lb) u fun e u' => e = .returned (.bool (p k)) ∧ Keeps u u'
def isK (key k : ByteArray) : Bool := k.toList == key.toList
theorem isK_iff {key k : ByteArray} : isK key k = true ↔ k = key := Lib.bytes_beq_iff _ _
theorem isK_not {key k : ByteArray} (h : k ≠ key) : isK key k = false := by
  cases h2 : isK key k with
  | false => rfl
  | true => exact absurd (isK_iff.1 h2) h
set_option maxRecDepth 100000 in
theorem saysL1 {w : World} {b B : Nat} {key : ByteArray} (hb : w.cell? ⟨b, 0, none⟩ = some (.string key)) (hlt : b < B) (hB : B ≤ w.heap.size) : SaysE Try.prog 41 #[.pointer (some ⟨b, 0, none⟩)] (isK key) B w := fun u hk k v => by
  show Calls Try.prog 41 #[.agg #[.string k, .string v], .pointer (some ⟨b, 0, none⟩)] u _
  obtain ⟨W1, hW1⟩ : ∃ W1, u.alloc (.cells #[.string k, .string v] 57) = W1 := ⟨_, rfl⟩
  have g1 : Own W1 u.heap.size 57 [.string k, .string v] := hW1 ▸ Own.new u _ _
  have hk1 : Keeps u W1 := hW1 ▸ (Below.refl _ _).alloc (Nat.le_refl _) _
  have c0 : W1.cell? ⟨b, 0, none⟩ = some (.string key) := ((hk.trans (hk1.mono (Nat.le_trans hB hk.size))).cell (p := ⟨b, 0, none⟩) hlt).trans hb
  have x0 := g1.cell 0
  have hq : (k.toList == key.toList) = isK key k := rfl
  simp only [List.getElem?_cons_zero] at x0
  clear hb
  go_enter Try.func41, Try.ntmps41
  go_wp2
  go_ret
  exact ⟨rfl, hk1⟩
set_option maxRecDepth 100000 in
theorem saysL2 {w : World} {b B : Nat} {key : ByteArray} (hb : w.cell? ⟨b, 0, none⟩ = some (.string key)) (hlt : b < B) (hB : B ≤ w.heap.size) : SaysE Try.prog 44 #[.pointer (some ⟨b, 0, none⟩)] (isK key) B w := fun u hk k v => by
  show Calls Try.prog 44 #[.agg #[.string k, .string v], .pointer (some ⟨b, 0, none⟩)] u _
  obtain ⟨W1, hW1⟩ : ∃ W1, u.alloc (.cells #[.string k, .string v] 57) = W1 := ⟨_, rfl⟩
  have g1 : Own W1 u.heap.size 57 [.string k, .string v] := hW1 ▸ Own.new u _ _
  have hk1 : Keeps u W1 := hW1 ▸ (Below.refl _ _).alloc (Nat.le_refl _) _
  have c0 : W1.cell? ⟨b, 0, none⟩ = some (.string key) := ((hk.trans (hk1.mono (Nat.le_trans hB hk.size))).cell (p := ⟨b, 0, none⟩) hlt).trans hb
  have x0 := g1.cell 0
  have hq : (k.toList == key.toList) = isK key k := rfl
  simp only [List.getElem?_cons_zero] at x0
  clear hb
  go_enter Try.func44, Try.ntmps44
  go_wp2
  go_ret
  exact ⟨rfl, hk1⟩
/-- the place of the first entry with a key -/
def IdxE (key : ByteArray) (es : List Ent) (v : Int) : Prop := (v = -1 ∧ ∀ e ∈ es, e.1 ≠ key) ∨ ∃ l x r, es = l ++ (key, x) :: r ∧ v = (l.length : Int) ∧ ∀ e ∈ l, e.1 ≠ key
set_option maxRecDepth 100000 in
set_option maxHeartbeats 1000000 in
theorem indexE_any {w : World} {A : Option Addr} {c : Nat} {es : List Ent} (hE : EntR w A es) (hl : es.length ≤ 1000) (g : Nat) (lb : Array Value) (he : ∀ args w, (callFunc g args).run Try.prog w = .ok (.enter g args) w) (key : ByteArray) {B : Nat} (hB : B ≤ w.heap.size) (hp : SaysE Try.prog g lb (isK key) B w) :
    Calls Try.prog 40 #[.slice A es.length c, .func (.func g) #[] lb] w fun e w' => ∃ v : Int, e = .returned (.int .i64 v) ∧ IdxE key es v ∧ Keeps w w' := by
  have hlI : (es.length : Int) ≤ 1000 := by omega
  have HP : Hid (SaysE Try.prog g lb (isK key) B w) := Lib.hid hp
  have HE := Lib.hid hE
  clear hE hp
  go_enter Try.func40, Try.ntmps40
  go_wp2
  go_loopw [8] (fun i wr => ∃ k : Nat, k ≤ es.length ∧ i = .int .i64 (k : Nat) ∧ Hid (∀ e ∈ es.take k, e.1 ≠ key) ∧ Keeps w wr) (fun i _ => es.length - (intOf i).toNat)
  case atStart => exact ⟨0, Nat.zero_le _, rfl, Lib.hid (by simp), Below.refl _ _⟩
  case round =>
    obtain ⟨j, hj, rfl, HN, hk⟩ := hrel
    by_cases hlt : j < es.length
    · have hjI : (j : Int) < es.length := by omega
      obtain ⟨⟨k, v⟩, hkv⟩ : ∃ e, es[j]? = some e := ⟨_, List.getElem?_eq_getElem hlt⟩
      obtain ⟨b, o, rfl, -, c1, c2⟩ := (HE.out.below hk) j k v hkv
      have HS := Lib.hid (HP.out wr (hk.mono hB) k v)
      have HKV := Lib.hid hkv
      clear hkv
      go_wp2_with fail
      refine HS.out.mono ?_
      rintro e w1 ⟨rfl, hk1⟩
      cases hq : isK key k with
      | true =>
        have HK := Lib.hid (isK_iff.1 hq)
        clear hq
        go_wp2
        go_ret
        refine ⟨_, rfl, .inr ⟨es.take j, v, es.drop (j + 1), ?_, by rw [List.length_take, Nat.min_eq_left (by omega)], HN.out⟩, hk.trans' hk1⟩
        rw [← HK.out, ← drop_ent HKV.out, List.take_append_drop]
      | false =>
        have HT : Hid (∀ e ∈ es.take (j + 1), e.1 ≠ key) := Lib.hid fun e he => by
          rw [List.take_succ_eq_append_getElem hlt, List.mem_append] at he
          rcases he with he | he
          · exact HN.out e he
          · have h1 : es[j] = (k, v) := (List.getElem?_eq_some_iff.1 HKV.out).2
            rw [h1, List.mem_singleton] at he
            subst he
            intro h2
            rw [isK_iff.2 h2] at hq
            cases hq
        clear hq
        go_wp2
        go_roundw
        case rel => exact ⟨j + 1, by omega, by go_num, HT, hk.trans' hk1⟩
        case measure => simp [intOf]; omega
    · obtain rfl : j = es.length := by omega
      go_wp2
      go_ret
      exact ⟨_, rfl, .inl ⟨rfl, by have := HN.out; rwa [List.take_length] at this⟩, hk⟩
end Go.Proofs.Ytbkcnhbdjllojaa
