/- Stores of five cells into a box of the call's own. No program in sight. codec.reader.count: the walk. codec.reader.value, of nothing and of an integer: the walk. codec.reader.value of a text: the walk. -/
import Derived.Test.YtomjnjpehokjbaaDoorMgRdr
import Derived.Test.YtomjnjpehokjbaaDoorMgTr
import Derived.Test.YtomjnjpehokjbaaDoorMgNum
import Derived.Test.YtomjnjpehokjbaaDoorMgWrtA
import Derived.Lib.SmallJoins
import Derived.Test.YtomjnjpehokjbaaDoorMgText
namespace Go.Proofs.YtomjnjpehokjbaaDoor
open Go.RowKit

abbrev set5 (w : World) (b : Nat) (a x y z v : Value) : World := ((((w.setCell ⟨b, 0, none⟩ a).setCell ⟨b, 1, none⟩ x).setCell ⟨b, 2, none⟩ y).setCell ⟨b, 3, none⟩ z).setCell ⟨b, 4, none⟩ v
section
variable {w w' : World} {b : Nat} {t : TypeId} {a0 x0 y0 z0 v0 a x y z v : Value}
theorem Own.put5 (h : Own w b t [a0, x0, y0, z0, v0]) : Own (set5 w b a x y z v) b t [a, x, y, z, v] := ((((h.set 0 a).set 1 x).set 2 y).set 3 z).set 4 v
theorem set5_block (w : World) (b : Nat) (a x y z v : Value) {k : Nat} (hk : k ≠ b) : (set5 w b a x y z v).heap[k]? = w.heap[k]? := by
  unfold set5
  rw [Below.heap_setCell _ ⟨b, 4, none⟩ v k hk, Below.heap_setCell _ ⟨b, 3, none⟩ z k hk, Below.heap_setCell _ ⟨b, 2, none⟩ y k hk, Below.heap_setCell _ ⟨b, 1, none⟩ x k hk, Below.heap_setCell _ ⟨b, 0, none⟩ a k hk]
theorem set5_size (w : World) (b : Nat) (a x y z v : Value) : (set5 w b a x y z v).heap.size = w.heap.size := by simp [set5, World.setCell]
theorem set5_same32 (h : Own w b t [a0, x0, y0, z0, v0]) (hv : [a0, x0, y0, z0, v0].all noU32 = true) (hn : [a, x, y, z].all noU32 = true) : Same32 w (set5 w b a x y z v) := by
  simp only [List.all_cons, List.all_nil, Bool.and_true, Bool.and_eq_true] at hv hn
  obtain ⟨h0, h1, h2, h3, h4⟩ := hv
  obtain ⟨k0, k1, k2, k3⟩ := hn
  have e1 := h.set 0 a
  have e2 := e1.set 1 x
  have e3 := e2.set 2 y
  have e4 := e3.set 3 z
  have s0 := same32_set h (by simp [h0, h1, h2, h3, h4]) 0 a
  have s1 := same32_set e1 (by simp [k0, h1, h2, h3, h4]) 1 x
  have s2 := same32_set e2 (by simp [k0, k1, h2, h3, h4]) 2 y
  have s3 := same32_set e3 (by simp [k0, k1, k2, h3, h4]) 3 z
  have s4 := same32_set e4 (by simp [k0, k1, k2, k3, h4]) 4 v
  exact Same32.trans s0 (Same32.trans s1 (Same32.trans s2 (Same32.trans s3 s4)))
theorem Turn.setNew {T : List Nat} {p : Addr} (h : Turn T w w') (hp : w.heap.size ≤ p.block) (u : Value) : Turn T w (w'.setCell p u) :=
  ⟨h.os, h.tape, h.output, by simpa [World.setCell] using h.size, fun k hk hn =>
    (Below.heap_setCell w' p u k (by omega)).trans (h.block k hk hn)⟩
theorem Trn.put5 {r : Nat} (h : Trn r w w') (ho : Own w' b t [a0, x0, y0, z0, v0]) (hb : w.heap.size ≤ b) (hv : [a0, x0, y0, z0, v0].all noU32 = true) (hn : [a, x, y, z].all noU32 = true) : Trn r w (set5 w' b a x y z v) :=
  ⟨((((h.1.setNew (p := ⟨b, 0, none⟩) hb a).setNew (p := ⟨b, 1, none⟩) hb x).setNew (p := ⟨b, 2, none⟩) hb y).setNew (p := ⟨b, 3, none⟩) hb z).setNew (p := ⟨b, 4, none⟩) hb v, Same32.trans h.2 (set5_same32 ho hv hn)⟩
theorem Rd.put5 {B r : Nat} {xs : List UInt8} (h : Rd w B r xs) (hr : r ≠ b) (hB : B ≤ b) : Rd (set5 w b a x y z v) B r xs := by
  obtain ⟨h0, b1, o1, c1, h1, h2⟩ := h
  exact ⟨h0, b1, o1, c1, (set5_block w b a x y z v hr).trans h1, h2.map (fun k hk _ => set5_block w b a x y z v (by omega)) (fun _ h _ => h)⟩
theorem ValC.put5 {ok : Nat → Prop} {N : Nat} {u : Tr} {cs : List Value} (h : ValC ok N w u cs) (hb : ¬ ok b) (ho : Own w b t [a0, x0, y0, z0, v0]) (hv : [a0, x0, y0, z0, v0].all noU32 = true) (hn : [a, x, y, z].all noU32 = true) : ValC ok N (set5 w b a x y z v) u cs :=
  h.map (fun _ hk _ => set5_block w b a x y z v (fun e => hb (e ▸ hk))) (set5_same32 ho hv hn) (fun _ h _ => h) (Nat.le_refl _)
end
/-- a value as a failing reader hands it back -/
def NoV (V : Value) : Prop := ∃ k n A n1 c1 B n2 c2 D n3 c3, V = .agg #[.int .i64 k, .bool n, .slice A n1 c1, .slice B n2 c2, .slice D n3 c3]
/-- what the reader hands back -/
def ValPost (B r : Nat) (o : Option (Tr × List UInt8)) (w : World) (e : Ending) (w' : World) : Prop :=
  Trn r w w' ∧ (o = none → ∃ V, NoV V ∧ e = .returned (.tuple #[V, .bool false])) ∧ (∀ t ys, o = some (t, ys) → ∃ cs, e = .returned (.tuple #[.agg cs.toArray, .bool true]) ∧ ValC (newB w.heap.size) 70000 w' t cs ∧ Rd w' B r ys)
theorem valPost_no {B r : Nat} {w w' : World} {V : Value} (h : Trn r w w') (hV : NoV V) : ValPost B r none w (.returned (.tuple #[V, .bool false])) w' := ⟨h, fun _ => ⟨V, hV, rfl⟩, fun t ys h => by cases h⟩
theorem valPost_yes {B r : Nat} {w w' : World} {t : Tr} {ys : List UInt8} {cs : List Value} (h : Trn r w w') (hv : ValC (newB w.heap.size) 70000 w' t cs) (hr : Rd w' B r ys) : ValPost B r (some (t, ys)) w (.returned (.tuple #[.agg cs.toArray, .bool true])) w' :=
  ⟨h, (fun h => by cases h), fun t' ys' h => by cases h; exact ⟨cs, rfl, hv, hr⟩⟩
end Go.Proofs.YtomjnjpehokjbaaDoor

namespace Go.Proofs.YtomjnjpehokjbaaDoor
open Go.RowKit Go.Shelf

/-- the variables that the codec reads, their blocks below B -/
def EnvB (B : Nat) (w : World) : Prop :=
  PowB B w ∧ ((∃ tp p, w.var? Tryd.prog "strconv.ErrSyntax" = some #[.iface tp p]) ∧ 3 < B) ∧ ((∃ tp p, w.var? Tryd.prog "strconv.ErrRange" = some #[.iface tp p]) ∧ 4 < B)
theorem var_keep {B g : Nat} {n : String} {w w' : World} {x : Array Value} (hg : Tryd.prog.globalNamed n = some g) (hlt : g < B) (hb : Below B w w') (h : w.var? Tryd.prog n = some x) : w'.var? Tryd.prog n = some x := by
  unfold World.var? at h ⊢
  rw [hg] at h ⊢
  simp only [Option.bind_some] at h ⊢
  rw [hb.block _ hlt]
  exact h
theorem EnvB.keep {B : Nat} {w w' : World} (h : EnvB B w) (hb : Below B w w') : EnvB B w' := by
  obtain ⟨h1, ⟨⟨tp, p, h2⟩, h3⟩, ⟨tq, q, h4⟩, h5⟩ := h
  exact ⟨h1.keep hb, ⟨⟨tp, p, var_keep (by rfl) h3 hb h2⟩, h3⟩, ⟨⟨tq, q, var_keep (by rfl) h5 hb h4⟩, h5⟩⟩
theorem EnvB.mono {B B' : Nat} {w : World} (h : EnvB B w) (hB : B ≤ B') : EnvB B' w := by
  obtain ⟨⟨h0, h1⟩, ⟨h2, h3⟩, h4, h5⟩ := h
  exact ⟨⟨h0, by omega⟩, ⟨h2, by omega⟩, h4, by omega⟩
theorem EnvB.turn {B r : Nat} {w w' : World} (h : EnvB B w) (ht : Trn r w w') (hr : B ≤ r) (hB : B ≤ w.heap.size) : EnvB B w' := h.keep (ht.below hr hB)
theorem str_eq (a b : List UInt8) : ((⟨a.toArray⟩ : ByteArray).toList == (⟨b.toArray⟩ : ByteArray).toList) = decide (a = b) := by
  rw [Lib.toList_data, Lib.toList_data]
  show (a == b) = decide (a = b)
  by_cases h : a = b
  · subst h; simp
  · simp [h]
theorem below_bytesWorld {w w' : World} {t : TypeId} (h : w' = w ∨ ∃ s, w' = Lib.bytesWorld w t s) : Keeps w w' := by
  rcases h with rfl | ⟨s, rfl⟩
  · exact Below.refl _ _
  · exact Go.Joins.below_bytesWorld _ _ _ _ (Nat.le_refl _)
set_option maxRecDepth 100000 in
set_option maxHeartbeats 1000000 in
theorem count_none {w : World} {B r : Nat} {xs : List UInt8} (h : Rd w B r xs) (he : EnvB B w) (hc : cutM 58 xs = none) :
    Calls Tryd.prog 54 #[.pointer (some ⟨r, 0, none⟩)] w fun e w' => (∃ v : Int, e = .returned (.tuple #[.int .i64 v, .bool false])) ∧ Trn r w w' := by
  have HU := Lib.hid (until_no h 58 (by omega) hc)
  obtain ⟨-, ⟨⟨tp, p, h2⟩, -⟩, -⟩ := he
  have HA := Lib.hid (Tryd.strconv_Atoi_syntax_var ⟨#[]⟩ (by simp [ByteArray.size]) rfl tp p w h2)
  clear h hc h2
  go_enter Tryd.func54, Tryd.ntmps54
  go_wp2_with fail
  refine HU.out.mono ?_
  rintro e w1 ⟨rfl, rfl⟩
  go_wp2_with fail
  refine HA.out.mono ?_
  rintro e w1 ⟨N, rfl, -, -, hk⟩
  go_wp2
  go_ret2
  exact ⟨⟨_, rfl⟩, Trn.keeps hk⟩
/-- what Atoi hands back: a number, or an error -/
def AtoiGives (l : List UInt8) (w : World) (e : Ending) (w' : World) : Prop :=
  Keeps w w' ∧ ((∃ v : Int, Lib.atoiAll l = .ok v ∧ e = .returned (.tuple #[.int .i64 v, .nilIface])) ∨ (∃ (v : Int) (tp : TypeId) (pv : Value), (∀ u, Lib.atoiAll l ≠ .ok u) ∧ e = .returned (.tuple #[.int .i64 v, .iface tp pv])))
theorem atoi_any {B : Nat} {w : World} {l : List UInt8} (he : EnvB B w) (hl : l.length ≤ 1000000000) : Calls Tryd.prog 74 #[.string ⟨l.toArray⟩] w (AtoiGives l w) := by
  have hsz : (⟨l.toArray⟩ : ByteArray).size = l.length := List.size_toArray
  cases h : Lib.atoiAll l
  case ok v =>
    refine (Tryd.strconv_Atoi_ok ⟨l.toArray⟩ (by omega) v h w).mono ?_
    rintro e w' ⟨rfl, hw⟩
    exact ⟨below_bytesWorld hw, .inl ⟨v, h, rfl⟩⟩
  case range =>
    obtain ⟨-, -, ⟨tp, p, h2⟩, -⟩ := he
    refine (Tryd.strconv_Atoi_range_var ⟨l.toArray⟩ (by omega) h tp p w h2).mono ?_
    rintro e w' ⟨N, rfl, -, -, hk⟩
    exact ⟨hk, .inr ⟨_, _, _, (fun u hu => by rw [h] at hu; cases hu), rfl⟩⟩
  · obtain ⟨-, ⟨⟨tp, p, h2⟩, -⟩, -⟩ := he
    refine (Tryd.strconv_Atoi_syntax_var ⟨l.toArray⟩ (by omega) (h.trans rfl) tp p w h2).mono ?_
    rintro e w' ⟨N, rfl, -, -, hk⟩
    exact ⟨hk, .inr ⟨_, _, _, (fun u hu => by rw [h] at hu; cases hu), rfl⟩⟩
set_option maxRecDepth 100000 in
set_option maxHeartbeats 1000000 in
theorem count_some {w : World} {B r : Nat} {xs a t : List UInt8} (h : Rd w B r xs) (he : EnvB B w) (hB : B ≤ w.heap.size) (hl : xs.length ≤ 1000000) (hc : cutM 58 xs = some (a, t)) :
    Calls Tryd.prog 54 #[.pointer (some ⟨r, 0, none⟩)] w fun e w' => (∃ (v : Int) (b : Bool), e = .returned (.tuple #[.int .i64 v, .bool b]) ∧ Hid (∀ n, (b = true ∧ v = (n : Nat)) ↔ cntP a = some n) ∧ Hid (b = true → ∃ n : Nat, v = n)) ∧ Rd w' B r t ∧ Trn r w w' := by
  have HU := Lib.hid (until_yes h 58 (by omega) hc)
  have hal : a.length ≤ 1000000 := by
    have := (cutM_some hc).1
    rw [this] at hl
    simp at hl
    omega
  have hrB := h.1
  have HEV := Lib.hid he
  clear h hc he
  go_enter Tryd.func54, Tryd.ntmps54
  go_wp2_with fail
  refine HU.out.mono ?_
  rintro e w1 ⟨rfl, hr1, ht1⟩
  have HA := Lib.hid (atoi_any (l := a) (HEV.out.turn ht1 hrB hB) (by omega))
  go_wp2_with fail
  refine HA.out.mono ?_
  rintro e w2 ⟨hk2, ⟨v, hv, rfl⟩ | ⟨v, tp, pv, hv, rfl⟩⟩
  · have hr2 := hr1.keep hk2
    have ht2 : Trn r w w2 := ht1.thenk hk2
    have HV := Lib.hid hv
    clear hv hr1 ht1
    by_cases h0 : 0 ≤ v
    · obtain ⟨n, rfl⟩ : ∃ n : Nat, v = n := ⟨v.toNat, by omega⟩
      by_cases h1 : n ≤ 65536
      · have t1 : decide ((n : Int) ≤ 65536) = true := decide_eq_true (by omega)
        have HI := Lib.hid (itoaL_any n (by omega) w2 ((HEV.out.turn ht2 hrB hB).1.1))
        have hq := str_eq (Lib.decDigits n) a
        obtain ⟨tb, htb⟩ : ∃ tb : ByteArray, (⟨(Lib.decDigits n).toArray⟩ : ByteArray) = tb := ⟨_, rfl⟩
        obtain ⟨ta, hta⟩ : ∃ ta : ByteArray, (⟨a.toArray⟩ : ByteArray) = ta := ⟨_, rfl⟩
        rw [htb] at HI hq
        rw [hta] at hq ⊢
        have HT := Lib.hid htb
        have HTA := Lib.hid hta
        clear htb hta
        cases hqq : decide (Lib.decDigits n = a) with
        | true =>
          rw [hqq] at hq
          have HQ := Lib.hid (of_decide_eq_true hqq)
          clear hqq
          go_wp2_with fail
          refine HI.out.mono ?_
          rintro e w3 ⟨rfl, hk3⟩
          go_wp2
          go_ret2
          refine ⟨⟨_, _, rfl, Lib.hid fun k => ?_, Lib.hid fun _ => ⟨n, rfl⟩⟩, hr2.keep hk3, ht2.thenk hk3⟩
          rw [cntP_iff]
          constructor
          · rintro ⟨-, hk⟩
            obtain rfl : n = k := by omega
            exact ⟨h1, HQ.out.symm⟩
          · rintro ⟨hk, hk2⟩
            refine ⟨rfl, ?_⟩
            have e1 := atoi_dec k hk
            rw [← hk2, HV.out] at e1
            injection e1
        | false =>
          rw [hqq] at hq
          have HQ := Lib.hid (of_decide_eq_false hqq)
          clear hqq
          go_wp2_with fail
          refine HI.out.mono ?_
          rintro e w3 ⟨rfl, hk3⟩
          go_wp2
          go_ret2
          refine ⟨⟨_, _, rfl, Lib.hid fun k => ?_, Lib.hid fun h => by cases h⟩, hr2.keep hk3, ht2.thenk hk3⟩
          rw [cntP_iff]
          constructor
          · rintro ⟨h, -⟩; cases h
          · rintro ⟨hk, hk2⟩
            exfalso
            have e1 := atoi_dec k hk
            rw [← hk2, HV.out] at e1
            injection e1 with e1
            obtain rfl : n = k := by omega
            exact HQ.out hk2.symm
      · have t1 : decide ((n : Int) ≤ 65536) = false := decide_eq_false (by omega)
        go_wp2
        go_ret2
        refine ⟨⟨_, _, rfl, Lib.hid fun k => ?_, Lib.hid fun h => by cases h⟩, hr2, ht2⟩
        rw [cntP_iff]
        constructor
        · rintro ⟨h, -⟩; cases h
        · rintro ⟨hk, hk2⟩
          exfalso
          have e1 := atoi_dec k hk
          rw [← hk2, HV.out] at e1
          injection e1 with e1
          omega
    · have t1 : decide ((0 : Int) ≤ v) = false := decide_eq_false h0
      go_wp2
      go_ret2
      refine ⟨⟨_, _, rfl, Lib.hid fun k => ?_, Lib.hid fun h => by cases h⟩, hr2, ht2⟩
      rw [cntP_iff]
      constructor
      · rintro ⟨h, -⟩; cases h
      · rintro ⟨hk, hk2⟩
        exfalso
        have e1 := atoi_dec k hk
        rw [← hk2, HV.out] at e1
        injection e1 with e1
        omega
  · have hr2 := hr1.keep hk2
    have ht2 : Trn r w w2 := ht1.thenk hk2
    have HV := Lib.hid hv
    clear hv hr1 ht1
    go_wp2
    go_ret2
    refine ⟨⟨_, _, rfl, Lib.hid fun k => ?_, Lib.hid fun h => by cases h⟩, hr2, ht2⟩
    rw [cntP_iff]
    constructor
    · rintro ⟨h, -⟩; cases h
    · rintro ⟨hk, hk2⟩
      exfalso
      have e1 := atoi_dec k hk
      rw [← hk2] at e1
      exact HV.out _ e1
end Go.Proofs.YtomjnjpehokjbaaDoor

namespace Go.Proofs.YtomjnjpehokjbaaDoor
open Go.RowKit Go.Shelf
theorem u8_ne {a k : UInt8} (h : a ≠ k) : (((a.toNat : Nat) : Int) == ((k.toNat : Nat) : Int)) = false := by
  rw [beq_eq_false_iff_ne]
  intro e
  exact h (UInt8.toNat_inj.1 (by omega))
set_option maxRecDepth 100000 in
set_option maxHeartbeats 1000000 in
theorem val_nil (d : Nat) {w : World} {B r : Nat} {A : Option Addr} {c : Nat} (hO0 : Own w r 66 [.slice A 0 c]) :
    Calls Tryd.prog 30 #[.pointer (some ⟨r, 0, none⟩), .int .i64 (d : Nat)] w (ValPost B r none w) := by
  obtain ⟨W0, hW0⟩ : ∃ W0, w.alloc (.cells #[.int .i64 0, .bool false, .slice none 0 0, .slice none 0 0, .slice none 0 0] 29) = W0 := ⟨_, rfl⟩
  have hk0 : Keeps w W0 := hW0 ▸ box2 w _
  have q0 : Own W0 w.heap.size 29 [.int .i64 0, .bool false, .slice none 0 0, .slice none 0 0, .slice none 0 0] := hW0 ▸ Own.new w _ _
  have hOr := hO0.below hk0
  have rx0 := hOr.cell 0
  simp only [List.getElem?_cons_zero] at rx0
  clear hO0 hOr
  have x0 := q0.cell 0
  have x1 := q0.cell 1
  have x2 := q0.cell 2
  have x3 := q0.cell 3
  have x4 := q0.cell 4
  have f0 := q0.frozen 0
  have f1 := q0.frozen 1
  have f2 := q0.frozen 2
  have f3 := q0.frozen 3
  have f4 := q0.frozen 4
  simp only [List.getElem?_cons_zero, List.getElem?_cons_succ] at x0 x1 x2 x3 x4
  go_enter Tryd.func30, Tryd.ntmps30
  go_wp2
  have r5 := (q0).put5 (a := .int .i64 0) (x := .bool false) (y := .slice none 0 0) (z := .slice none 0 0) (v := .slice none 0 0)
  have r0 := r5.cell 0
  have r1 := r5.cell 1
  have r2 := r5.cell 2
  have r3 := r5.cell 3
  have r4 := r5.cell 4
  simp only [List.getElem?_cons_zero, List.getElem?_cons_succ] at r0 r1 r2 r3 r4
  refine bodyPost_ret (v := .tuple #[.agg #[.int .i64 0, .bool false, .slice none 0 0, .slice none 0 0, .slice none 0 0], .bool false]) (by simp [results, Tryd.results30, go_sem, r0, r1, r2, r3, r4]) rfl ?_
  exact valPost_no (Trn.put5 (Trn.keeps hk0) q0 (Nat.le_refl _) rfl rfl) ⟨_, _, _, _, _, _, _, _, _, _, _, rfl⟩
set_option maxRecDepth 100000 in
set_option maxHeartbeats 1000000 in
theorem val_else (d : Nat) {w : World} {B r : Nat} {ch : UInt8} {t : List UInt8} (h : Rd w B r (ch :: t)) (h1 : ch ≠ 105) (h2 : ch ≠ 116) (h3 : ch ≠ 108) :
    Calls Tryd.prog 30 #[.pointer (some ⟨r, 0, none⟩), .int .i64 (d : Nat)] w (ValPost B r none w) := by
  obtain ⟨hBr, b, o, c, hO0, hS0⟩ := id h
  obtain ⟨A', c', eA, hnc, hcm, -, hrow, -⟩ := id hS0
  cases eA
  obtain ⟨W0, hW0⟩ : ∃ W0, w.alloc (.cells #[.int .i64 0, .bool false, .slice none 0 0, .slice none 0 0, .slice none 0 0] 29) = W0 := ⟨_, rfl⟩
  have hk0 : Keeps w W0 := hW0 ▸ box2 w _
  have q0 : Own W0 w.heap.size 29 [.int .i64 0, .bool false, .slice none 0 0, .slice none 0 0, .slice none 0 0] := hW0 ▸ Own.new w _ _
  have hrlt := h.lt
  have hrne : w.heap.size ≠ r := by omega
  have rd0 := h.keep hk0
  have hOr := hO0.below hk0
  have rx0 := hOr.cell 0
  have rf0 := hOr.frozen 0
  simp only [List.getElem?_cons_zero] at rx0
  obtain ⟨b', o', eb, hb, hcell⟩ := id hrow (by simp)
  cases eb
  have hch : W0.cell? ⟨b, o, none⟩ = some (.int .u8 ((ch.toNat : Nat) : Int)) := by
    have h1 := hcell 0 (by simp)
    rw [Nat.add_zero] at h1
    exact (hk0.cell (p := ⟨b, o, none⟩) hb).trans h1
  have hdrop := (hS0.drop8 (k := 1) (by simp)).below hk0
  simp only [List.length_cons, Nat.add_sub_cancel, List.drop_succ_cons, List.drop_zero] at hdrop rx0 hnc
  obtain ⟨o2, hX⟩ := drop_addr b o c 1
  rw [hX] at hdrop
  obtain ⟨W1, hW1⟩ : ∃ W1, W0.setCell ⟨r, 0, none⟩ (.slice (some ⟨b, o2, none⟩) t.length (c - 1)) = W1 := ⟨_, rfl⟩
  have rd1 : Rd W1 B r t := hW1 ▸ rd0.put hdrop
  have ht1 : Trn r w W1 := hW1 ▸ (Trn.keeps hk0).trans rd0.trn_set
  have q1 : Own W1 w.heap.size 29 [.int .i64 0, .bool false, .slice none 0 0, .slice none 0 0, .slice none 0 0] := hW1 ▸ q0.far (p := ⟨r, 0, none⟩) hrne _
  have hcmI : (c : Int) ≤ 9223372036854775807 := by unfold maxLen at hcm; omega
  have hncI : (t.length : Int) + 1 ≤ c := by omega
  have hsz1 := ht1.1.size
  have t1 := u8_ne (k := 105) h1
  have t2 := u8_ne (k := 116) h2
  have t3 := u8_ne (k := 108) h3
  simp only [show (105 : UInt8).toNat = 105 from rfl, show (116 : UInt8).toNat = 116 from rfl, show (108 : UInt8).toNat = 108 from rfl] at t1 t2 t3
  clear h hO0 hS0 hrow hOr rd0 h1 h2 h3 hcell hdrop
  have x0 := q1.cell 0
  have x1 := q1.cell 1
  have x2 := q1.cell 2
  have x3 := q1.cell 3
  have x4 := q1.cell 4
  have f0 := q1.frozen 0
  have f1 := q1.frozen 1
  have f2 := q1.frozen 2
  have f3 := q1.frozen 3
  have f4 := q1.frozen 4
  simp only [List.getElem?_cons_zero, List.getElem?_cons_succ] at x0 x1 x2 x3 x4
  go_enter Tryd.func30, Tryd.ntmps30
  go_wp2
  have r5 := (q1).put5 (a := .int .i64 0) (x := .bool false) (y := .slice none 0 0) (z := .slice none 0 0) (v := .slice none 0 0)
  have r0 := r5.cell 0
  have r1 := r5.cell 1
  have r2 := r5.cell 2
  have r3 := r5.cell 3
  have r4 := r5.cell 4
  simp only [List.getElem?_cons_zero, List.getElem?_cons_succ] at r0 r1 r2 r3 r4
  refine bodyPost_ret (v := .tuple #[.agg #[.int .i64 0, .bool false, .slice none 0 0, .slice none 0 0, .slice none 0 0], .bool false]) (by simp [results, Tryd.results30, go_sem, r0, r1, r2, r3, r4]) rfl ?_
  exact valPost_no (Trn.put5 ht1 q1 (Nat.le_refl _) rfl rfl) ⟨_, _, _, _, _, _, _, _, _, _, _, rfl⟩
set_option maxRecDepth 100000 in
set_option maxHeartbeats 1000000 in
theorem val_int (d : Nat) {w : World} {B r : Nat} {t : List UInt8} (h : Rd w B r (105 :: t)) (hl : t.length ≤ 1000000) :
    Calls Tryd.prog 30 #[.pointer (some ⟨r, 0, none⟩), .int .i64 (d : Nat)] w (ValPost B r (valP d (105 :: t)) w) := by
  obtain ⟨O, hO⟩ : ∃ O, valP d (105 :: t) = O := ⟨_, rfl⟩
  rw [hO]
  obtain ⟨hBr, b, o, c, hO0, hS0⟩ := id h
  obtain ⟨A', c', eA, hnc, hcm, -, hrow, -⟩ := id hS0
  cases eA
  obtain ⟨W0, hW0⟩ : ∃ W0, w.alloc (.cells #[.int .i64 0, .bool false, .slice none 0 0, .slice none 0 0, .slice none 0 0] 29) = W0 := ⟨_, rfl⟩
  have hk0 : Keeps w W0 := hW0 ▸ box2 w _
  have q0 : Own W0 w.heap.size 29 [.int .i64 0, .bool false, .slice none 0 0, .slice none 0 0, .slice none 0 0] := hW0 ▸ Own.new w _ _
  have hrlt := h.lt
  have hrne : w.heap.size ≠ r := by omega
  have rd0 := h.keep hk0
  have hOr := hO0.below hk0
  have rx0 := hOr.cell 0
  have rf0 := hOr.frozen 0
  simp only [List.getElem?_cons_zero] at rx0
  obtain ⟨b', o', eb, hb, hcell⟩ := id hrow (by simp)
  cases eb
  have hch : W0.cell? ⟨b, o, none⟩ = some (.int .u8 105) := by
    have h1 := hcell 0 (by simp)
    rw [Nat.add_zero] at h1
    exact (hk0.cell (p := ⟨b, o, none⟩) hb).trans h1
  have hdrop := (hS0.drop8 (k := 1) (by simp)).below hk0
  simp only [List.length_cons, Nat.add_sub_cancel, List.drop_succ_cons, List.drop_zero] at hdrop rx0 hnc
  obtain ⟨o2, hX⟩ := drop_addr b o c 1
  rw [hX] at hdrop
  obtain ⟨W1, hW1⟩ : ∃ W1, W0.setCell ⟨r, 0, none⟩ (.slice (some ⟨b, o2, none⟩) t.length (c - 1)) = W1 := ⟨_, rfl⟩
  have rd1 : Rd W1 B r t := hW1 ▸ rd0.put hdrop
  have ht1 : Trn r w W1 := hW1 ▸ (Trn.keeps hk0).trans rd0.trn_set
  have q1 : Own W1 w.heap.size 29 [.int .i64 0, .bool false, .slice none 0 0, .slice none 0 0, .slice none 0 0] := hW1 ▸ q0.far (p := ⟨r, 0, none⟩) hrne _
  have hcmI : (c : Int) ≤ 9223372036854775807 := by unfold maxLen at hcm; omega
  have hncI : (t.length : Int) + 1 ≤ c := by omega
  have hsz1 := ht1.1.size
  cases hc : cutM 59 t with
  | none =>
    have HU := Lib.hid (until_no rd1 59 (by omega) hc)
    obtain rfl := hO.symm.trans (valP_int_no hc)
    clear hO
    clear h hO0 hS0 hrow hOr rd0 hcell hdrop hc
    have x0 := q1.cell 0
    have x1 := q1.cell 1
    have x2 := q1.cell 2
    have x3 := q1.cell 3
    have x4 := q1.cell 4
    have f0 := q1.frozen 0
    have f1 := q1.frozen 1
    have f2 := q1.frozen 2
    have f3 := q1.frozen 3
    have f4 := q1.frozen 4
    simp only [List.getElem?_cons_zero, List.getElem?_cons_succ] at x0 x1 x2 x3 x4
    go_enter Tryd.func30, Tryd.ntmps30
    go_wp2_with fail
    refine HU.out.mono ?_
    rintro e w1 ⟨rfl, rfl⟩
    go_wp2
    have r5 := (q1).put5 (a := .int .i64 0) (x := .bool false) (y := .slice none 0 0) (z := .slice none 0 0) (v := .slice none 0 0)
    have r0 := r5.cell 0
    have r1 := r5.cell 1
    have r2 := r5.cell 2
    have r3 := r5.cell 3
    have r4 := r5.cell 4
    simp only [List.getElem?_cons_zero, List.getElem?_cons_succ] at r0 r1 r2 r3 r4
    refine bodyPost_ret (v := .tuple #[.agg #[.int .i64 0, .bool false, .slice none 0 0, .slice none 0 0, .slice none 0 0], .bool false]) (by simp [results, Tryd.results30, go_sem, r0, r1, r2, r3, r4]) rfl ?_
    exact valPost_no (Trn.put5 ht1 q1 (Nat.le_refl _) rfl rfl) ⟨_, _, _, _, _, _, _, _, _, _, _, rfl⟩
  | some p =>
    obtain ⟨s, u⟩ := p
    have hc0 := hc
    have HU := Lib.hid (until_yes rd1 59 (by omega) hc)
    have hsl : s.length ≤ 1000000 := by
      have := (cutM_some hc).1
      rw [this] at hl
      simp at hl
      omega
    clear h hO0 hS0 hrow hOr rd0 hcell hdrop hc
    go_enter Tryd.func30, Tryd.ntmps30
    go_wp2_with fail
    refine HU.out.mono ?_
    rintro e w2 ⟨rfl, rd2, ht2⟩
    have hsz : (⟨s.toArray⟩ : ByteArray).size = s.length := List.size_toArray
    have HP := Lib.hid (parse_any ⟨s.toArray⟩ w2 (by omega))
    have q2 := ht2.own q1 hrne
    have ht3 := ht1.trans ht2
    go_wp2_with fail
    refine HP.out.mono ?_
    rintro e w3 ⟨Q, rfl, hQ, hk3⟩
    obtain ⟨A3, n3, c3, rfl, hu⟩ := hQ.open_
    have q3 := q2.below hk3
    have ht4 := ht3.thenk hk3
    have rd3 := rd2.keep hk3
    obtain ⟨W4, hW4⟩ : ∃ W4, w3.alloc (.cells #[.bool (decide (parseZ s < 0)), .slice A3 n3 c3] 25) = W4 := ⟨_, rfl⟩
    have hk4 : Keeps w3 W4 := hW4 ▸ box2 w3 _
    have p4 : Own W4 w3.heap.size 25 [.bool (decide (parseZ s < 0)), .slice A3 n3 c3] := hW4 ▸ Own.new w3 _ _
    have q4 := q3.below hk4
    have rd4 := rd3.keep hk4
    have ht5 := ht4.thenk hk4
    have hu4 := hu.below hk4
    have y0 := p4.cell 0
    have y1 := p4.cell 1
    simp only [List.getElem?_cons_zero, List.getElem?_cons_succ] at y0 y1
    have HC0 := Lib.hid hc0
    clear hc0 rd2 rd3 ht2 ht3 ht4 q2 q3 hQ hu
    have x0 := q4.cell 0
    have x1 := q4.cell 1
    have x2 := q4.cell 2
    have x3 := q4.cell 3
    have x4 := q4.cell 4
    have f0 := q4.frozen 0
    have f1 := q4.frozen 1
    have f2 := q4.frozen 2
    have f3 := q4.frozen 3
    have f4 := q4.frozen 4
    simp only [List.getElem?_cons_zero, List.getElem?_cons_succ] at x0 x1 x2 x3 x4
    obtain ⟨pc, hpc⟩ : ∃ pc, parseC s = pc := ⟨_, rfl⟩
    have HPC := Lib.hid hpc
    simp only [hpc]
    clear hpc
    by_cases hz : pc = 0
    · subst hz
      obtain rfl := hO.symm.trans (valP_int_ok HC0.out HPC.out)
      clear hO
      go_wp2
      have r5 := (q4).put5 (a := .int .i64 0) (x := .bool (decide (parseZ s < 0))) (y := .slice A3 n3 c3) (z := .slice none 0 0) (v := .slice none 0 0)
      have r0 := r5.cell 0
      have r1 := r5.cell 1
      have r2 := r5.cell 2
      have r3 := r5.cell 3
      have r4 := r5.cell 4
      simp only [List.getElem?_cons_zero, List.getElem?_cons_succ] at r0 r1 r2 r3 r4
      refine bodyPost_ret (v := .tuple #[.agg #[.int .i64 0, .bool (decide (parseZ s < 0)), .slice A3 n3 c3, .slice none 0 0, .slice none 0 0], .bool true]) (by simp [results, Tryd.results30, go_sem, r0, r1, r2, r3, r4]) rfl ?_
      refine valPost_yes (cs := [.int .i64 0, .bool (decide (parseZ s < 0)), .slice A3 n3 c3, .slice none 0 0, .slice none 0 0]) (Trn.put5 ht5 q4 (Nat.le_refl _) rfl rfl) ?_ (rd4.put5 hrne.symm (by omega))
      refine ValC.make ⟨?_, by simp, by simp⟩ (set5_same32 q4 rfl rfl _ _ hu4) SlK.nil ⟨by simp, by simp [maxLen], fun _ => rfl⟩ ElsC.nil
      exact Nat.le_trans (parse_len s) (by omega)
    · have tz : (pc == 0) = false := by simpa using hz
      obtain rfl := hO.symm.trans (valP_int_bad HC0.out (by rw [HPC.out]; exact hz))
      clear hO hz
      go_wp2
      have r5 := (q4).put5 (a := .int .i64 0) (x := .bool (decide (parseZ s < 0))) (y := .slice A3 n3 c3) (z := .slice none 0 0) (v := .slice none 0 0)
      have r0 := r5.cell 0
      have r1 := r5.cell 1
      have r2 := r5.cell 2
      have r3 := r5.cell 3
      have r4 := r5.cell 4
      simp only [List.getElem?_cons_zero, List.getElem?_cons_succ] at r0 r1 r2 r3 r4
      refine bodyPost_ret (v := .tuple #[.agg #[.int .i64 0, .bool (decide (parseZ s < 0)), .slice A3 n3 c3, .slice none 0 0, .slice none 0 0], .bool false]) (by simp [results, Tryd.results30, go_sem, r0, r1, r2, r3, r4]) rfl ?_
      exact valPost_no (Trn.put5 ht5 q4 (Nat.le_refl _) rfl rfl) ⟨_, _, _, _, _, _, _, _, _, _, _, rfl⟩
end Go.Proofs.YtomjnjpehokjbaaDoor

namespace Go.Proofs.YtomjnjpehokjbaaDoor
open Go.RowKit Go.Shelf
theorem clone8_any {ok : Nat → Prop} {w : World} {b o c : Nat} {l : List UInt8} (h : SlK ok w (.slice (some ⟨b, o, none⟩) l.length c) l.length (b8 l)) (hl : l.length ≤ 1000000) :
    Calls Tryd.prog 55 #[.slice (some ⟨b, o, none⟩) l.length c] w fun e w' => ∃ A c', e = .returned (.slice A l.length c') ∧ SlK (newB w.heap.size) w' (.slice A l.length c') l.length (b8 l) ∧ Keeps w w' := by
  refine (Tryd.bytes_Clone_at ⟨b, o, none⟩ l.length c (n8 l) w (n8_length l) (by omega) (fun i hi => ?_)).mono ?_
  · obtain ⟨A', c', e, -, -, -, hr, -⟩ := h
    cases e
    obtain ⟨b', o', e, -, hc⟩ := hr (by omega)
    cases e
    rw [Lib.addr_add, hc i hi, b8_n8 l i hi]
  · rintro e w' ⟨v', rfl, hown, -, hk⟩
    rw [n8_cells] at hown
    obtain ⟨A, c', rfl, -⟩ := hown.sl
    exact ⟨A, c', rfl, own8 hown rfl, hk⟩
theorem map_none {s : List UInt8} {u : List UInt8} {v : Int} {b : Bool} (h : ∀ n : Nat, (b = true ∧ v = (n : Nat)) ↔ cntP s = some n) (hb : b = false) : ((cntP s).map fun n => (n, u)) = none := by
  cases hc : cntP s with
  | none => rfl
  | some n =>
    have := (h n).2 hc
    rw [hb] at this
    cases this.1
set_option maxRecDepth 100000 in
set_option maxHeartbeats 2000000 in
theorem val_txt (d : Nat) {w : World} {B r : Nat} {t : List UInt8} (h : Rd w B r (116 :: t)) (he : EnvB B w) (hB : B ≤ w.heap.size) (hl : t.length ≤ 100000) :
    Calls Tryd.prog 30 #[.pointer (some ⟨r, 0, none⟩), .int .i64 (d : Nat)] w (ValPost B r (valP d (116 :: t)) w) := by
  obtain ⟨O, hO⟩ : ∃ O, valP d (116 :: t) = O := ⟨_, rfl⟩
  rw [hO]
  obtain ⟨hBr, b, o, c, hO0, hS0⟩ := id h
  obtain ⟨A', c', eA, hnc, hcm, -, hrow, -⟩ := id hS0
  cases eA
  obtain ⟨W0, hW0⟩ : ∃ W0, w.alloc (.cells #[.int .i64 0, .bool false, .slice none 0 0, .slice none 0 0, .slice none 0 0] 29) = W0 := ⟨_, rfl⟩
  have hk0 : Keeps w W0 := hW0 ▸ box2 w _
  have q0 : Own W0 w.heap.size 29 [.int .i64 0, .bool false, .slice none 0 0, .slice none 0 0, .slice none 0 0] := hW0 ▸ Own.new w _ _
  have hrlt := h.lt
  have hrne : w.heap.size ≠ r := by omega
  have rd0 := h.keep hk0
  have hOr := hO0.below hk0
  have rx0 := hOr.cell 0
  have rf0 := hOr.frozen 0
  simp only [List.getElem?_cons_zero] at rx0
  obtain ⟨b', o', eb, hb, hcell⟩ := id hrow (by simp)
  cases eb
  have hch : W0.cell? ⟨b, o, none⟩ = some (.int .u8 116) := by
    have h1 := hcell 0 (by simp)
    rw [Nat.add_zero] at h1
    exact (hk0.cell (p := ⟨b, o, none⟩) hb).trans h1
  have hdrop := (hS0.drop8 (k := 1) (by simp)).below hk0
  simp only [List.length_cons, Nat.add_sub_cancel, List.drop_succ_cons, List.drop_zero] at hdrop rx0 hnc
  obtain ⟨o2, hX⟩ := drop_addr b o c 1
  rw [hX] at hdrop
  obtain ⟨W1, hW1⟩ : ∃ W1, W0.setCell ⟨r, 0, none⟩ (.slice (some ⟨b, o2, none⟩) t.length (c - 1)) = W1 := ⟨_, rfl⟩
  have rd1 : Rd W1 B r t := hW1 ▸ rd0.put hdrop
  have ht1 : Trn r w W1 := hW1 ▸ (Trn.keeps hk0).trans rd0.trn_set
  have q1 : Own W1 w.heap.size 29 [.int .i64 0, .bool false, .slice none 0 0, .slice none 0 0, .slice none 0 0] := hW1 ▸ q0.far (p := ⟨r, 0, none⟩) hrne _
  have hcmI : (c : Int) ≤ 9223372036854775807 := by unfold maxLen at hcm; omega
  have hncI : (t.length : Int) + 1 ≤ c := by omega
  have hsz1 := ht1.1.size
  have he1 := he.turn ht1 hBr hB
  cases hc : cutM 58 t with
  | none =>
    have HU := Lib.hid (count_none rd1 he1 hc)
    obtain rfl := hO.symm.trans (valP_txt_no (hdP_none hc))
    clear h hO0 hS0 hrow hOr rd0 hcell hdrop hc hO he he1
    go_enter Tryd.func30, Tryd.ntmps30
    go_wp2_with fail
    refine HU.out.mono ?_
    rintro e w2 ⟨⟨v, rfl⟩, ht2⟩
    have q2 := ht2.own q1 hrne
    have ht3 := ht1.trans ht2
    have x0 := q2.cell 0
    have x1 := q2.cell 1
    have x2 := q2.cell 2
    have x3 := q2.cell 3
    have x4 := q2.cell 4
    have f0 := q2.frozen 0
    have f1 := q2.frozen 1
    have f2 := q2.frozen 2
    have f3 := q2.frozen 3
    have f4 := q2.frozen 4
    simp only [List.getElem?_cons_zero, List.getElem?_cons_succ] at x0 x1 x2 x3 x4
    go_wp2
    have r5 := (q2).put5 (a := .int .i64 0) (x := .bool false) (y := .slice none 0 0) (z := .slice none 0 0) (v := .slice none 0 0)
    have r0 := r5.cell 0
    have r1 := r5.cell 1
    have r2 := r5.cell 2
    have r3 := r5.cell 3
    have r4 := r5.cell 4
    simp only [List.getElem?_cons_zero, List.getElem?_cons_succ] at r0 r1 r2 r3 r4
    refine bodyPost_ret (v := .tuple #[.agg #[.int .i64 0, .bool false, .slice none 0 0, .slice none 0 0, .slice none 0 0], .bool false]) (by simp [results, Tryd.results30, go_sem, r0, r1, r2, r3, r4]) rfl ?_
    exact valPost_no (Trn.put5 ht3 q2 (Nat.le_refl _) rfl rfl) ⟨_, _, _, _, _, _, _, _, _, _, _, rfl⟩
  | some p =>
    obtain ⟨s, u⟩ := p
    have HU := Lib.hid (count_some rd1 he1 (by omega) (by omega) hc)
    have HH := Lib.hid (hdP_some hc)
    have hul : u.length ≤ 100000 := by
      have := (cutM_some hc).1
      rw [this] at hl
      simp at hl
      omega
    clear h hO0 hS0 hrow hOr rd0 hcell hdrop hc he he1
    go_enter Tryd.func30, Tryd.ntmps30
    go_wp2_with fail
    refine HU.out.mono ?_
    rintro e w2 ⟨⟨v, bb, rfl, hiff, hnat⟩, rd2, ht2⟩
    have q2 := ht2.own q1 hrne
    have ht3 := ht1.trans ht2
    cases bb with
    | false =>
      obtain rfl := hO.symm.trans (valP_txt_no (HH.out.trans (map_none hiff.out rfl)))
      clear hO rd2
      have x0 := q2.cell 0
      have x1 := q2.cell 1
      have x2 := q2.cell 2
      have x3 := q2.cell 3
      have x4 := q2.cell 4
      have f0 := q2.frozen 0
      have f1 := q2.frozen 1
      have f2 := q2.frozen 2
      have f3 := q2.frozen 3
      have f4 := q2.frozen 4
      simp only [List.getElem?_cons_zero, List.getElem?_cons_succ] at x0 x1 x2 x3 x4
      go_wp2
      have r5 := (q2).put5 (a := .int .i64 0) (x := .bool false) (y := .slice none 0 0) (z := .slice none 0 0) (v := .slice none 0 0)
      have r0 := r5.cell 0
      have r1 := r5.cell 1
      have r2 := r5.cell 2
      have r3 := r5.cell 3
      have r4 := r5.cell 4
      simp only [List.getElem?_cons_zero, List.getElem?_cons_succ] at r0 r1 r2 r3 r4
      refine bodyPost_ret (v := .tuple #[.agg #[.int .i64 0, .bool false, .slice none 0 0, .slice none 0 0, .slice none 0 0], .bool false]) (by simp [results, Tryd.results30, go_sem, r0, r1, r2, r3, r4]) rfl ?_
      exact valPost_no (Trn.put5 ht3 q2 (Nat.le_refl _) rfl rfl) ⟨_, _, _, _, _, _, _, _, _, _, _, rfl⟩
    | true =>
      obtain ⟨n, rfl⟩ := hnat.out rfl
      have hcn := (hiff.out n).1 ⟨rfl, rfl⟩
      have hhd : hdP t = some (n, u) := by rw [HH.out, hcn]; rfl
      have hn6 := (hdP_iff.1 hhd).1
      have HHD := Lib.hid hhd
      obtain ⟨-, b3, o3, c3, hO2, hS2⟩ := id rd2
      obtain ⟨A3, c3', e3, hnc3, hcm3, -, -, -⟩ := id hS2
      cases e3
      have z0 := hO2.cell 0
      have zf := hO2.frozen 0
      simp only [List.getElem?_cons_zero] at z0
      have hcm3I : (c3 : Int) ≤ 9223372036854775807 := by unfold maxLen at hcm3; omega
      have hnc3I : (u.length : Int) ≤ c3 := by omega
      have hulI : (u.length : Int) ≤ 100000 := by omega
      have hnI : (n : Int) ≤ 65536 := by omega
      clear hiff hnat hcn hhd
      by_cases hnu : n ≤ u.length
      · have HO : Hid (O = some (txtT (u.take n), u.drop n)) := Lib.hid (hO.symm.trans (valP_txt_ok HHD.out hnu))
        have t1 : decide ((u.length : Int) < (n : Int)) = false := decide_eq_false (by omega)
        have t1n : decide (u.length < n) = false := decide_eq_false (by omega)
        have hnuI : (n : Int) ≤ u.length := by omega
        have htk := hS2.take8 (k := n) hnu
        have hlen : (u.take n).length = n := by rw [List.length_take, Nat.min_eq_left hnu]
        have HLEN := Lib.hid hlen
        have hcl := clone8_any (l := u.take n) (c := c3) (b := b3) (o := o3) (w := w2) (ok := fun k => k < B) (by rw [hlen] at htk ⊢; exact htk) (by omega)
        rw [hlen] at hcl
        have HCL := Lib.hid hcl
        have HDR := Lib.hid (hS2.drop8 (k := n) hnu)
        have RD2 := Lib.hid rd2
        have hO22 := hO2
        clear hO htk hlen hcl rd2 hS2 hO2
        go_wp2_with fail
        refine HCL.out.mono ?_
        rintro e w4 ⟨A5, c5, rfl, hs5, hk4⟩
        go_upto_region 17 with fail
        obtain ⟨W5, hW5⟩ : ∃ W5, w4.alloc (.cells #[.int .i64 1, .bool false, .slice none 0 0, .slice A5 n c5, .slice none 0 0] 29) = W5 := ⟨_, rfl⟩
        rw [hW5]
        have hk5 : Keeps w4 W5 := hW5 ▸ box2 w4 _
        have hk45 := hk4.trans' hk5
        have p5 : Own W5 w4.heap.size 29 [.int .i64 1, .bool false, .slice none 0 0, .slice A5 n c5, .slice none 0 0] := hW5 ▸ Own.new w4 _ _
        have q5 := q2.below hk45
        have rd5 := RD2.out.keep hk45
        have hdr5 := HDR.out.below hk45
        have hO5 := hO22.below hk45
        have zz0 := hO5.cell 0
        have zzf := hO5.frozen 0
        simp only [List.getElem?_cons_zero] at zz0
        obtain ⟨o4, hX4⟩ := drop_addr b3 o3 c3 n
        rw [hX4, ← List.length_drop] at hdr5
        obtain ⟨W6, hW6⟩ : ∃ W6, W5.setCell ⟨r, 0, none⟩ (.slice (some ⟨b3, o4, none⟩) (u.length - n) (c3 - n)) = W6 := ⟨_, rfl⟩
        have rd6 : Rd W6 B r (u.drop n) := by
          have := rd5.put hdr5
          rw [List.length_drop, hW6] at this
          exact this
        have ht6 : Trn r w W6 := hW6 ▸ (ht3.thenk hk45).trans rd5.trn_set
        have hbase : w.heap.size < w2.heap.size := q2.lt
        have hne5 : w4.heap.size ≠ r := by have := hk4.size; omega
        have p6 : Own W6 w4.heap.size 29 [.int .i64 1, .bool false, .slice none 0 0, .slice A5 n c5, .slice none 0 0] := hW6 ▸ p5.far (p := ⟨r, 0, none⟩) hne5 _
        have q6 : Own W6 w.heap.size 29 [.int .i64 0, .bool false, .slice none 0 0, .slice none 0 0, .slice none 0 0] := hW6 ▸ q5.far (p := ⟨r, 0, none⟩) hrne _
        have hs6 : SlK (newB w2.heap.size) W6 (.slice A5 n c5) n (b8 (u.take n)) := hW6 ▸ (hs5.below hk5).map (fun k hk _ => Below.heap_setCell W5 ⟨r, 0, none⟩ _ k (by simp only; omega)) (fun _ h _ => h)
        have HS6 := Lib.hid hs6
        clear hs5 hs6 z0 zf rd5 hdr5 p5 q5 hO22 hO5
        have x0 := q6.cell 0
        have x1 := q6.cell 1
        have x2 := q6.cell 2
        have x3 := q6.cell 3
        have x4 := q6.cell 4
        have f0 := q6.frozen 0
        have f1 := q6.frozen 1
        have f2 := q6.frozen 2
        have f3 := q6.frozen 3
        have f4 := q6.frozen 4
        simp only [List.getElem?_cons_zero, List.getElem?_cons_succ] at x0 x1 x2 x3 x4
        have v0 := p6.cell 0
        have v1 := p6.cell 1
        have v2 := p6.cell 2
        have v3 := p6.cell 3
        have v4 := p6.cell 4
        simp only [List.getElem?_cons_zero, List.getElem?_cons_succ] at v0 v1 v2 v3 v4
        go_wp2
        have r5 := (q6).put5 (a := .int .i64 1) (x := .bool false) (y := .slice none 0 0) (z := .slice A5 n c5) (v := .slice none 0 0)
        have r0 := r5.cell 0
        have r1 := r5.cell 1
        have r2 := r5.cell 2
        have r3 := r5.cell 3
        have r4 := r5.cell 4
        simp only [List.getElem?_cons_zero, List.getElem?_cons_succ] at r0 r1 r2 r3 r4
        refine bodyPost_ret (v := .tuple #[.agg #[.int .i64 1, .bool false, .slice none 0 0, .slice A5 n c5, .slice none 0 0], .bool true]) (by simp [results, Tryd.results30, go_sem, r0, r1, r2, r3, r4]) rfl ?_
        rw [HO.out]
        refine valPost_yes (cs := [.int .i64 1, .bool false, .slice none 0 0, .slice A5 n c5, .slice none 0 0]) (Trn.put5 ht6 q6 (Nat.le_refl _) rfl rfl) ?_ (rd6.put5 hrne.symm (by omega))
        refine ValC.make ⟨by simp, by rw [HLEN.out]; omega, by simp⟩ U32.nil ?_ ⟨by simp, by simp [maxLen], fun _ => rfl⟩ ElsC.nil
        rw [HLEN.out]
        exact HS6.out.map (fun k hk _ => set5_block W6 w.heap.size _ _ _ _ _ (by simp only [newB] at hk; omega)) (fun k hk _ => by simp only [newB] at hk ⊢; omega)
      · obtain rfl := hO.symm.trans (valP_txt_bad HHD.out hnu)
        have t1 : decide ((u.length : Int) < (n : Int)) = true := decide_eq_true (by omega)
        have t1n : u.length < n := by omega
        clear hO rd2 hS2 hO2
        have x0 := q2.cell 0
        have x1 := q2.cell 1
        have x2 := q2.cell 2
        have x3 := q2.cell 3
        have x4 := q2.cell 4
        have f0 := q2.frozen 0
        have f1 := q2.frozen 1
        have f2 := q2.frozen 2
        have f3 := q2.frozen 3
        have f4 := q2.frozen 4
        simp only [List.getElem?_cons_zero, List.getElem?_cons_succ] at x0 x1 x2 x3 x4
        go_wp2
        have r5 := (q2).put5 (a := .int .i64 0) (x := .bool false) (y := .slice none 0 0) (z := .slice none 0 0) (v := .slice none 0 0)
        have r0 := r5.cell 0
        have r1 := r5.cell 1
        have r2 := r5.cell 2
        have r3 := r5.cell 3
        have r4 := r5.cell 4
        simp only [List.getElem?_cons_zero, List.getElem?_cons_succ] at r0 r1 r2 r3 r4
        refine bodyPost_ret (v := .tuple #[.agg #[.int .i64 0, .bool false, .slice none 0 0, .slice none 0 0, .slice none 0 0], .bool false]) (by simp [results, Tryd.results30, go_sem, r0, r1, r2, r3, r4]) rfl ?_
        exact valPost_no (Trn.put5 ht3 q2 (Nat.le_refl _) rfl rfl) ⟨_, _, _, _, _, _, _, _, _, _, _, rfl⟩
end Go.Proofs.YtomjnjpehokjbaaDoor
