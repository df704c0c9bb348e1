/- codec.Sum: its step: the walk. codec.Sum: the walk. fiducialref12.mixed, Sum: the walks. -/
import Derived.Test.YtomjnjpehokjbaaDoorMgIntA
import Derived.Test.YtomjnjpehokjbaaDoorMgNum
import Derived.StillTailTactics
import Derived.Laws.BitsAllLaws
import Derived.Test.YtomjnjpehokjbaaDoorMgTr
import Derived.Deep.RegionHeld3
namespace Go.Proofs.YtomjnjpehokjbaaDoor
open Go.RowKit

/-- the word turned left by five -/
def rotF (y : Int) : Int := bits .or .u64 (IntKind.u64.wrap (y * 32)) (y / 576460752303423488)
set_option maxRecDepth 100000 in
theorem rot_any (y : Int) (w : World) : Calls Tryd.prog 36 #[.int .u64 y, .int .i64 5] w fun e w' => e = .returned (.int .u64 (rotF y)) ∧ w' = w := by
  have h5 : bits .and .u64 5 63 = 5 := by decide +kernel
  go_enter Tryd.func36, Tryd.ntmps36
  go_wp2
  go_ret
  exact ⟨rfl, rfl⟩
/-- one byte more in the two words -/
def mixX (x : Int) (c : Nat) : Int := IntKind.u64.wrap (bits .xor .u64 x (c : Int) * 1099511628211)
def mixY (x y : Int) (c : Nat) : Int := bits .xor .u64 (IntKind.u64.wrap (rotF y + mixX x c)) (c : Int)
set_option maxRecDepth 100000 in
set_option maxHeartbeats 1000000 in
theorem step_any {w : World} {bx bY : Nat} {x y : Int} {c : Nat} (hc : c < 256) (hx : Own w bx 73 [.int .u64 x]) (hy : Own w bY 73 [.int .u64 y]) (hne : bx ≠ bY) :
    Calls Tryd.prog 35 #[.int .u8 (c : Nat), .pointer (some ⟨bx, 0, none⟩), .pointer (some ⟨bY, 0, none⟩)] w fun e w' => e = .returned (.tuple #[]) ∧ Own w' bx 73 [.int .u64 (mixX x c)] ∧ Own w' bY 73 [.int .u64 (mixY x y c)] ∧ Turn [bx, bY] w w' := by
  have hcI : (c : Int) < 256 := by omega
  have x0 := hx.cell 0
  have y0 := hy.cell 0
  have fx := hx.frozen 0
  have fy := hy.frozen 0
  simp only [List.getElem?_cons_zero] at x0 y0
  obtain ⟨m, hm⟩ : ∃ m, IntKind.u64.wrap (bits .xor .u64 x (c : Int) * 1099511628211) = m := ⟨_, rfl⟩
  have HM := Lib.hid hm
  obtain ⟨W1, hW1⟩ : ∃ W1, w.setCell ⟨bx, 0, none⟩ (.int .u64 m) = W1 := ⟨_, rfl⟩
  have x1 : W1.cell? ⟨bx, 0, none⟩ = some (.int .u64 m) := hW1 ▸ (hx.set 0 (.int .u64 m)).cell 0
  have q1 : Own W1 bY 73 [.int .u64 y] := hW1 ▸ hy.far (p := ⟨bx, 0, none⟩) hne.symm _
  have y1 := q1.cell 0
  have fy1 := q1.frozen 0
  simp only [List.getElem?_cons_zero] at y1
  have HW := Lib.hid hW1
  go_enter Tryd.func35, Tryd.ntmps35
  go_wp2
  refine wp_region_still_tail 7 rfl (by kernel_rfl) ?_
  simp only [List.take_succ_cons, List.take_zero, List.drop_succ_cons, List.drop_zero]
  still_step
  still_call (rot_any _ _)
  repeat still_step
  refine wpStill_nil ?_
  have y2 : W1.drew.cell? ⟨bY, 0, none⟩ = some (.int .u64 y) := y1
  have f2 : W1.drew.frozen? ⟨bY, 0, none⟩ = false := fy1
  go_wp2
  have hmm : mixX x c = m := HM.out
  have hyy : bits .xor .u64 (IntKind.u64.wrap (rotF y + m)) (c : Int) = mixY x y c := by rw [mixY, hmm]
  refine bodyPost_end (results_none rfl _ _ _) rfl ?_
  have e1 : Own W1 bx 73 [.int .u64 m] := HW.out ▸ hx.set 0 _
  refine ⟨rfl, ?_, ?_, ?_⟩
  · rw [hmm]
    exact (e1.far (p := ⟨bY, 0, none⟩) hne _).drew
  · rw [← hyy]
    exact (q1.set 0 _).drew
  · have := (Turn.refl (T := [bx, bY]) w).set (p := ⟨bx, 0, none⟩) (by simp) (.int .u64 m)
    rw [HW.out] at this
    exact (this.set (p := ⟨bY, 0, none⟩) (by simp) _).drew
end Go.Proofs.YtomjnjpehokjbaaDoor

namespace Go.Proofs.YtomjnjpehokjbaaDoor
open Go.RowKit

/-- the two words -/
def mixS (s : Int × Int) (c : Nat) : Int × Int := (mixX s.1 c, mixY s.1 s.2 c)
def sum0 : Int × Int := (14695981039346656037, 1099511628211)
def sumA (s : Int × Int) (l : List Nat) : Int × Int := l.foldl mixS s
def nats (xs : List UInt8) : List Nat := xs.map fun c => c.toNat
/-- the bytes of a length, the least one first -/
def lenB (n : Nat) : List Nat := (List.range 8).map fun i => n / 2 ^ (8 * i) % 256
def sumP (xs : List UInt8) : Int × Int := sumA (sumA sum0 (nats xs)) (lenB xs.length)
theorem sumA_succ (s : Int × Int) {l : List Nat} {k : Nat} (h : k < l.length) : sumA s (l.take (k + 1)) = mixS (sumA s (l.take k)) l[k] := by
  unfold sumA
  rw [List.take_succ_eq_append_getElem h, List.foldl_append]
  rfl
theorem nats_get {xs : List UInt8} {k : Nat} (h : k < xs.length) (h' : k < (nats xs).length) : (nats xs)[k] = (xs.getD k 0).toNat := by
  simp [nats, List.getD, h]
/-- a byte of a word -/
def wb (x : Int) (i : Nat) : Value := .int .u8 (IntKind.u8.wrap (x / 2 ^ (56 - 8 * i)))
/-- the digest's bytes, the first j of each half laid -/
def dgL (X Y : Int) (j : Nat) : List Value := (List.range 16).map fun i => if i < 8 then (if i < j then wb X i else .int .u8 0) else (if i - 8 < j then wb Y (i - 8) else .int .u8 0)
theorem dgL_old1 (X Y : Int) {j : Nat} (h : j < 8) : (dgL X Y j)[j]? = some (.int .u8 0) := by
  have : j < 16 := by omega
  simp [dgL, this, h]
theorem dgL_old2 (X Y : Int) {j : Nat} (h : j < 8) : (dgL X Y j)[8 + j]? = some (.int .u8 0) := by
  have : 8 + j < 16 := by omega
  have h2 : ¬ 8 + j < 8 := by omega
  simp [dgL, this, h2]
theorem dgL_succ (X Y : Int) {j : Nat} (h : j < 8) : ((dgL X Y j).set j (wb X j)).set (8 + j) (wb Y j) = dgL X Y (j + 1) := by
  apply List.ext_getElem?
  intro i
  simp only [List.getElem?_set, dgL, List.length_set, List.length_map, List.length_range, List.getElem?_map]
  by_cases hi : i < 16
  · rw [List.getElem?_range hi]
    simp only [Option.map_some]
    by_cases h1 : 8 + j = i
    · subst h1
      simp [show 8 + j < 16 by omega, show ¬ 8 + j < 8 by omega]
    · by_cases h2 : j = i
      · subst h2
        simp [show j < 16 by omega, h]
      · simp only [if_neg h1, if_neg h2]
        congr 1
        split
        · congr 1; simp; omega
        · congr 1; simp; omega
  · rw [List.getElem?_eq_none (by simp; omega)]
    simp only [Option.map_none]
    split
    · omega
    · split
      · omega
      · rfl
theorem dgL_all (X Y : Int) : dgL X Y 8 = [wb X 0, wb X 1, wb X 2, wb X 3, wb X 4, wb X 5, wb X 6, wb X 7, wb Y 0, wb Y 1, wb Y 2, wb Y 3, wb Y 4, wb Y 5, wb Y 6, wb Y 7] := rfl
def zero16 : List Value := List.replicate 16 (.int .u8 0)
/-- the digest -/
def digP (xs : List UInt8) : List Value := dgL (sumP xs).1 (sumP xs).2 8
theorem Own.put16 {w : World} {b : Nat} {t : TypeId} {a0 a1 a2 a3 a4 a5 a6 a7 a8 a9 a10 a11 a12 a13 a14 a15 : Value} (h : Own w b t (List.replicate 16 (.int .u8 0))) : Own ((((((((((((((((w.setCell ⟨b, 0, none⟩ a0).setCell ⟨b, 1, none⟩ a1).setCell ⟨b, 2, none⟩ a2).setCell ⟨b, 3, none⟩ a3).setCell ⟨b, 4, none⟩ a4).setCell ⟨b, 5, none⟩ a5).setCell ⟨b, 6, none⟩ a6).setCell ⟨b, 7, none⟩ a7).setCell ⟨b, 8, none⟩ a8).setCell ⟨b, 9, none⟩ a9).setCell ⟨b, 10, none⟩ a10).setCell ⟨b, 11, none⟩ a11).setCell ⟨b, 12, none⟩ a12).setCell ⟨b, 13, none⟩ a13).setCell ⟨b, 14, none⟩ a14).setCell ⟨b, 15, none⟩ a15) b t [a0, a1, a2, a3, a4, a5, a6, a7, a8, a9, a10, a11, a12, a13, a14, a15] := (((((((((((((((h.set 0 a0).set 1 a1).set 2 a2).set 3 a3).set 4 a4).set 5 a5).set 6 a6).set 7 a7).set 8 a8).set 9 a9).set 10 a10).set 11 a11).set 12 a12).set 13 a13).set 14 a14).set 15 a15
set_option maxRecDepth 100000 in
set_option maxHeartbeats 4000000 in
theorem dsum_any {w : World} {A : Option Addr} {c : Nat} {xs : List UInt8} (hr : Row w A xs.length (b8 xs)) (hl : xs.length ≤ 9223372036854775807) :
    Calls Tryd.prog 15 #[.slice A xs.length c] w fun e w' => e = .returned (.agg (digP xs).toArray) ∧ Keeps w w' := by
  have hlI : (xs.length : Int) ≤ 9223372036854775807 := by omega
  go_enter Tryd.func15, Tryd.ntmps15
  go_upto_region 3 with fail
  obtain ⟨W0, hW0⟩ : ∃ W0, ((w.alloc (.cells #[.int .u8 0, .int .u8 0, .int .u8 0, .int .u8 0, .int .u8 0, .int .u8 0, .int .u8 0, .int .u8 0, .int .u8 0, .int .u8 0, .int .u8 0, .int .u8 0, .int .u8 0, .int .u8 0, .int .u8 0, .int .u8 0] 42)).alloc (.cells #[.int .u64 14695981039346656037] 73)).alloc (.cells #[.int .u64 1099511628211] 73) = W0 := ⟨_, rfl⟩
  rw [hW0]
  have hk0 : Keeps w W0 := hW0 ▸ keep3 w _ _ _
  have g0 : Own W0 w.heap.size 42 zero16 := hW0 ▸ ((Own.new w _ zero16).alloc _).alloc _
  have g1 : Own W0 (w.heap.size + 1) 73 [.int .u64 14695981039346656037] := hW0 ▸ (own2 w _ _ _).alloc _
  have g2 : Own W0 (w.heap.size + 1 + 1) 73 [.int .u64 1099511628211] := hW0 ▸ own3 w _ _ _ _
  have hN : (nats xs).length = xs.length := by simp [nats]
  have HR := Lib.hid hr
  have HN := Lib.hid hN
  clear hW0 hr hN
  go_wp2
  go_loopw [14] (fun i wr => ∃ k : Nat, k ≤ xs.length ∧ i = .int .i64 (k : Nat) ∧ Own wr w.heap.size 42 zero16 ∧ Own wr (w.heap.size + 1) 73 [.int .u64 (sumA sum0 ((nats xs).take k)).1] ∧ Own wr (w.heap.size + 1 + 1) 73 [.int .u64 (sumA sum0 ((nats xs).take k)).2] ∧ Keeps w wr) (fun i _ => xs.length - (intOf i).toNat)
  case atStart => exact ⟨0, Nat.zero_le _, rfl, g0, g1, g2, hk0⟩
  case round =>
    clear g0 g1 g2 hk0
    obtain ⟨k, hk, rfl, g0, g1, g2, hkw⟩ := hrel
    by_cases hlt : k < xs.length
    · have hkI : (k : Int) < xs.length := by omega
      obtain ⟨b, o, rfl, -, hc⟩ := (HR.out.below hkw) (by omega)
      have hx := hc k hlt
      unfold b8 at hx
      have hlt2 : k < (nats xs).length := by rw [HN.out]; exact hlt
      have hS := sumA_succ sum0 hlt2
      rw [nats_get hlt hlt2] at hS
      have h256 : (xs.getD k 0).toNat < 256 := UInt8.toNat_lt _
      generalize (xs.getD k 0).toNat = cc at *
      obtain ⟨X, hX⟩ : ∃ X, (sumA sum0 ((nats xs).take k)).1 = X := ⟨_, rfl⟩
      obtain ⟨Y, hY⟩ : ∃ Y, (sumA sum0 ((nats xs).take k)).2 = Y := ⟨_, rfl⟩
      have hS1 : (sumA sum0 ((nats xs).take (k + 1))).1 = mixX X cc := by rw [hS, ← hX]; rfl
      have hS2 : (sumA sum0 ((nats xs).take (k + 1))).2 = mixY X Y cc := by rw [hS, ← hX, ← hY]; rfl
      rw [hX] at g1
      rw [hY] at g2
      have H1 := Lib.hid hS1
      have H2 := Lib.hid hS2
      have HST := Lib.hid (step_any h256 g1 g2 (by omega))
      clear hc hS hX hY hS1 hS2 g1 g2
      go_wp2_with fail
      refine HST.out.mono ?_
      rintro e w2 ⟨rfl, q1, q2, ht⟩
      have q0 := g0.turn ht (by simp; omega)
      have hk2 : Keeps w w2 := Below.trans hkw (ht.below (B := w.heap.size) (fun k hk => by simp at hk; omega) hkw.size)
      go_wp2
      go_roundw
      case rel => exact ⟨k + 1, by omega, by go_num, q0, by rw [H1.out]; exact q1, by rw [H2.out]; exact q2, hk2⟩
      case measure => simp [intOf]; omega
    · obtain rfl : k = xs.length := by omega
      rw [List.take_of_length_le (by rw [HN.out]; exact Nat.le_refl _)] at g1 g2
      generalize hs : sumA sum0 (nats xs) = s at g1 g2
      have HS := Lib.hid hs
      clear hs
      go_wp2
      go_loopw [22] (fun i wr => ∃ k : Nat, k ≤ 8 ∧ i = .int .i64 (k : Nat) ∧ Own wr w.heap.size 42 zero16 ∧ Own wr (w.heap.size + 1) 73 [.int .u64 (sumA s ((lenB xs.length).take k)).1] ∧ Own wr (w.heap.size + 1 + 1) 73 [.int .u64 (sumA s ((lenB xs.length).take k)).2] ∧ Keeps w wr) (fun i _ => 8 - (intOf i).toNat)
      case atStart => exact ⟨0, Nat.zero_le _, rfl, g0, g1, g2, hkw⟩
      case round =>
        clear g0 g1 g2 hkw hlt hk
        obtain ⟨k, hk, rfl, g0, g1, g2, hkw⟩ := hrel
        by_cases hlt : k < 8
        · have hkI : (k : Int) < 8 := by omega
          have hlen : (lenB xs.length).length = 8 := by simp [lenB]
          have hS := sumA_succ s (k := k) (l := lenB xs.length) (by omega)
          have hgk : (lenB xs.length)[k]'(by omega) = xs.length / 2 ^ (8 * k) % 256 := by simp [lenB]
          rw [hgk] at hS
          have h256 : xs.length / 2 ^ (8 * k) % 256 < 256 := Nat.mod_lt _ (by decide)
          have hcast : ((xs.length : Int) / 2 ^ (8 * k) % 256) = ((xs.length / 2 ^ (8 * k) % 256 : Nat) : Int) := by simp
          generalize xs.length / 2 ^ (8 * k) % 256 = cc at *
          obtain ⟨X, hX⟩ : ∃ X, (sumA s ((lenB xs.length).take k)).1 = X := ⟨_, rfl⟩
          obtain ⟨Y, hY⟩ : ∃ Y, (sumA s ((lenB xs.length).take k)).2 = Y := ⟨_, rfl⟩
          have hS1 : (sumA s ((lenB xs.length).take (k + 1))).1 = mixX X cc := by rw [hS, ← hX]; rfl
          have hS2 : (sumA s ((lenB xs.length).take (k + 1))).2 = mixY X Y cc := by rw [hS, ← hX, ← hY]; rfl
          rw [hX] at g1
          rw [hY] at g2
          have H1 := Lib.hid hS1
          have H2 := Lib.hid hS2
          have HST := Lib.hid (step_any h256 g1 g2 (by omega))
          clear hS hX hY hS1 hS2 g1 g2 hlen hgk
          go_wp2_with fail
          refine HST.out.mono ?_
          rintro e w2 ⟨rfl, q1, q2, ht⟩
          have q0 := g0.turn ht (by simp; omega)
          have hk2 : Keeps w w2 := Below.trans hkw (ht.below (B := w.heap.size) (fun k hk => by simp at hk; omega) hkw.size)
          go_wp2
          go_roundw
          case rel => exact ⟨k + 1, by omega, by go_num, q0, by rw [H1.out]; exact q1, by rw [H2.out]; exact q2, hk2⟩
          case measure => simp [intOf]; omega
        · rw [List.take_of_length_le (by simp [lenB]; omega)] at g1 g2
          have hk8 : (8 : Int) ≤ k := by omega
          have hdk : decide ((k : Int) < 8) = false := decide_eq_false (by omega)
          clear hlt hk
          generalize hs : sumA s (lenB xs.length) = s2 at g1 g2
          have HS2 := Lib.hid hs
          clear hs
          obtain ⟨X, Y⟩ := s2
          simp only at g1 g2
          go_upto_region 14 with fail
          obtain ⟨W3, hW3⟩ : ∃ W3, wr.alloc (.cells #[.int .u8 0, .int .u8 0, .int .u8 0, .int .u8 0, .int .u8 0, .int .u8 0, .int .u8 0, .int .u8 0, .int .u8 0, .int .u8 0, .int .u8 0, .int .u8 0, .int .u8 0, .int .u8 0, .int .u8 0, .int .u8 0] 42) = W3 := ⟨_, rfl⟩
          rw [hW3]
          have hk3 : Keeps wr W3 := hW3 ▸ box2 wr _
          have g3 : Own W3 wr.heap.size 42 (dgL X Y 0) := hW3 ▸ Own.new wr _ zero16
          have g03 := g0.below hk3
          have g13 := g1.below hk3
          have g23 := g2.below hk3
          have hkw3 := hkw.trans' hk3
          have hDlt : w.heap.size + 1 + 1 < wr.heap.size := g2.lt
          obtain ⟨D, hD⟩ : ∃ D, wr.heap.size = D := ⟨_, rfl⟩
          rw [hD] at g3 hDlt ⊢
          clear hW3 hk3 g0 g1 g2 hkw hD
          go_wp2
          go_loopw [35] (fun i wq => ∃ j : Nat, j ≤ 8 ∧ i = .int .i64 (j : Nat) ∧ Own wq D 42 (dgL X Y j) ∧ Own wq w.heap.size 42 zero16 ∧ Own wq (w.heap.size + 1) 73 [.int .u64 X] ∧ Own wq (w.heap.size + 1 + 1) 73 [.int .u64 Y] ∧ Keeps w wq) (fun i _ => 8 - (intOf i).toNat)
          case atStart => exact ⟨0, Nat.zero_le _, rfl, g3, g03, g13, g23, hkw3⟩
          case round =>
            clear g3 g03 g13 g23 hkw3
            obtain ⟨j, hj, rfl, g3, g0, g1, g2, hkw⟩ := hrel
            by_cases hlt : j < 8
            · have hjI : (j : Int) < 8 := by omega
              have c1 := (g3.drew).cell j
              have c2 := (g3.drew).cell (8 + j)
              rw [dgL_old1 X Y hlt] at c1
              rw [dgL_old2 X Y hlt] at c2
              have f1 := (g3.drew).frozen j
              have f2 := (g3.drew).frozen (8 + j)
              have x1 := (g1.drew).cell 0
              have y1 := (g2.drew).cell 0
              simp only [List.getElem?_cons_zero] at x1 y1
              have e1 : IntKind.i64.wrap (8 * (j : Int)) = 8 * j := IntWalk.i64_in _ (by omega)
              have e2 : IntKind.i64.wrap (56 - 8 * (j : Int)) = 56 - 8 * j := IntWalk.i64_in _ (by omega)
              have e3 : IntKind.i64.wrap (8 + (j : Int)) = 8 + j := IntWalk.i64_in _ (by omega)
              have e4 : (0 : Int) ≤ 56 - 8 * j := by omega
              have e5 : (56 - 8 * (j : Int)).toNat = 56 - 8 * j := by omega
              have e6 : (8 + (j : Int)).toNat = 8 + j := by omega
              have e7 : (0 : Int) ≤ 8 + j := by omega
              have e8 : (8 : Int) + j < 16 := by omega
              have e9 : (j : Int) < 16 := by omega
              have hne1 : w.heap.size + 1 ≠ D := by omega
              have hne2 : w.heap.size + 1 + 1 ≠ D := by omega
              have hne0 : w.heap.size ≠ D := by omega
              obtain ⟨w4, hw4⟩ : ∃ w4, wr.drew = w4 := ⟨_, rfl⟩
              have G3 : Own w4 D 42 (dgL X Y j) := hw4 ▸ g3.drew
              have G0 : Own w4 w.heap.size 42 zero16 := hw4 ▸ g0.drew
              have G1 : Own w4 (w.heap.size + 1) 73 [.int .u64 X] := hw4 ▸ g1.drew
              have G2 : Own w4 (w.heap.size + 1 + 1) 73 [.int .u64 Y] := hw4 ▸ g2.drew
              have GK : Keeps w w4 := hw4 ▸ Below.drew hkw
              rw [hw4] at c1 c2 f1 f2
              have X1 := hw4 ▸ x1
              have Y1 := hw4 ▸ y1
              have far1 : ∀ v1 : Value, (w4.setCell ⟨D, j, none⟩ v1).cell? ⟨w.heap.size + 1, 0, none⟩ = some (.int .u64 X) ∧ (w4.setCell ⟨D, j, none⟩ v1).cell? ⟨w.heap.size + 1 + 1, 0, none⟩ = some (.int .u64 Y) := fun v1 =>
                ⟨(G1.far (p := ⟨D, j, none⟩) hne1 v1).cell 0, (G2.far (p := ⟨D, j, none⟩) hne2 v1).cell 0⟩
              have far2 : ∀ v1 v2 : Value, ((w4.setCell ⟨D, j, none⟩ v1).setCell ⟨D, 8 + j, none⟩ v2).cell? ⟨w.heap.size + 1, 0, none⟩ = some (.int .u64 X) ∧ ((w4.setCell ⟨D, j, none⟩ v1).setCell ⟨D, 8 + j, none⟩ v2).cell? ⟨w.heap.size + 1 + 1, 0, none⟩ = some (.int .u64 Y) := fun v1 v2 =>
                ⟨((G1.far (p := ⟨D, j, none⟩) hne1 v1).far (p := ⟨D, 8 + j, none⟩) hne1 v2).cell 0, ((G2.far (p := ⟨D, j, none⟩) hne2 v1).far (p := ⟨D, 8 + j, none⟩) hne2 v2).cell 0⟩
              have F1 := Lib.hid far1
              have F2 := Lib.hid far2
              clear far1 far2
              go_wp2
              go_region_held3 (fun w' => w'.cell? ⟨w.heap.size + 1, 0, none⟩ = some (.int .u64 X) ∧ w'.cell? ⟨w.heap.size + 1 + 1, 0, none⟩ = some (.int .u64 Y))
                (first | with_reducible exact ⟨x1, y1⟩ | with_reducible exact ⟨X1, Y1⟩ | with_reducible exact F1.out _ | with_reducible exact F2.out _ _)
                (fail)
              go_wp2
              go_roundw
              case rel => exact ⟨j + 1, by omega, by go_num, by rw [← dgL_succ X Y hlt]; exact (G3.set j _).set (8 + j) _, (G0.far (p := ⟨D, j, none⟩) hne0 _).far (p := ⟨D, 8 + j, none⟩) hne0 _, (G1.far (p := ⟨D, j, none⟩) hne1 _).far (p := ⟨D, 8 + j, none⟩) hne1 _, (G2.far (p := ⟨D, j, none⟩) hne2 _).far (p := ⟨D, 8 + j, none⟩) hne2 _, (GK.set (p := ⟨D, j, none⟩) (by simp only; omega) _).set (p := ⟨D, 8 + j, none⟩) (by simp only; omega) _⟩
              case measure => simp [intOf]; omega
            · have hj8 : (8 : Int) ≤ j := by omega
              have hdj : decide ((j : Int) < 8) = false := decide_eq_false (by omega)
              have hje : dgL X Y j = dgL X Y 8 := by rw [show j = 8 by omega]
              rw [hje] at g3
              clear hlt hj hje
              obtain ⟨z0, hz0⟩ : ∃ z, IntKind.u8.wrap (X / 2 ^ (56 - 8 * 0)) = z := ⟨_, rfl⟩
              obtain ⟨z1, hz1⟩ : ∃ z, IntKind.u8.wrap (X / 2 ^ (56 - 8 * 1)) = z := ⟨_, rfl⟩
              obtain ⟨z2, hz2⟩ : ∃ z, IntKind.u8.wrap (X / 2 ^ (56 - 8 * 2)) = z := ⟨_, rfl⟩
              obtain ⟨z3, hz3⟩ : ∃ z, IntKind.u8.wrap (X / 2 ^ (56 - 8 * 3)) = z := ⟨_, rfl⟩
              obtain ⟨z4, hz4⟩ : ∃ z, IntKind.u8.wrap (X / 2 ^ (56 - 8 * 4)) = z := ⟨_, rfl⟩
              obtain ⟨z5, hz5⟩ : ∃ z, IntKind.u8.wrap (X / 2 ^ (56 - 8 * 5)) = z := ⟨_, rfl⟩
              obtain ⟨z6, hz6⟩ : ∃ z, IntKind.u8.wrap (X / 2 ^ (56 - 8 * 6)) = z := ⟨_, rfl⟩
              obtain ⟨z7, hz7⟩ : ∃ z, IntKind.u8.wrap (X / 2 ^ (56 - 8 * 7)) = z := ⟨_, rfl⟩
              obtain ⟨z8, hz8⟩ : ∃ z, IntKind.u8.wrap (Y / 2 ^ (56 - 8 * 0)) = z := ⟨_, rfl⟩
              obtain ⟨z9, hz9⟩ : ∃ z, IntKind.u8.wrap (Y / 2 ^ (56 - 8 * 1)) = z := ⟨_, rfl⟩
              obtain ⟨z10, hz10⟩ : ∃ z, IntKind.u8.wrap (Y / 2 ^ (56 - 8 * 2)) = z := ⟨_, rfl⟩
              obtain ⟨z11, hz11⟩ : ∃ z, IntKind.u8.wrap (Y / 2 ^ (56 - 8 * 3)) = z := ⟨_, rfl⟩
              obtain ⟨z12, hz12⟩ : ∃ z, IntKind.u8.wrap (Y / 2 ^ (56 - 8 * 4)) = z := ⟨_, rfl⟩
              obtain ⟨z13, hz13⟩ : ∃ z, IntKind.u8.wrap (Y / 2 ^ (56 - 8 * 5)) = z := ⟨_, rfl⟩
              obtain ⟨z14, hz14⟩ : ∃ z, IntKind.u8.wrap (Y / 2 ^ (56 - 8 * 6)) = z := ⟨_, rfl⟩
              obtain ⟨z15, hz15⟩ : ∃ z, IntKind.u8.wrap (Y / 2 ^ (56 - 8 * 7)) = z := ⟨_, rfl⟩
              have hL : dgL X Y 8 = [.int .u8 z0, .int .u8 z1, .int .u8 z2, .int .u8 z3, .int .u8 z4, .int .u8 z5, .int .u8 z6, .int .u8 z7, .int .u8 z8, .int .u8 z9, .int .u8 z10, .int .u8 z11, .int .u8 z12, .int .u8 z13, .int .u8 z14, .int .u8 z15] := by
                rw [dgL_all]
                unfold wb
                rw [hz0, hz1, hz2, hz3, hz4, hz5, hz6, hz7, hz8, hz9, hz10, hz11, hz12, hz13, hz14, hz15]
              have HL := Lib.hid hL
              rw [hL] at g3
              clear hL hz0 hz1 hz2 hz3 hz4 hz5 hz6 hz7 hz8 hz9 hz10 hz11 hz12 hz13 hz14 hz15
              have d0 := g3.cell 0
              have d1 := g3.cell 1
              have d2 := g3.cell 2
              have d3 := g3.cell 3
              have d4 := g3.cell 4
              have d5 := g3.cell 5
              have d6 := g3.cell 6
              have d7 := g3.cell 7
              have d8 := g3.cell 8
              have d9 := g3.cell 9
              have d10 := g3.cell 10
              have d11 := g3.cell 11
              have d12 := g3.cell 12
              have d13 := g3.cell 13
              have d14 := g3.cell 14
              have d15 := g3.cell 15
              have b0 := g0.cell 0
              have f0 := g0.frozen 0
              have b1 := g0.cell 1
              have f1 := g0.frozen 1
              have b2 := g0.cell 2
              have f2 := g0.frozen 2
              have b3 := g0.cell 3
              have f3 := g0.frozen 3
              have b4 := g0.cell 4
              have f4 := g0.frozen 4
              have b5 := g0.cell 5
              have f5 := g0.frozen 5
              have b6 := g0.cell 6
              have f6 := g0.frozen 6
              have b7 := g0.cell 7
              have f7 := g0.frozen 7
              have b8 := g0.cell 8
              have f8 := g0.frozen 8
              have b9 := g0.cell 9
              have f9 := g0.frozen 9
              have b10 := g0.cell 10
              have f10 := g0.frozen 10
              have b11 := g0.cell 11
              have f11 := g0.frozen 11
              have b12 := g0.cell 12
              have f12 := g0.frozen 12
              have b13 := g0.cell 13
              have f13 := g0.frozen 13
              have b14 := g0.cell 14
              have f14 := g0.frozen 14
              have b15 := g0.cell 15
              have f15 := g0.frozen 15
              simp only [zero16, List.replicate_succ, List.replicate_zero, List.getElem?_cons_zero, List.getElem?_cons_succ] at d0 b0 d1 b1 d2 b2 d3 b3 d4 b4 d5 b5 d6 b6 d7 b7 d8 b8 d9 b9 d10 b10 d11 b11 d12 b12 d13 b13 d14 b14 d15 b15
              have g5 := Own.put16 (h := g0) (a0 := .int .u8 z0) (a1 := .int .u8 z1) (a2 := .int .u8 z2) (a3 := .int .u8 z3) (a4 := .int .u8 z4) (a5 := .int .u8 z5) (a6 := .int .u8 z6) (a7 := .int .u8 z7) (a8 := .int .u8 z8) (a9 := .int .u8 z9) (a10 := .int .u8 z10) (a11 := .int .u8 z11) (a12 := .int .u8 z12) (a13 := .int .u8 z13) (a14 := .int .u8 z14) (a15 := .int .u8 z15)
              have r0 := g5.cell 0
              have r1 := g5.cell 1
              have r2 := g5.cell 2
              have r3 := g5.cell 3
              have r4 := g5.cell 4
              have r5 := g5.cell 5
              have r6 := g5.cell 6
              have r7 := g5.cell 7
              have r8 := g5.cell 8
              have r9 := g5.cell 9
              have r10 := g5.cell 10
              have r11 := g5.cell 11
              have r12 := g5.cell 12
              have r13 := g5.cell 13
              have r14 := g5.cell 14
              have r15 := g5.cell 15
              simp only [List.getElem?_cons_zero, List.getElem?_cons_succ] at r0 r1 r2 r3 r4 r5 r6 r7 r8 r9 r10 r11 r12 r13 r14 r15
              go_wp2
              refine bodyPost_ret (v := .agg #[.int .u8 z0, .int .u8 z1, .int .u8 z2, .int .u8 z3, .int .u8 z4, .int .u8 z5, .int .u8 z6, .int .u8 z7, .int .u8 z8, .int .u8 z9, .int .u8 z10, .int .u8 z11, .int .u8 z12, .int .u8 z13, .int .u8 z14, .int .u8 z15]) (by simp [results, Tryd.results15, go_sem, r0, r1, r2, r3, r4, r5, r6, r7, r8, r9, r10, r11, r12, r13, r14, r15]) rfl ?_
              refine ⟨?_, (((((((((((((((hkw.set (p := ⟨w.heap.size, 0, none⟩) (Nat.le_refl _) _).set (p := ⟨w.heap.size, 1, none⟩) (Nat.le_refl _) _).set (p := ⟨w.heap.size, 2, none⟩) (Nat.le_refl _) _).set (p := ⟨w.heap.size, 3, none⟩) (Nat.le_refl _) _).set (p := ⟨w.heap.size, 4, none⟩) (Nat.le_refl _) _).set (p := ⟨w.heap.size, 5, none⟩) (Nat.le_refl _) _).set (p := ⟨w.heap.size, 6, none⟩) (Nat.le_refl _) _).set (p := ⟨w.heap.size, 7, none⟩) (Nat.le_refl _) _).set (p := ⟨w.heap.size, 8, none⟩) (Nat.le_refl _) _).set (p := ⟨w.heap.size, 9, none⟩) (Nat.le_refl _) _).set (p := ⟨w.heap.size, 10, none⟩) (Nat.le_refl _) _).set (p := ⟨w.heap.size, 11, none⟩) (Nat.le_refl _) _).set (p := ⟨w.heap.size, 12, none⟩) (Nat.le_refl _) _).set (p := ⟨w.heap.size, 13, none⟩) (Nat.le_refl _) _).set (p := ⟨w.heap.size, 14, none⟩) (Nat.le_refl _) _).set (p := ⟨w.heap.size, 15, none⟩) (Nat.le_refl _) _⟩
              rw [digP, sumP, HS.out, HS2.out, HL.out]
end Go.Proofs.YtomjnjpehokjbaaDoor

namespace Go.Proofs.YtomjnjpehokjbaaDoor
open Go.RowKit

set_option maxRecDepth 100000 in
theorem rmixed_any (x y : Int) {c : Nat} (hc : c < 256) (w : World) : Calls Tryd.prog 37 #[.int .u64 x, .int .u64 y, .int .u8 (c : Nat)] w fun e w' => e = .returned (.tuple #[.int .u64 (mixX x c), .int .u64 (mixY x y c)]) ∧ w' = w := by
  have hcI : (c : Int) < 256 := by omega
  go_enter Tryd.func37, Tryd.ntmps37
  go_wp2
  go_ret2
  exact ⟨rfl, rfl⟩
theorem lenB_get {n k : Nat} (h : k < 8) : ∃ h', (lenB n)[k]'h' = n / 2 ^ (8 * k) % 256 := ⟨by simp [lenB, h], by simp [lenB]⟩
/-- the digest's bytes from the back, the last j of each half laid -/
def dgR (X Y : Int) (j : Nat) : List Value := (List.range 16).map fun i => if i < 8 then (if 7 - i < j then wb X i else .int .u8 0) else (if 15 - i < j then wb Y (i - 8) else .int .u8 0)
theorem dgR_succ (X Y : Int) {j : Nat} (h : j < 8) : ((dgR X Y j).set (7 - j) (wb X (7 - j))).set (15 - j) (wb Y (7 - j)) = dgR X Y (j + 1) := by
  apply List.ext_getElem?
  intro i
  simp only [List.getElem?_set, dgR, List.length_set, List.length_map, List.length_range, List.getElem?_map]
  by_cases hi : i < 16
  · rw [List.getElem?_range hi]
    simp only [Option.map_some]
    by_cases h1 : 15 - j = i
    · subst h1
      have h8 : ¬ 15 - j < 8 := by omega
      have h9 : 15 - (15 - j) < j + 1 := by omega
      have h10 : 15 - j < 16 := by omega
      have h11 : 15 - j - 8 = 7 - j := by omega
      simp only [if_true, if_neg h8, if_pos h9, if_pos h10, h11]
    · by_cases h2 : 7 - j = i
      · subst h2
        have h8 : 7 - j < 8 := by omega
        have h9 : 7 - (7 - j) < j + 1 := by omega
        have h10 : 7 - j < 16 := by omega
        simp only [if_true, if_neg h1, if_pos h8, if_pos h9, if_pos h10]
      · simp only [if_neg h1, if_neg h2]
        congr 1
        split
        · congr 1; simp; omega
        · congr 1; simp; omega
  · rw [List.getElem?_eq_none (by simp; omega)]
    simp only [Option.map_none]
    split
    · omega
    · split
      · omega
      · rfl
theorem dgR_all (X Y : Int) : dgR X Y 8 = dgL X Y 8 := by
  unfold dgR dgL
  apply List.map_congr_left
  intro i hi
  have hi2 : i < 16 := List.mem_range.1 hi
  by_cases h : i < 8
  · rw [if_pos h, if_pos h, if_pos (by omega), if_pos (by omega)]
  · rw [if_neg h, if_neg h, if_pos (by omega), if_pos (by omega)]
theorem wb_shift (X : Int) {j : Nat} (h : j < 8) : (.int .u8 (X / 2 ^ (8 * j) % 256) : Value) = wb X (7 - j) := by
  unfold wb
  rw [show 56 - 8 * (7 - j) = 8 * j by omega, IntKind.wrap_u8]
theorem shift_succ (X : Int) (j : Nat) : X / 2 ^ (8 * j) / 256 = X / 2 ^ (8 * (j + 1)) := by
  have h : (0 : Int) ≤ 2 ^ (8 * j) := Int.le_of_lt (Int.pow_pos (by decide))
  rw [Int.ediv_ediv_of_nonneg h, show 8 * (j + 1) = 8 * j + 8 by omega, Int.pow_add]
  rfl
theorem shr8 (x : Int) : x.fdiv (2 ^ min (Int.toNat 8) IntKind.u64.bits) = x / 256 := Int.fdiv_eq_ediv_of_nonneg _ (by decide)
set_option maxRecDepth 100000 in
set_option maxHeartbeats 4000000 in
theorem rsum_any {w : World} {A : Option Addr} {c : Nat} {xs : List UInt8} (hr : Row w A xs.length (b8 xs)) (hl : xs.length ≤ 9223372036854775807) :
    Calls Tryd.prog 16 #[.slice A xs.length c] w fun e w' => e = .returned (.agg (digP xs).toArray) ∧ Keeps w w' := by
  have hlI : (xs.length : Int) ≤ 9223372036854775807 := by omega
  go_enter Tryd.func16, Tryd.ntmps16
  go_upto_region 1 with fail
  obtain ⟨W0, hW0⟩ : ∃ W0, w.alloc (.cells #[.int .u8 0, .int .u8 0, .int .u8 0, .int .u8 0, .int .u8 0, .int .u8 0, .int .u8 0, .int .u8 0, .int .u8 0, .int .u8 0, .int .u8 0, .int .u8 0, .int .u8 0, .int .u8 0, .int .u8 0, .int .u8 0] 42) = W0 := ⟨_, rfl⟩
  rw [hW0]
  have hk0 : Keeps w W0 := hW0 ▸ box2 w _
  have g0 : Own W0 w.heap.size 42 zero16 := hW0 ▸ Own.new w _ zero16
  have hN : (nats xs).length = xs.length := by simp [nats]
  have HR := Lib.hid (hr.below hk0)
  have HN := Lib.hid hN
  have hnI : IntKind.u64.wrap (xs.length : Int) = ((xs.length : Nat) : Int) := IntWalk.u64_in _ (by omega)
  clear hW0 hr hN
  go_wp2
  go_loop [5, 3, 4] (fun i x y => ∃ k : Nat, k ≤ xs.length ∧ i = .int .i64 (k : Nat) ∧ x = .int .u64 (sumA sum0 ((nats xs).take k)).1 ∧ y = .int .u64 (sumA sum0 ((nats xs).take k)).2) (fun i _ _ => xs.length - (intOf i).toNat)
  case atStart => exact ⟨0, Nat.zero_le _, rfl, rfl, rfl⟩
  case round =>
    obtain ⟨k, hk, rfl, rfl, rfl⟩ := hrel
    by_cases hlt : k < xs.length
    · have hkI : (k : Int) < xs.length := by omega
      obtain ⟨b, o, rfl, -, hc⟩ := HR.out (by omega)
      have hx := hc k hlt
      unfold b8 at hx
      have hlt2 : k < (nats xs).length := by rw [HN.out]; exact hlt
      have hS := sumA_succ sum0 hlt2
      rw [nats_get hlt hlt2] at hS
      have h256 : (xs.getD k 0).toNat < 256 := UInt8.toNat_lt _
      generalize (xs.getD k 0).toNat = cc at *
      obtain ⟨X, hX⟩ : ∃ X, (sumA sum0 ((nats xs).take k)).1 = X := ⟨_, rfl⟩
      obtain ⟨Y, hY⟩ : ∃ Y, (sumA sum0 ((nats xs).take k)).2 = Y := ⟨_, rfl⟩
      have hS1 : (sumA sum0 ((nats xs).take (k + 1))).1 = mixX X cc := by rw [hS, ← hX]; rfl
      have hS2 : (sumA sum0 ((nats xs).take (k + 1))).2 = mixY X Y cc := by rw [hS, ← hX, ← hY]; rfl
      rw [hX, hY]
      have H1 := Lib.hid hS1
      have H2 := Lib.hid hS2
      clear hc hS hX hY hS1 hS2
      go_wp2_with fail
      refine (rmixed_any X Y h256 _).mono ?_
      rintro e w2 ⟨rfl, rfl⟩
      go_wp2
      go_round
      case rel => exact ⟨k + 1, by omega, by go_num, by rw [H1.out], by rw [H2.out]⟩
      case measure => simp [intOf]; omega
    · obtain rfl : k = xs.length := by omega
      rw [List.take_of_length_le (by rw [HN.out]; exact Nat.le_refl _)]
      generalize hs : sumA sum0 (nats xs) = s
      have HS := Lib.hid hs
      have hpow0 : xs.length / 2 ^ (8 * 0) = xs.length := by simp
      have HP0 := Lib.hid hpow0
      clear hs hpow0
      go_wp2
      go_loop [7, 3, 4, 6] (fun i x y n => ∃ k : Nat, k ≤ 8 ∧ i = .int .i64 (k : Nat) ∧ x = .int .u64 (sumA s ((lenB xs.length).take k)).1 ∧ y = .int .u64 (sumA s ((lenB xs.length).take k)).2 ∧ n = .int .u64 ((xs.length / 2 ^ (8 * k) : Nat) : Int)) (fun i _ _ _ => 8 - (intOf i).toNat)
      case atStart => exact ⟨0, Nat.zero_le _, rfl, rfl, rfl, by rw [HP0.out]⟩
      case round =>
        clear hlt hk
        obtain ⟨k, hk, rfl, rfl, rfl, rfl⟩ := hrel
        by_cases hlt : k < 8
        · have hkI : (k : Int) < 8 := by omega
          have hlen : (lenB xs.length).length = 8 := by simp [lenB]
          have hS := sumA_succ s (k := k) (l := lenB xs.length) (by omega)
          have hgk : (lenB xs.length)[k]'(by omega) = xs.length / 2 ^ (8 * k) % 256 := by simp [lenB]
          rw [hgk] at hS
          have h256 : xs.length / 2 ^ (8 * k) % 256 < 256 := Nat.mod_lt _ (by decide)
          have hw8 : IntKind.u8.wrap ((xs.length / 2 ^ (8 * k) : Nat) : Int) = ((xs.length / 2 ^ (8 * k) % 256 : Nat) : Int) := by rw [IntKind.wrap_u8]; omega
          have hdiv : xs.length / 2 ^ (8 * k) / 256 = xs.length / 2 ^ (8 * (k + 1)) := by rw [Nat.div_div_eq_div_mul, show 8 * (k + 1) = 8 * k + 8 by omega, Nat.pow_add]
          have hdI : ((xs.length / 2 ^ (8 * k) : Nat) : Int) / 256 = ((xs.length / 2 ^ (8 * k) / 256 : Nat) : Int) := by omega
          have hle : xs.length / 2 ^ (8 * k) ≤ xs.length := Nat.div_le_self _ _
          have HD := Lib.hid hdiv
          generalize xs.length / 2 ^ (8 * k) % 256 = cc at *
          generalize xs.length / 2 ^ (8 * k) = nn at *
          obtain ⟨X, hX⟩ : ∃ X, (sumA s ((lenB xs.length).take k)).1 = X := ⟨_, rfl⟩
          obtain ⟨Y, hY⟩ : ∃ Y, (sumA s ((lenB xs.length).take k)).2 = Y := ⟨_, rfl⟩
          have hS1 : (sumA s ((lenB xs.length).take (k + 1))).1 = mixX X cc := by rw [hS, ← hX]; rfl
          have hS2 : (sumA s ((lenB xs.length).take (k + 1))).2 = mixY X Y cc := by rw [hS, ← hX, ← hY]; rfl
          rw [hX, hY]
          have H1 := Lib.hid hS1
          have H2 := Lib.hid hS2
          have hnn : (nn : Int) ≤ 9223372036854775807 := by omega
          clear hS hX hY hS1 hS2 hlen hgk hdiv hdI
          go_wp2_with fail
          first
            | refine (rmixed_any X Y h256 _).mono ?_
            | (rw [hw8]; refine (rmixed_any X Y h256 _).mono ?_)
          rintro e w2 ⟨rfl, rfl⟩
          go_wp2
          go_round
          case rel => exact ⟨k + 1, by omega, by go_num, by rw [H1.out], by rw [H2.out], by rw [← HD.out]; first | done | rfl | go_num⟩
          case measure => simp [intOf]; omega
        · rw [List.take_of_length_le (by simp [lenB]; omega)]
          have hk8 : (8 : Int) ≤ k := by omega
          have hdk : decide ((k : Int) < 8) = false := decide_eq_false (by omega)
          clear hlt hk
          generalize hs : sumA s (lenB xs.length) = s2
          have HS2 := Lib.hid hs
          clear hs
          obtain ⟨X, Y⟩ := s2
          simp only
          go_upto_region 14 with fail
          obtain ⟨W3, hW3⟩ : ∃ W3, W0.alloc (.cells #[.int .u8 0, .int .u8 0, .int .u8 0, .int .u8 0, .int .u8 0, .int .u8 0, .int .u8 0, .int .u8 0, .int .u8 0, .int .u8 0, .int .u8 0, .int .u8 0, .int .u8 0, .int .u8 0, .int .u8 0, .int .u8 0] 42) = W3 := ⟨_, rfl⟩
          rw [hW3]
          have hk3 : Keeps W0 W3 := hW3 ▸ box2 W0 _
          have g3 : Own W3 W0.heap.size 42 (dgR X Y 0) := hW3 ▸ Own.new W0 _ zero16
          have g03 := g0.below hk3
          have hkw3 := hk0.trans' hk3
          have hDlt : w.heap.size < W0.heap.size := g0.lt
          obtain ⟨D, hD⟩ : ∃ D, W0.heap.size = D := ⟨_, rfl⟩
          rw [hD] at g3 hDlt ⊢
          have hx0 : X / 2 ^ (8 * 0) = X := by simp
          have hy0 : Y / 2 ^ (8 * 0) = Y := by simp
          have HX0 := Lib.hid hx0
          have HY0 := Lib.hid hy0
          clear hW3 hk3 g0 hk0 hD hx0 hy0
          go_wp2
          go_loopw [9, 3, 4] (fun i x y wq => ∃ j : Nat, j ≤ 8 ∧ i = .int .i64 (j : Nat) ∧ x = .int .u64 (X / 2 ^ (8 * j)) ∧ y = .int .u64 (Y / 2 ^ (8 * j)) ∧ Own wq D 42 (dgR X Y j) ∧ Own wq w.heap.size 42 zero16 ∧ Keeps w wq) (fun i _ _ _ => 8 - (intOf i).toNat)
          case atStart => exact ⟨0, Nat.zero_le _, rfl, by rw [HX0.out], by rw [HY0.out], g3, g03, hkw3⟩
          case round =>
            clear g3 g03 hkw3
            obtain ⟨j, hj, rfl, rfl, rfl, g3, g0, hkw⟩ := hrel
            by_cases hlt : j < 8
            · have hjI : (j : Int) < 8 := by omega
              have e1 : IntKind.i64.wrap (7 - (j : Int)) = 7 - j := IntWalk.i64_in _ (by omega)
              have e2 : IntKind.i64.wrap (15 - (j : Int)) = 15 - j := IntWalk.i64_in _ (by omega)
              have e5 : (7 - (j : Int)).toNat = 7 - j := by omega
              have e6 : (15 - (j : Int)).toNat = 15 - j := by omega
              have e4 : (0 : Int) ≤ 7 - j := by omega
              have e7 : (0 : Int) ≤ 15 - j := by omega
              have e8 : (7 : Int) - j < 16 := by omega
              have e9 : (15 : Int) - j < 16 := by omega
              have hne0 : w.heap.size ≠ D := by omega
              have f1 := g3.frozen (7 - j)
              have G1 := g3.set (7 - j) (wb X (7 - j))
              have G2 := G1.set (15 - j) (wb Y (7 - j))
              rw [dgR_succ X Y hlt] at G2
              have f2 := g3.frozen (15 - j)
              have hle : (dgR X Y j).length = 16 := by simp [dgR]
              have c1 := g3.cell (7 - j)
              have c2 := g3.cell (15 - j)
              obtain ⟨u1, hu1⟩ : ∃ u, (dgR X Y j)[7 - j]? = some u := ⟨_, List.getElem?_eq_getElem (by rw [hle]; omega)⟩
              obtain ⟨u2, hu2⟩ : ∃ u, (dgR X Y j)[15 - j]? = some u := ⟨_, List.getElem?_eq_getElem (by rw [hle]; omega)⟩
              rw [hu1] at c1
              rw [hu2] at c2
              have K2 := (hkw.set (p := ⟨D, 7 - j, none⟩) (by simp only; omega) (wb X (7 - j))).set (p := ⟨D, 15 - j, none⟩) (by simp only; omega) (wb Y (7 - j))
              have Z2 := (g0.far (p := ⟨D, 7 - j, none⟩) hne0 (wb X (7 - j))).far (p := ⟨D, 15 - j, none⟩) hne0 (wb Y (7 - j))
              rw [← wb_shift X hlt, ← wb_shift Y hlt] at G2 K2 Z2
              have s1 := shift_succ X j
              have s2 := shift_succ Y j
              have HG := Lib.hid G2
              have HK := Lib.hid K2
              have HZ := Lib.hid Z2
              have HS1 := Lib.hid s1
              have HS2 := Lib.hid s2
              clear G1 G2 K2 Z2 hu1 hu2 s1 s2 hle
              generalize X / 2 ^ (8 * j) = x at *
              generalize Y / 2 ^ (8 * j) = y at *
              go_wp2
              go_roundw
              case rel => exact ⟨j + 1, by omega, by go_num, by rw [HS1.out], by rw [HS2.out], HG.out, HZ.out, HK.out⟩
              case measure => simp [intOf]; omega
            · have hj8 : (8 : Int) ≤ j := by omega
              have hdj : decide ((j : Int) < 8) = false := decide_eq_false (by omega)
              have hje : dgR X Y j = dgL X Y 8 := by rw [show j = 8 by omega, dgR_all]
              rw [hje] at g3
              clear hlt hj hje
              obtain ⟨z0, hz0⟩ : ∃ z, IntKind.u8.wrap (X / 2 ^ (56 - 8 * 0)) = z := ⟨_, rfl⟩
              obtain ⟨z1, hz1⟩ : ∃ z, IntKind.u8.wrap (X / 2 ^ (56 - 8 * 1)) = z := ⟨_, rfl⟩
              obtain ⟨z2, hz2⟩ : ∃ z, IntKind.u8.wrap (X / 2 ^ (56 - 8 * 2)) = z := ⟨_, rfl⟩
              obtain ⟨z3, hz3⟩ : ∃ z, IntKind.u8.wrap (X / 2 ^ (56 - 8 * 3)) = z := ⟨_, rfl⟩
              obtain ⟨z4, hz4⟩ : ∃ z, IntKind.u8.wrap (X / 2 ^ (56 - 8 * 4)) = z := ⟨_, rfl⟩
              obtain ⟨z5, hz5⟩ : ∃ z, IntKind.u8.wrap (X / 2 ^ (56 - 8 * 5)) = z := ⟨_, rfl⟩
              obtain ⟨z6, hz6⟩ : ∃ z, IntKind.u8.wrap (X / 2 ^ (56 - 8 * 6)) = z := ⟨_, rfl⟩
              obtain ⟨z7, hz7⟩ : ∃ z, IntKind.u8.wrap (X / 2 ^ (56 - 8 * 7)) = z := ⟨_, rfl⟩
              obtain ⟨z8, hz8⟩ : ∃ z, IntKind.u8.wrap (Y / 2 ^ (56 - 8 * 0)) = z := ⟨_, rfl⟩
              obtain ⟨z9, hz9⟩ : ∃ z, IntKind.u8.wrap (Y / 2 ^ (56 - 8 * 1)) = z := ⟨_, rfl⟩
              obtain ⟨z10, hz10⟩ : ∃ z, IntKind.u8.wrap (Y / 2 ^ (56 - 8 * 2)) = z := ⟨_, rfl⟩
              obtain ⟨z11, hz11⟩ : ∃ z, IntKind.u8.wrap (Y / 2 ^ (56 - 8 * 3)) = z := ⟨_, rfl⟩
              obtain ⟨z12, hz12⟩ : ∃ z, IntKind.u8.wrap (Y / 2 ^ (56 - 8 * 4)) = z := ⟨_, rfl⟩
              obtain ⟨z13, hz13⟩ : ∃ z, IntKind.u8.wrap (Y / 2 ^ (56 - 8 * 5)) = z := ⟨_, rfl⟩
              obtain ⟨z14, hz14⟩ : ∃ z, IntKind.u8.wrap (Y / 2 ^ (56 - 8 * 6)) = z := ⟨_, rfl⟩
              obtain ⟨z15, hz15⟩ : ∃ z, IntKind.u8.wrap (Y / 2 ^ (56 - 8 * 7)) = z := ⟨_, rfl⟩
              have hL : dgL X Y 8 = [.int .u8 z0, .int .u8 z1, .int .u8 z2, .int .u8 z3, .int .u8 z4, .int .u8 z5, .int .u8 z6, .int .u8 z7, .int .u8 z8, .int .u8 z9, .int .u8 z10, .int .u8 z11, .int .u8 z12, .int .u8 z13, .int .u8 z14, .int .u8 z15] := by
                rw [dgL_all]
                unfold wb
                rw [hz0, hz1, hz2, hz3, hz4, hz5, hz6, hz7, hz8, hz9, hz10, hz11, hz12, hz13, hz14, hz15]
              have HL := Lib.hid hL
              rw [hL] at g3
              clear hL hz0 hz1 hz2 hz3 hz4 hz5 hz6 hz7 hz8 hz9 hz10 hz11 hz12 hz13 hz14 hz15
              have d0 := g3.cell 0
              have d1 := g3.cell 1
              have d2 := g3.cell 2
              have d3 := g3.cell 3
              have d4 := g3.cell 4
              have d5 := g3.cell 5
              have d6 := g3.cell 6
              have d7 := g3.cell 7
              have d8 := g3.cell 8
              have d9 := g3.cell 9
              have d10 := g3.cell 10
              have d11 := g3.cell 11
              have d12 := g3.cell 12
              have d13 := g3.cell 13
              have d14 := g3.cell 14
              have d15 := g3.cell 15
              have b0 := g0.cell 0
              have f0 := g0.frozen 0
              have b1 := g0.cell 1
              have f1 := g0.frozen 1
              have b2 := g0.cell 2
              have f2 := g0.frozen 2
              have b3 := g0.cell 3
              have f3 := g0.frozen 3
              have b4 := g0.cell 4
              have f4 := g0.frozen 4
              have b5 := g0.cell 5
              have f5 := g0.frozen 5
              have b6 := g0.cell 6
              have f6 := g0.frozen 6
              have b7 := g0.cell 7
              have f7 := g0.frozen 7
              have b8 := g0.cell 8
              have f8 := g0.frozen 8
              have b9 := g0.cell 9
              have f9 := g0.frozen 9
              have b10 := g0.cell 10
              have f10 := g0.frozen 10
              have b11 := g0.cell 11
              have f11 := g0.frozen 11
              have b12 := g0.cell 12
              have f12 := g0.frozen 12
              have b13 := g0.cell 13
              have f13 := g0.frozen 13
              have b14 := g0.cell 14
              have f14 := g0.frozen 14
              have b15 := g0.cell 15
              have f15 := g0.frozen 15
              simp only [zero16, List.replicate_succ, List.replicate_zero, List.getElem?_cons_zero, List.getElem?_cons_succ] at d0 b0 d1 b1 d2 b2 d3 b3 d4 b4 d5 b5 d6 b6 d7 b7 d8 b8 d9 b9 d10 b10 d11 b11 d12 b12 d13 b13 d14 b14 d15 b15
              have g5 := Own.put16 (h := g0) (a0 := .int .u8 z0) (a1 := .int .u8 z1) (a2 := .int .u8 z2) (a3 := .int .u8 z3) (a4 := .int .u8 z4) (a5 := .int .u8 z5) (a6 := .int .u8 z6) (a7 := .int .u8 z7) (a8 := .int .u8 z8) (a9 := .int .u8 z9) (a10 := .int .u8 z10) (a11 := .int .u8 z11) (a12 := .int .u8 z12) (a13 := .int .u8 z13) (a14 := .int .u8 z14) (a15 := .int .u8 z15)
              have r0 := g5.cell 0
              have r1 := g5.cell 1
              have r2 := g5.cell 2
              have r3 := g5.cell 3
              have r4 := g5.cell 4
              have r5 := g5.cell 5
              have r6 := g5.cell 6
              have r7 := g5.cell 7
              have r8 := g5.cell 8
              have r9 := g5.cell 9
              have r10 := g5.cell 10
              have r11 := g5.cell 11
              have r12 := g5.cell 12
              have r13 := g5.cell 13
              have r14 := g5.cell 14
              have r15 := g5.cell 15
              simp only [List.getElem?_cons_zero, List.getElem?_cons_succ] at r0 r1 r2 r3 r4 r5 r6 r7 r8 r9 r10 r11 r12 r13 r14 r15
              go_wp2
              refine bodyPost_ret (v := .agg #[.int .u8 z0, .int .u8 z1, .int .u8 z2, .int .u8 z3, .int .u8 z4, .int .u8 z5, .int .u8 z6, .int .u8 z7, .int .u8 z8, .int .u8 z9, .int .u8 z10, .int .u8 z11, .int .u8 z12, .int .u8 z13, .int .u8 z14, .int .u8 z15]) (by simp [results, Tryd.results16, go_sem, r0, r1, r2, r3, r4, r5, r6, r7, r8, r9, r10, r11, r12, r13, r14, r15]) rfl ?_
              refine ⟨?_, (((((((((((((((hkw.set (p := ⟨w.heap.size, 0, none⟩) (Nat.le_refl _) _).set (p := ⟨w.heap.size, 1, none⟩) (Nat.le_refl _) _).set (p := ⟨w.heap.size, 2, none⟩) (Nat.le_refl _) _).set (p := ⟨w.heap.size, 3, none⟩) (Nat.le_refl _) _).set (p := ⟨w.heap.size, 4, none⟩) (Nat.le_refl _) _).set (p := ⟨w.heap.size, 5, none⟩) (Nat.le_refl _) _).set (p := ⟨w.heap.size, 6, none⟩) (Nat.le_refl _) _).set (p := ⟨w.heap.size, 7, none⟩) (Nat.le_refl _) _).set (p := ⟨w.heap.size, 8, none⟩) (Nat.le_refl _) _).set (p := ⟨w.heap.size, 9, none⟩) (Nat.le_refl _) _).set (p := ⟨w.heap.size, 10, none⟩) (Nat.le_refl _) _).set (p := ⟨w.heap.size, 11, none⟩) (Nat.le_refl _) _).set (p := ⟨w.heap.size, 12, none⟩) (Nat.le_refl _) _).set (p := ⟨w.heap.size, 13, none⟩) (Nat.le_refl _) _).set (p := ⟨w.heap.size, 14, none⟩) (Nat.le_refl _) _).set (p := ⟨w.heap.size, 15, none⟩) (Nat.le_refl _) _⟩
              rw [digP, sumP, HS.out, HS2.out, HL.out]
end Go.Proofs.YtomjnjpehokjbaaDoor
