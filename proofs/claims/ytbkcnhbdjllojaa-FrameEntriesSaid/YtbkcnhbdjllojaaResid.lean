/- The residuals of a raster: the walks. -/
import Derived.Test.YtbkcnhbdjllojaaPred
namespace Go.Proofs.Ytbkcnhbdjllojaa
open Go.RowKit Go.Shelf

def i64s (l : List Int) : List Value := l.map fun x => .int .i64 x
theorem i64s_length (l : List Int) : (i64s l).length = l.length := by simp [i64s]
theorem i64s_snoc (l : List Int) (x : Int) : i64s (l ++ [x]) = i64s l ++ [.int .i64 x] := by simp [i64s]
theorem info_i64 : (Try.prog.info? 3).map (fun i => (i.zero, i.size, i.bytes)) = some (some (.int .i64 0), 1, 8) := by kernel_rfl
/-- a row of ints of the call's own -/
abbrev IOwn (w : World) (base : Nat) (V : Value) (l : List Int) : Prop := w.ownsRow base 3 1 V l.length (i64s l)
theorem _root_.Go.World.ownsRow.irow {w : World} {base : Nat} {A : Option Addr} {n c : Nat} {l : List Int} (h : IOwn w base (.slice A n c) l) (hn : n = l.length) : IRow w A l := by
  subst hn
  have := h.cells'
  rw [Cells, i64s_length] at this
  refine this.congr fun j hj => ?_
  simp [at', i64s, iv, List.getD, hj]

theorem IRow.of_own {w : World} {base : Nat} {A : Option Addr} {n c : Nat} {l : List Int} (h : w.ownsRow base 3 1 (.slice A n c) n (i64s l)) (hn : n = l.length) : IRow w A l := by
  subst hn
  exact World.ownsRow.irow h rfl

/-- the residual number i -/
def resAt (px : List Int) (W : Nat) (m : Int) (i : Nat) : Int := foldI ((px.getD i 0 - predI px W i + (m + 1)) % (m + 1)) (m + 1)
def resI (px : List Int) (W : Nat) (m : Int) : List Int := (List.range px.length).map (resAt px W m)
theorem resI_length (px : List Int) (W : Nat) (m : Int) : (resI px W m).length = px.length := by simp [resI]
theorem resI_grey {px : List Int} {m : Int} (hm : 0 ≤ m) (W : Nat) : Grey m (resI px W m) := fun x hx => by
  obtain ⟨i, -, rfl⟩ := List.mem_map.1 hx
  have h1 := Int.emod_nonneg (px.getD i 0 - predI px W i + (m + 1)) (show m + 1 ≠ 0 by omega)
  have h2 := Int.emod_lt_of_pos (px.getD i 0 - predI px W i + (m + 1)) (show 0 < m + 1 by omega)
  have := foldI_le h1 h2
  unfold resAt
  omega
theorem upto_succ' (f : Nat → Int) (k : Nat) : (List.range (k + 1)).map f = (List.range k).map f ++ [f k] := by rw [List.range_succ, List.map_append]; rfl

set_option maxRecDepth 100000 in
set_option maxHeartbeats 1000000 in
theorem residuals_any {w : World} {A : Option Addr} {n c : Nat} {px : List Int} (hr : IRow w A px) (hn : n = px.length) (W : Nat) (H m : Int) (hW : 1 ≤ W ∧ W ≤ 64) (hl : n ≤ 4096) (hm : 1 ≤ m ∧ m ≤ 65535) (hg : Grey m px) :
    Calls Try.prog 54 #[.agg #[.int .i64 (W : Nat), .int .i64 H, .int .i64 m, .slice A n c]] w fun e w' => ∃ V, e = .returned V ∧ w'.ownsRow w.heap.size 3 1 V n (i64s (resI px W m)) ∧ Keeps w w' := by
  subst hn
  obtain ⟨i0, hi, hz0, hz1, hz2⟩ := info_parts info_i64
  have hlI : (px.length : Int) ≤ 4096 := by omega
  have hWI : (1 : Int) ≤ W ∧ (W : Int) ≤ 64 := by omega
  have hv : Grey 65535 px := fun x hx => by have := hg x hx; omega
  obtain ⟨W0, hW0⟩ : ∃ W0, w.alloc (.cells #[.int .i64 (W : Nat), .int .i64 H, .int .i64 m, .slice A px.length c] 25) = W0 := ⟨_, rfl⟩
  have hb : Own W0 w.heap.size 25 [.int .i64 (W : Nat), .int .i64 H, .int .i64 m, .slice A px.length c] := hW0 ▸ Own.new w _ _
  have l2 : W0.cell? ⟨w.heap.size, 2, none⟩ = some (.int .i64 m) := hb.cell 2
  have l3 : W0.cell? ⟨w.heap.size, 3, none⟩ = some (.slice A px.length c) := hb.cell 3
  have hk0 : Keeps w W0 := hW0 ▸ (Below.refl _ _).alloc (Nat.le_refl _) _
  have hr0 := hr.below hk0
  have hlo := hk0.size
  have HG := Lib.hid hg
  have HV := Lib.hid hv
  clear hr hg hv
  go_enter Try.func54, Try.ntmps54
  go_wp2
  clear hW0 l2 l3
  go_loopw [13, 4] (fun i g wr => ∃ k : Nat, k ≤ px.length ∧ i = .int .i64 (k : Nat) ∧ wr.ownsRow W0.heap.size 3 1 g k (i64s ((List.range k).map (resAt px W m))) ∧ Keeps W0 wr) (fun i _ _ => px.length - (intOf i).toNat)
  case atStart => exact ⟨0, Nat.zero_le _, rfl, World.ownsRow_nil _ _ _ _, Below.refl _ _⟩
  case round =>
    obtain ⟨k, hkd, rfl, hown, hk⟩ := hrel
    have hb1 := hb.below hk
    have b0 := hb1.cell 0
    have b3 := hb1.cell 3
    simp only [List.getElem?_cons_zero, List.getElem?_cons_succ] at b0 b3
    by_cases hlt : k < px.length
    · obtain ⟨b, o, rfl, c1⟩ := IRow.at (hr0.below hk) (j := k) (by omega)
      have hp := predI_le HG.out (by omega) W k
      have hx := HG.out.get (by omega) k
      have HR := Lib.hid (hr0.below hk)
      have HU := Lib.hid (upto_succ' (resAt px W m) k)
      have HA := Lib.hid (show resAt px W m k = foldI ((px.getD k 0 - predI px W k + (m + 1)) % (m + 1)) (m + 1) from rfl)
      obtain ⟨p, hpe⟩ : ∃ p, predI px W k = p := ⟨_, rfl⟩
      have HP := Lib.hid hpe
      rw [hpe] at hp HA
      clear hpe
      generalize px.getD k 0 = x at *
      obtain ⟨d, hd⟩ : ∃ d, (x - p + (m + 1)) % (m + 1) = d := ⟨_, rfl⟩
      have ed : (x - p + (m + 1)).tmod (m + 1) = d := by rw [Int.tmod_eq_emod_of_nonneg (by omega), hd]
      have d0 : 0 ≤ d := by rw [← hd]; exact Int.emod_nonneg _ (by omega)
      have d1 : d < m + 1 := by rw [← hd]; exact Int.emod_lt_of_pos _ (by omega)
      rw [hd] at HA
      have hf := foldI_le d0 d1
      clear hd
      go_wp2_with fail
      refine (predicted_any HR.out rfl W k hW (by omega) hl HV.out).mono ?_
      rintro e w1 ⟨rfl, hk1⟩
      rw [HP.out]
      have hown1 := (hown.keeps hk1).alloc (.cells #[.int .i64 (foldI d (m + 1))] 3)
      have hkk := (hk.trans' hk1).trans' ((Below.refl w1.heap.size w1).alloc (Nat.le_refl _) (.cells #[.int .i64 (foldI d (m + 1))] 3))
      go_wp2_with fail
      refine (folded_any d (m + 1) w1 d0 (by omega) (by omega)).mono ?_
      rintro e w2 ⟨rfl, rfl⟩
      go_wp2_with (at_builtin; refine wpList_append_own _ rfl _ _ 23 rfl W0.heap.size 3 i0 (.int .i64 0) 1 8 Try.underlying23 hi hz0 hz1 hz2 rfl (by decide) _ _ _ rfl hown1 ⟨w2.heap.size, 0, none⟩ 1 1 [.int .i64 (foldI d (m + 1))] rfl rfl (cell_one_new _ _ _) (by simp [Value.oneCell']) (by simp only [maxLen]; omega) (by omega) hkk.size ?_; intro v' w3 hown3 hgrow hnil)
      have hk3 : Keeps W0 w3 := hkk.grown hgrow hkk.size (fun b e => (hown1.lt b e).1)
      go_roundw
      case rel => exact ⟨k + 1, by omega, by go_num, by rw [HU.out, HA.out, i64s_snoc]; exact hown3, hk3⟩
      case measure => simp [intOf]; omega
    · obtain rfl : k = px.length := by omega
      go_wp2
      go_ret
      exact ⟨_, rfl, hown.down hlo, hk0.trans' hk⟩
end Go.Proofs.Ytbkcnhbdjllojaa
