/- The document's residuals; Residuals: the walks. -/
import Derived.Test.YtbkcnhbdjllojaaRest
import Derived.Test.YtbkcnhbdjllojaaMem3
namespace Go.Proofs.Ytbkcnhbdjllojaa
open Go.RowKit Go.Shelf

set_option maxRecDepth 100000 in
theorem fResiduals_no {w : World} {A : Option Addr} {c : Nat} {px : List Int} (hr : IRow w A px) (W H m : Int) (hl : px.length ≤ maxLen) (hc : rasC W H m px ≠ 0) :
    Calls Try.prog 22 #[.agg #[.int .i64 W, .int .i64 H, .int .i64 m, .slice A px.length c]] w fun e w' => e = .returned (.tuple #[.slice none 0 0, .int .i64 (rasC W H m px)]) ∧ Keeps w w' := by
  obtain ⟨W0, hW0⟩ : ∃ W0, w.alloc (.cells #[.int .i64 W, .int .i64 H, .int .i64 m, .slice A px.length c] 25) = W0 := ⟨_, rfl⟩
  have hb : Own W0 w.heap.size 25 [.int .i64 W, .int .i64 H, .int .i64 m, .slice A px.length c] := hW0 ▸ Own.new w _ _
  have l0 : W0.cell? ⟨w.heap.size, 0, none⟩ = some (.int .i64 W) := hb.cell 0
  have l1 : W0.cell? ⟨w.heap.size, 1, none⟩ = some (.int .i64 H) := hb.cell 1
  have l2 : W0.cell? ⟨w.heap.size, 2, none⟩ = some (.int .i64 m) := hb.cell 2
  have l3 : W0.cell? ⟨w.heap.size, 3, none⟩ = some (.slice A px.length c) := hb.cell 3
  have hk0 : Keeps w W0 := hW0 ▸ (Below.refl _ _).alloc (Nat.le_refl _) _
  have HC := Lib.hid (rcheck_any (c := c) (hr.below hk0) W H m hl)
  obtain ⟨r, hrr⟩ : ∃ r, rasC W H m px = r := ⟨_, rfl⟩
  rw [hrr] at HC hc ⊢
  have hne : (r != 0) = true := by simpa using hc
  clear hrr hr hc
  go_enter Try.func22, Try.ntmps22
  go_wp2_with fail
  refine HC.out.mono ?_
  rintro e w1 ⟨rfl, hk1⟩
  go_wp2
  go_ret2
  exact ⟨rfl, hk0.trans' hk1⟩
theorem rasC_0 {W H m : Int} {px : List Int} (h : rasC W H m px = 0) : (1 ≤ W ∧ W ≤ 64) ∧ (1 ≤ H ∧ H ≤ 64) ∧ (1 ≤ m ∧ m ≤ 65535) ∧ (px.length : Int) = W * H ∧ px.length ≤ 4096 ∧ Grey m px := by
  unfold rasC at h
  split at h
  · rename_i h1
    obtain ⟨h1, h2, h3, h4, h5, h6, h7, h8⟩ := h1
    have hq : W * H ≤ 64 * 64 := Int.mul_le_mul (by omega) (by omega) (by omega) (by omega)
    exact ⟨⟨h1, h2⟩, ⟨h3, h4⟩, ⟨h5, h6⟩, h7, by omega, h8⟩
  · cases h
set_option maxRecDepth 100000 in
theorem fResiduals_yes {w : World} {A : Option Addr} {c : Nat} {px : List Int} (hr : IRow w A px) (W : Nat) (H m : Int) (hc : rasC W H m px = 0) :
    Calls Try.prog 22 #[.agg #[.int .i64 (W : Nat), .int .i64 H, .int .i64 m, .slice A px.length c]] w fun e w' => ∃ V, e = .returned (.tuple #[V, .int .i64 0]) ∧ IOwn w' w.heap.size V (resI px W m) ∧ Keeps w w' := by
  obtain ⟨hW, hH, hm, hL, hl, hg⟩ := rasC_0 hc
  obtain ⟨W0, hW0⟩ : ∃ W0, w.alloc (.cells #[.int .i64 (W : Nat), .int .i64 H, .int .i64 m, .slice A px.length c] 25) = W0 := ⟨_, rfl⟩
  have hb : Own W0 w.heap.size 25 [.int .i64 (W : Nat), .int .i64 H, .int .i64 m, .slice A px.length c] := hW0 ▸ Own.new w _ _
  have l0 : W0.cell? ⟨w.heap.size, 0, none⟩ = some (.int .i64 (W : Nat)) := hb.cell 0
  have l1 : W0.cell? ⟨w.heap.size, 1, none⟩ = some (.int .i64 H) := hb.cell 1
  have l2 : W0.cell? ⟨w.heap.size, 2, none⟩ = some (.int .i64 m) := hb.cell 2
  have l3 : W0.cell? ⟨w.heap.size, 3, none⟩ = some (.slice A px.length c) := hb.cell 3
  have hk0 : Keeps w W0 := hW0 ▸ (Below.refl _ _).alloc (Nat.le_refl _) _
  have HC := Lib.hid (rcheck_any (c := c) (hr.below hk0) W H m (by simp only [maxLen]; omega))
  rw [hc] at HC
  have hlo := hk0.size
  have HR := fun w1 (hk : Keeps W0 w1) => Lib.hid (residuals_any (c := c) ((hr.below hk0).below hk) rfl W H m (by omega) hl hm hg)
  have HLN := Lib.hid (resI_length px W m)
  clear hr hg hc hL
  go_enter Try.func22, Try.ntmps22
  go_wp2_with fail
  refine HC.out.mono ?_
  rintro e w1 ⟨rfl, hk1⟩
  have hb1 := hb.below hk1
  have l0 : w1.cell? ⟨w.heap.size, 0, none⟩ = some (.int .i64 (W : Nat)) := hb1.cell 0
  have l1 : w1.cell? ⟨w.heap.size, 1, none⟩ = some (.int .i64 H) := hb1.cell 1
  have l2 : w1.cell? ⟨w.heap.size, 2, none⟩ = some (.int .i64 m) := hb1.cell 2
  have l3 : w1.cell? ⟨w.heap.size, 3, none⟩ = some (.slice A px.length c) := hb1.cell 3
  go_wp2_with fail
  refine (HR _ hk1).out.mono ?_
  rintro e w2 ⟨V, rfl, hV, hk2⟩
  have hV' : IOwn w2 w.heap.size V (resI px W m) := by
    unfold IOwn
    rw [HLN.out]
    exact hV.down (by have := hk1.size; omega)
  have HV := Lib.hid hV'
  clear hV hV'
  go_wp2
  go_ret2
  exact ⟨_, rfl, HV.out, (hk0.trans' hk1).trans' hk2⟩

set_option maxRecDepth 100000 in
set_option maxHeartbeats 4000000 in
theorem lresiduals_any {w : World} {A : Option Addr} {c : Nat} {px : List Int} (hr : IRow w A px) (W H : Nat) (m : Int) (hc : rasC W H m px = 0) :
    Calls Try.prog 26 #[.agg #[.int .i64 (W : Nat), .int .i64 (H : Nat), .int .i64 m, .slice A px.length c]] w fun e w' => ∃ V, e = .returned V ∧ IOwn w' w.heap.size V (resI px W m) ∧ Keeps w w' := by
  obtain ⟨hW, hH, hm, hL, hl, hg⟩ := rasC_0 hc
  obtain ⟨i0, hi, hz0, hz1, hz2⟩ := info_parts info_i64
  have hLn : px.length = H * W := by
    have : ((H * W : Nat) : Int) = (px.length : Int) := by rw [hL]; push_cast; rw [Int.mul_comm]
    omega
  have hlI : (px.length : Int) ≤ 4096 := by omega
  have hv : Grey 65535 px := fun x hx => by have := hg x hx; omega
  obtain ⟨W0, hW0⟩ : ∃ W0, w.alloc (.cells #[.int .i64 (W : Nat), .int .i64 (H : Nat), .int .i64 m, .slice A px.length c] 25) = W0 := ⟨_, rfl⟩
  have hb : Own W0 w.heap.size 25 [.int .i64 (W : Nat), .int .i64 (H : Nat), .int .i64 m, .slice A px.length c] := hW0 ▸ Own.new w _ _
  have hk0 : Keeps w W0 := hW0 ▸ (Below.refl _ _).alloc (Nat.le_refl _) _
  have hs0 : W0.heap.size = w.heap.size + 1 := by rw [← hW0]; simp
  have HS0 := Lib.hid hs0
  have hr0 := hr.below hk0
  have l0 : (W0.alloc (.cells #[] 3)).cell? ⟨w.heap.size, 0, none⟩ = some (.int .i64 (W : Nat)) := (hb.alloc _).cell 0
  have l1 : (W0.alloc (.cells #[] 3)).cell? ⟨w.heap.size, 1, none⟩ = some (.int .i64 (H : Nat)) := (hb.alloc _).cell 1
  have l2 : (W0.alloc (.cells #[] 3)).cell? ⟨w.heap.size, 2, none⟩ = some (.int .i64 m) := (hb.alloc _).cell 2
  have HG := Lib.hid hg
  have HV := Lib.hid hv
  have HLn := Lib.hid hLn
  clear hr hg hv hc hL hLn hs0
  go_enter Try.func26, Try.ntmps26
  go_wp2
  have hown0 := made1 W0 3
  have hk1 : Keeps W0 (W0.alloc (.cells #[] 3)) := (Below.refl _ _).alloc (Nat.le_refl _) _
  clear hW0 l0 l1 l2
  generalize W0.alloc (.cells #[] 3) = W1 at *
  go_loopw [14, 3] (fun i g wr => ∃ (y : Nat) (V : Value), y ≤ H ∧ i = .int .i64 (y : Nat) ∧ g = V ∧ wr.ownsRow W0.heap.size 3 1 V (y * W) (i64s ((List.range (y * W)).map (resAt px W m))) ∧ Keeps W0 wr) (fun i _ _ => H - (intOf i).toNat)
  case atStart => exact ⟨0, _, Nat.zero_le _, rfl, rfl, by rw [Nat.zero_mul]; exact hown0, hk1⟩
  case round =>
    obtain ⟨y, V0, hyd, rfl, rfl, hown0, hk⟩ := hrel
    have hb1 := hb.below hk
    have b0 := hb1.cell 0
    have b1 := hb1.cell 1
    simp only [List.getElem?_cons_zero, List.getElem?_cons_succ] at b0 b1
    by_cases hlt : y < H
    · have hyI : (y : Int) < H := by omega
      have hyw : y * W + W ≤ H * W := by rw [← Nat.succ_mul]; exact Nat.mul_le_mul_right _ hlt
      obtain ⟨q, hq⟩ : ∃ q, y * W = q := ⟨_, rfl⟩
      have HQ := Lib.hid hq
      have hqn : q + W ≤ px.length := by rw [HLn.out]; omega
      have em : (y : Int) * W = (q : Int) := by rw [← hq]; push_cast; rfl
      rw [hq] at hown0
      clear hq hyw
      go_wp2
      have hkw := hk
      clear hk hb1 b0 b1
      go_loopw [19, 3] (fun i g wr => ∃ (x : Nat) (V : Value), x ≤ W ∧ i = .int .i64 (x : Nat) ∧ g = V ∧ wr.ownsRow W0.heap.size 3 1 V (q + x) (i64s ((List.range (q + x)).map (resAt px W m))) ∧ Keeps W0 wr) (fun i _ _ => W - (intOf i).toNat)
      case atStart => exact ⟨0, _, Nat.zero_le _, rfl, rfl, hown0, hkw⟩
      case round =>
        obtain ⟨x, V, hxd, rfl, rfl, hown, hk⟩ := hrel
        have hb1 := hb.below hk
        have b0 := hb1.cell 0
        have b3 := hb1.cell 3
        simp only [List.getElem?_cons_zero, List.getElem?_cons_succ] at b0 b3
        by_cases hxl : x < W
        · have hxI : (x : Int) < W := by omega
          obtain ⟨k, hke⟩ : ∃ k, q + x = k := ⟨_, rfl⟩
          have hkn : k < px.length := by omega
          have hQ := HQ.out
          have HP := fun u (h : IRow u A px) => Lib.hid (prediction_q (c := c) h rfl W k x y (by omega) (by omega) (by omega) HV.out hxl (by omega) (by rw [hQ]; exact hke.symm))
          have HRX := Lib.hid (hr0.below hk)
          obtain ⟨b, o, rfl, c1⟩ := IRow.at (hr0.below hk) (j := k) (by omega)
          have hp := predI_le HG.out (by omega) W k
          have hx := HG.out.get (by omega) k
          have HU : Hid ((List.range (q + (x + 1))).map (resAt px W m) = (List.range k).map (resAt px W m) ++ [resAt px W m k]) := Lib.hid (by rw [show q + (x + 1) = k + 1 by omega]; exact upto_succ' _ _)
          have hA : resAt px W m k = foldI ((px.getD k 0 - predI px W k + (m + 1)) % (m + 1)) (m + 1) := rfl
          have ek : (q : Int) + x = (k : Int) := by omega
          obtain ⟨p, hpe⟩ : ∃ p, predI px W k = p := ⟨_, rfl⟩
          rw [hpe] at hp hA HP
          clear hpe
          generalize px.getD k 0 = v at *
          obtain ⟨d, hd⟩ : ∃ d, (v - p + (m + 1)) % (m + 1) = d := ⟨_, rfl⟩
          have ed : (v - p + (m + 1)).tmod (m + 1) = d := by rw [Int.tmod_eq_emod_of_nonneg (by omega), hd]
          have d0 : 0 ≤ d := by rw [← hd]; exact Int.emod_nonneg _ (by omega)
          have d1 : d < m + 1 := by rw [← hd]; exact Int.emod_lt_of_pos _ (by omega)
          rw [hd] at hA
          rw [hke] at hown
          have hw1 : IntKind.i64.wrap (q : Int) = q := IntWalk.i64_in _ (by omega)
          have hw2 : IntKind.i64.wrap (k : Int) = k := IntWalk.i64_in _ (by omega)
          have hw3 : IntKind.i64.wrap (v - p) = v - p := IntWalk.i64_in _ (by omega)
          have hw4 : IntKind.i64.wrap (v - p + (m + 1)) = v - p + (m + 1) := IntWalk.i64_in _ (by omega)
          have hmz : ¬ (m + 1 = 0) := by omega
          have HKE := Lib.hid hke
          have HQX := Lib.hid hQ
          clear hd hke hQ
          by_cases s1 : 2 * d ≤ m + 1
          · by_cases s2 : 0 < d
            · have HA : Hid (resAt px W m k = 2 * d - 1) := Lib.hid (by rw [hA, foldI, if_pos s1, if_pos s2])
              clear hA
              go_wp2
              go_quiet ((go_at_call 61; exact Calls.quiet_of (HP _ (Row.drewN HRX.out _)).out))
              clear hw1 hw2 hw3 hw4 ed ek em
              have hkq : Keeps W0 (wr.drewN nq) := below_drewN hk nq
              have hown1 := World.ownsRow.alloc (w := wr.drewN nq) hown (.cells #[.int .i64 (2 * d - 1)] 3)
              have hkk := hkq.trans' ((Below.refl (wr.drewN nq).heap.size (wr.drewN nq)).alloc (Nat.le_refl _) (.cells #[.int .i64 (2 * d - 1)] 3))
              go_wp2_with (at_builtin; refine wpList_append_own _ rfl _ _ 23 rfl W0.heap.size 3 i0 (.int .i64 0) 1 8 Try.underlying23 hi hz0 hz1 hz2 rfl (by decide) _ _ _ rfl hown1 ⟨(wr.drewN nq).heap.size, 0, none⟩ 1 1 [.int .i64 (2 * d - 1)] rfl rfl (cell_one_new _ _ _) (by simp [Value.oneCell']) (by simp only [maxLen]; omega) (by omega) hkk.size ?_; intro v' w3 hown3 hgrow hnil)
              have hk3 : Keeps W0 w3 := hkk.grown hgrow hkk.size (fun b e => (hown1.lt b e).1)
              go_roundw
              case rel => exact ⟨x + 1, _, by omega, by go_num, rfl, by rw [HU.out, HA.out, i64s_snoc, show q + (x + 1) = k + 1 by have := HKE.out; omega]; exact hown3, hk3⟩
              case measure => simp [intOf]; omega
            · have hd0 : d = 0 := by omega
              subst hd0
              have HA : Hid (resAt px W m k = 0) := Lib.hid (by rw [hA, foldI, if_pos s1, if_neg s2])
              clear hA
              go_wp2
              go_quiet ((go_at_call 61; exact Calls.quiet_of (HP _ (Row.drewN HRX.out _)).out))
              clear hw1 hw2 hw3 hw4 ed ek em
              have hkq : Keeps W0 (wr.drewN nq) := below_drewN hk nq
              have hown1 := World.ownsRow.alloc (w := wr.drewN nq) hown (.cells #[.int .i64 0] 3)
              have hkk := hkq.trans' ((Below.refl (wr.drewN nq).heap.size (wr.drewN nq)).alloc (Nat.le_refl _) (.cells #[.int .i64 0] 3))
              go_wp2_with (at_builtin; refine wpList_append_own _ rfl _ _ 23 rfl W0.heap.size 3 i0 (.int .i64 0) 1 8 Try.underlying23 hi hz0 hz1 hz2 rfl (by decide) _ _ _ rfl hown1 ⟨(wr.drewN nq).heap.size, 0, none⟩ 1 1 [.int .i64 0] rfl rfl (cell_one_new _ _ _) (by simp [Value.oneCell']) (by simp only [maxLen]; omega) (by omega) hkk.size ?_; intro v' w3 hown3 hgrow hnil)
              have hk3 : Keeps W0 w3 := hkk.grown hgrow hkk.size (fun b e => (hown1.lt b e).1)
              go_roundw
              case rel => exact ⟨x + 1, _, by omega, by go_num, rfl, by rw [HU.out, HA.out, i64s_snoc, show q + (x + 1) = k + 1 by have := HKE.out; omega]; exact hown3, hk3⟩
              case measure => simp [intOf]; omega
          · have HA : Hid (resAt px W m k = -2 * (d - (m + 1))) := Lib.hid (by rw [hA, foldI, if_neg s1]; omega)
            clear hA
            go_wp2
            go_quiet ((go_at_call 61; exact Calls.quiet_of (HP _ (Row.drewN HRX.out _)).out))
            clear hw1 hw2 hw3 hw4 ed ek em
            have hkq : Keeps W0 (wr.drewN nq) := below_drewN hk nq
            have hown1 := World.ownsRow.alloc (w := wr.drewN nq) hown (.cells #[.int .i64 (-2 * (d - (m + 1)))] 3)
            have hkk := hkq.trans' ((Below.refl (wr.drewN nq).heap.size (wr.drewN nq)).alloc (Nat.le_refl _) (.cells #[.int .i64 (-2 * (d - (m + 1)))] 3))
            go_wp2_with (at_builtin; refine wpList_append_own _ rfl _ _ 23 rfl W0.heap.size 3 i0 (.int .i64 0) 1 8 Try.underlying23 hi hz0 hz1 hz2 rfl (by decide) _ _ _ rfl hown1 ⟨(wr.drewN nq).heap.size, 0, none⟩ 1 1 [.int .i64 (-2 * (d - (m + 1)))] rfl rfl (cell_one_new _ _ _) (by simp [Value.oneCell']) (by simp only [maxLen]; omega) (by omega) hkk.size ?_; intro v' w3 hown3 hgrow hnil)
            have hk3 : Keeps W0 w3 := hkk.grown hgrow hkk.size (fun b e => (hown1.lt b e).1)
            go_roundw
            case rel => exact ⟨x + 1, _, by omega, by go_num, rfl, by rw [HU.out, HA.out, i64s_snoc, show q + (x + 1) = k + 1 by have := HKE.out; omega]; exact hown3, hk3⟩
            case measure => simp [intOf]; omega
        · obtain rfl : x = W := by omega
          go_wp2
          go_roundw
          case rel => exact ⟨y + 1, _, by omega, by go_num, rfl, by rw [Nat.succ_mul, HQ.out]; exact hown, hk⟩
          case measure => simp [intOf]; omega
    · obtain rfl : y = H := by omega
      go_wp2
      go_ret
      refine ⟨_, rfl, ?_, hk0.trans' hk⟩
      unfold IOwn
      rw [resI_length, resI, HLn.out]
      exact hown0.down (by have := HS0.out; omega)
end Go.Proofs.Ytbkcnhbdjllojaa
