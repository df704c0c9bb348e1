/- The document's restored: the walk. -/
import Derived.Test.YtbkcnhbdjllojaaRest
import Derived.Test.YtbkcnhbdjllojaaMem3
namespace Go.Proofs.Ytbkcnhbdjllojaa
open Go.RowKit Go.Shelf

set_option maxRecDepth 100000 in
set_option maxHeartbeats 4000000 in
theorem restored_any {w : World} {A : Option Addr} {c : Nat} {l : List Int} (hr : IRow w A l) (W : Nat) (H m : Int) (hW : 1 ≤ W ∧ W ≤ 64) (hm : 1 ≤ m ∧ m ≤ 65535) (hl : l.length ≤ 4096) (hg : Grey m l) :
    Calls Try.prog 30 #[.int .i64 (W : Nat), .int .i64 H, .int .i64 m, .slice A l.length c] w fun e w' => ∃ V, e = .returned (rasV W H m V) ∧ IOwn w' w.heap.size V (restI W m l) ∧ Keeps w w' := by
  obtain ⟨i0, hi, hz0, hz1, hz2⟩ := info_parts info_i64
  have hlI : (l.length : Int) ≤ 4096 := by omega
  have hWI : (1 : Int) ≤ W ∧ (W : Int) ≤ 64 := by omega
  have HG := Lib.hid hg
  have HR := Lib.hid hr
  have HL := Lib.hid (restU_length W m l)
  have HGR := Lib.hid (restU_grey (W := W) l (show 0 ≤ m by omega))
  obtain ⟨W0, hW0⟩ : ∃ W0, w.alloc (.cells #[.int .i64 0, .int .i64 0, .int .i64 0, .slice none 0 0] 25) = W0 := ⟨_, rfl⟩
  have hb : Own W0 w.heap.size 25 [.int .i64 0, .int .i64 0, .int .i64 0, .slice none 0 0] := hW0 ▸ Own.new w _ _
  have hk0 : Keeps w W0 := hW0 ▸ (Below.refl _ _).alloc (Nat.le_refl _) _
  have HS0 : Hid (W0.heap.size = w.heap.size + 1) := Lib.hid (by rw [← hW0]; simp)
  clear hr hg
  go_enter Try.func30, Try.ntmps30
  go_wp2
  clear hW0
  obtain ⟨W1, hW1⟩ : ∃ W1, (W0.alloc (.cells #[] 3)).alloc (.cells #[.int .i64 (W : Nat), .int .i64 H, .int .i64 m, .slice (some ⟨W0.heap.size, 0, none⟩) 0 0] 25) = W1 := ⟨_, rfl⟩
  have hb12 : Own W1 (W0.heap.size + 1) 25 [.int .i64 (W : Nat), .int .i64 H, .int .i64 m, .slice (some ⟨W0.heap.size, 0, none⟩) 0 0] := by
    rw [← hW1]; have := Own.new (W0.alloc (.cells #[] 3)) 25 [.int .i64 (W : Nat), .int .i64 H, .int .i64 m, .slice (some ⟨W0.heap.size, 0, none⟩) 0 0]; rwa [World.size_alloc] at this
  have hk1 : Keeps W0 W1 := hW1 ▸ keep2 W0 _ _
  have hown0 : W1.ownsRow (w.heap.size + 1) 3 1 (.slice (some ⟨W0.heap.size, 0, none⟩) 0 0) 0 [] := by
    rw [← hW1]
    exact ((made1 W0 3).alloc _).down (by have := HS0.out; omega)
  have hlt : W1.heap.size = W0.heap.size + 2 := by rw [← hW1]; simp
  have HS1 := Lib.hid hlt
  obtain ⟨b9, hb9⟩ : ∃ b9, W0.heap.size + 1 = b9 := ⟨_, rfl⟩
  have HB := Lib.hid hb9
  have hne0 : (Value.slice (some ⟨W0.heap.size, 0, none⟩) 0 0).ownBlock ≠ some b9 := by simp [Value.ownBlock]; omega
  rw [hb9] at hb12
  simp only [hb9]
  clear hlt hb9
  rw [hW1]
  clear hW1
  go_loopw [23] (fun i wr => ∃ k V, k ≤ l.length ∧ i = .int .i64 (k : Nat) ∧ wr.ownsRow (w.heap.size + 1) 3 1 V k (i64s (restU W m l k)) ∧ V.ownBlock ≠ some b9 ∧ Own wr b9 25 [.int .i64 (W : Nat), .int .i64 H, .int .i64 m, V] ∧ Below W0.heap.size W0 wr) (fun i _ => l.length - (intOf i).toNat)
  case atStart => exact ⟨0, _, Nat.zero_le _, rfl, hown0, hne0, hb12, hk1⟩
  case round =>
    obtain ⟨k, V, hkd, rfl, hown, hne, hbx, hk⟩ := hrel
    obtain ⟨A2, c2, rfl, hkc, hcm, hA2⟩ := hown.sl
    have hlen := HL.out k
    have hir : IRow wr A2 (restU W m l k) := IRow.of_own hown hlen.symm
    have hgk := HGR.out k
    have hU : restU W m l (k + 1) = restU W m l k ++ [restAt W m (restU W m l k) (l.getD k 0)] := rfl
    by_cases hlt : k < l.length
    · obtain ⟨b, o, rfl, c1⟩ := IRow.at (HR.out.below (hk0.trans' hk)) (j := k) (by omega)
      have hx := HG.out.get (by omega) k
      have hkI : (k : Int) < l.length := by omega
      generalize restU W m l k = px at *
      generalize l.getD k 0 = x at *
      have hv : Grey 65535 px := fun x hx => by have := hgk x hx; omega
      have hp := predI_le hgk (by omega) W k
      have hu := unfI_le hx.1 hx.2
      have HA : Hid (restAt W m px x = (predI px W k + unfI x) % (m + 1)) := Lib.hid (by rw [restAt, hlen])
      have hdm := Nat.div_add_mod k W
      have hmod := Nat.mod_lt k (show 0 < W by omega)
      have hdiv := Nat.div_le_self k W
      have HP := fun u (h : IRow u A2 px) => Lib.hid (prediction_any (n := k) (c := c2) h hlen.symm W k (k % W) (k / W) (by omega) (.inr rfl) (by omega) hv hmod (by omega) (by rw [Nat.mul_comm]; omega))
      have em : (k : Int).tmod W = ((k % W : Nat) : Int) := by rw [Int.tmod_eq_emod_of_nonneg (by omega)]; omega
      have ed : (k : Int).tdiv W = ((k / W : Nat) : Int) := by rw [Int.tdiv_eq_ediv_of_nonneg (by omega)]; omega
      have hmz : ¬ (W = 0) ∧ ¬ (m + 1 = 0) := by omega
      have HU := Lib.hid hU
      have HI2 : Hid (IRow wr.drew A2 px) := Lib.hid hir
      obtain ⟨p, hpe⟩ : ∃ p, predI px W k = p := ⟨_, rfl⟩
      obtain ⟨f, hfe⟩ : ∃ f, unfI x = f := ⟨_, rfl⟩
      rw [hpe] at hp HA HP
      rw [hfe] at hu HA
      obtain ⟨r, hd⟩ : ∃ d, (p + f) % (m + 1) = d := ⟨_, rfl⟩
      have h1 : (p + f + (m + 1)).tmod (m + 1) = r := by
        rw [← hd, Int.tmod_eq_emod_of_nonneg (by omega), Int.add_emod_right]
      rw [hd] at HA
      have e1 : x.tmod 2 = x % 2 := Int.tmod_eq_emod_of_nonneg hx.1
      have e2 : (x + 1).tdiv 2 = (x + 1) / 2 := Int.tdiv_eq_ediv_of_nonneg (by omega)
      have e3 : (-x).tdiv 2 = -(x / 2) := by rw [Int.neg_tdiv, Int.tdiv_eq_ediv_of_nonneg hx.1]
      have hk2I : ((k / W : Nat) : Int) ≤ 4096 := by omega
      clear hdm hmod hdiv hd hpe hir hU hv hgk hlen
      generalize k % W = k1 at *
      generalize k / W = k2 at *
      have hw1 : IntKind.i64.wrap (p + f) = p + f := IntWalk.i64_in _ (by omega)
      have hw2 : IntKind.i64.wrap (p + f + (m + 1)) = p + f + (m + 1) := IntWalk.i64_in _ (by omega)
      have hw5 : IntKind.i64.wrap (k2 : Int) = k2 := IntWalk.i64_in _ (by omega)
      have q3 := hbx.cell 3
      have hownd : wr.drew.ownsRow (w.heap.size + 1) 3 1 (.slice A2 k c2) k (i64s px) := hown
      simp only [List.getElem?_cons_zero, List.getElem?_cons_succ] at q3
      by_cases s : x % 2 = 0
      · have hf : -(x / 2) = f := by rw [← hfe, unfI, if_neg (by omega)]
        have s1 : ((x % 2) == 0) = true := by simp [s]
        rw [hf] at e3
        clear hf hfe s
        go_wp2
        go_region_law (first
            | (go_simp; go_at_call 61; (with_reducible refine (HP wr.drew HI2.out).out.mono ?_); rintro e w1 ⟨rfl, hk1⟩; have hb1 := (Own.drew hbx).below hk1; have k3 := hb1.cell 3; have k3b := (hb1.alloc (.cells #[.int .i64 r] 3)).cell 3; simp only [List.getElem?_cons_zero, List.getElem?_cons_succ] at k3 k3b; have hown1 := hownd.keeps hk1; have hz : b9 < w1.heap.size := Nat.lt_of_lt_of_le hbx.lt hk1.size; have hzz : w.heap.size + 1 ≤ w1.heap.size := (by have := HS0.out; have := HB.out; omega); go_simp)
            | (refine step_append_at (by rfl) _ _ 23 (by rfl) (w.heap.size + 1) 3 i0 (.int .i64 0) 1 8 Try.underlying23 hi hz0 hz1 hz2 rfl (by decide) (.slice A2 k c2) k (i64s px) (by rfl) (hown1.alloc (.cells #[.int .i64 r] 3)) ⟨w1.heap.size, 0, none⟩ 1 1 [.int .i64 r] (by rfl) rfl (cell_one_new _ _ _) (by simp [Value.oneCell']) (by simp only [maxLen]; omega) (by omega) (by simp; omega) ?_; intro v' w3 hown3 hgrow hat; obtain ⟨A3, c3, rfl, -⟩ := hown3.sl; have hb3 := (hb1.alloc (.cells #[.int .i64 r] 3)).grown hgrow (fun e => hne e.symm); have k4 := hb3.cell 3; have f4 := hb3.frozen 3; simp only [List.getElem?_cons_zero, List.getElem?_cons_succ] at k4; have hne3 := blk_ne hat hne (by simp; omega); have hk3 : Keeps W0 w3 := ((Keeps.trans' (Below.drew hk) hk1).trans' ((Below.refl w1.heap.size w1).alloc (Nat.le_refl _) (.cells #[.int .i64 r] 3))).grown hgrow (by have := hk.size; have := hk1.size; simp at *; omega) (fun b e => by have := (hown1.lt b e).1; have := HS0.out; omega)))
        all_goals
          clear hw1 hw2 hw5 h1 hmz k3 k3b k4 f4 q3
          have hown4 := ownsRow_far_ne hown3 (p := ⟨b9, 3, none⟩) hne3 (.slice A3 (k + 1) c3)
          have hb4 := hb3.set 3 (.slice A3 (k + 1) c3)
          have hk4 := hk3.set (p := ⟨b9, 3, none⟩) (by have := HS0.out; have := HB.out; show W0.heap.size ≤ b9; omega) (.slice A3 (k + 1) c3)
          go_wp2
          go_roundw
          case rel => exact ⟨k + 1, _, by omega, by go_num, by rw [HU.out, HA.out, i64s_snoc]; exact hown4, hne3, hb4, hk4⟩
          case measure => simp [intOf]; omega
      · have hf : (x + 1) / 2 = f := by rw [← hfe, unfI, if_pos (by omega)]
        have s1 : ((x % 2) == 0) = false := by simp [s]
        rw [hf] at e2
        clear hf hfe e3
        go_wp2
        go_region_law (first
            | (go_simp; go_at_call 61; (with_reducible refine (HP wr.drew HI2.out).out.mono ?_); rintro e w1 ⟨rfl, hk1⟩; have hb1 := (Own.drew hbx).below hk1; have k3 := hb1.cell 3; have k3b := (hb1.alloc (.cells #[.int .i64 r] 3)).cell 3; simp only [List.getElem?_cons_zero, List.getElem?_cons_succ] at k3 k3b; have hown1 := hownd.keeps hk1; have hz : b9 < w1.heap.size := Nat.lt_of_lt_of_le hbx.lt hk1.size; have hzz : w.heap.size + 1 ≤ w1.heap.size := (by have := HS0.out; have := HB.out; omega); go_simp)
            | (refine step_append_at (by rfl) _ _ 23 (by rfl) (w.heap.size + 1) 3 i0 (.int .i64 0) 1 8 Try.underlying23 hi hz0 hz1 hz2 rfl (by decide) (.slice A2 k c2) k (i64s px) (by rfl) (hown1.alloc (.cells #[.int .i64 r] 3)) ⟨w1.heap.size, 0, none⟩ 1 1 [.int .i64 r] (by rfl) rfl (cell_one_new _ _ _) (by simp [Value.oneCell']) (by simp only [maxLen]; omega) (by omega) (by simp; omega) ?_; intro v' w3 hown3 hgrow hat; obtain ⟨A3, c3, rfl, -⟩ := hown3.sl; have hb3 := (hb1.alloc (.cells #[.int .i64 r] 3)).grown hgrow (fun e => hne e.symm); have k4 := hb3.cell 3; have f4 := hb3.frozen 3; simp only [List.getElem?_cons_zero, List.getElem?_cons_succ] at k4; have hne3 := blk_ne hat hne (by simp; omega); have hk3 : Keeps W0 w3 := ((Keeps.trans' (Below.drew hk) hk1).trans' ((Below.refl w1.heap.size w1).alloc (Nat.le_refl _) (.cells #[.int .i64 r] 3))).grown hgrow (by have := hk.size; have := hk1.size; simp at *; omega) (fun b e => by have := (hown1.lt b e).1; have := HS0.out; omega)))
        all_goals
          clear hw1 hw2 hw5 h1 hmz k3 k3b k4 f4 q3
          have hown4 := ownsRow_far_ne hown3 (p := ⟨b9, 3, none⟩) hne3 (.slice A3 (k + 1) c3)
          have hb4 := hb3.set 3 (.slice A3 (k + 1) c3)
          have hk4 := hk3.set (p := ⟨b9, 3, none⟩) (by have := HS0.out; have := HB.out; show W0.heap.size ≤ b9; omega) (.slice A3 (k + 1) c3)
          go_wp2
          go_roundw
          case rel => exact ⟨k + 1, _, by omega, by go_num, by rw [HU.out, HA.out, i64s_snoc]; exact hown4, hne3, hb4, hk4⟩
          case measure => simp [intOf]; omega
    · obtain rfl : k = l.length := by omega
      have hR : Hid (restI W m l = restU W m l l.length) := Lib.hid rfl
      generalize restU W m l l.length = px at *
      have q0 := hbx.cell 0
      have q1 := hbx.cell 1
      have q2 := hbx.cell 2
      have q3 := hbx.cell 3
      have hb10 := hb.keep hk (by have := HS0.out; omega)
      have f0 := hb10.frozen 0
      have f1 := hb10.frozen 1
      have f2 := hb10.frozen 2
      have f3 := hb10.frozen 3
      have s0 := hb10.cell 0
      have s1 := hb10.cell 1
      have s2 := hb10.cell 2
      have s3 := hb10.cell 3
      simp only [List.getElem?_cons_zero, List.getElem?_cons_succ] at q0 q1 q2 q3 s0 s1 s2 s3
      go_wp2
      have hb11 := hb10.four (.int .i64 (W : Nat)) (.int .i64 H) (.int .i64 m) (.slice A2 l.length c2)
      have r0 := hb11.cell 0
      have r1 := hb11.cell 1
      have r2 := hb11.cell 2
      have r3 := hb11.cell 3
      simp only [List.getElem?_cons_zero, List.getElem?_cons_succ] at r0 r1 r2 r3
      refine bodyPost_ret (v := rasV W H m (.slice A2 l.length c2)) (by simp [results, Try.results30, go_sem, r0, r1, r2, r3]) rfl ?_
      refine ⟨_, rfl, ?_, Keeps.four (hk0.trans' hk) (Nat.le_refl _) _ _ _ _⟩
      rw [hR.out]
      unfold IOwn
      rw [hlen]
      exact (hown.four (by omega) _ _ _ _).down (by omega)
end Go.Proofs.Ytbkcnhbdjllojaa
