/- corner.scores: the walk. -/
import Derived.Test.YtecibfncnaccjaaTScoP
import Derived.Test.YtecibfncnaccjaaTTurn
import Derived.Test.YtecibfncnaccjaaPhi
import Derived.Deep.DeepCutAuto
namespace Go.Proofs.Ytecibfncnaccjaa
open Go.RowKit Go.Shelf
set_option maxRecDepth 100000 in
theorem scoAt_any {w : World} {b d : Nat} {A : Option Addr} {n c : Nat} {px : List Int} {W H : Nat} {m : Int} (q : Own w b 24 [.int .i64 (W : Nat), .int .i64 (H : Nat), .int .i64 m, .slice A n c]) (z : Own w d 3 [.int .i64 (W : Nat)]) (hr : IRow w A px) (hn : n = px.length) (hl : n = W * H) (hW : W ≤ 64) (hH : H ≤ 64) (xi yi : Int) (x y : Nat) (hx : xi = x) (hy : yi = y) (hxW : x < W) (hyH : y < H) :
    Calls Try.prog 26 #[.int .i64 xi, .int .i64 yi, .pointer (some ⟨b, 0, none⟩), .pointer (some ⟨d, 0, none⟩)] w fun e w' => e = .returned (.int .i64 (pxL px W x y)) ∧ w' = w := by
  subst hx hy hn
  have hi : y * W + x < px.length := by rw [hl]; exact idx_lt hxW hyH
  have h4 : px.length ≤ 64 * 64 := by rw [hl]; exact Nat.mul_le_mul hW hH
  obtain ⟨b', o, rfl, c1⟩ := IRow.at hr hi
  have e : px.getD (y * W + x) 0 = pxL px W x y := rfl
  rw [e] at c1
  clear e
  obtain ⟨v, hv⟩ : ∃ v, pxL px W x y = v := ⟨_, rfl⟩
  rw [hv] at c1 ⊢
  have hq : (y : Int) * (W : Int) = ((y * W : Nat) : Int) := by simp
  have hyW : y * W ≤ 64 * 64 := Nat.mul_le_mul (by omega) hW
  obtain ⟨k, hk⟩ : ∃ k, y * W = k := ⟨_, rfl⟩
  rw [hk] at hq c1 hi hyW
  have hkI : (k : Int) ≤ 4096 := by omega
  have hxI : (x : Int) ≤ 64 := by omega
  have hiI : (k : Int) + (x : Int) < px.length := by omega
  have hnI : (px.length : Int) ≤ 4096 := by omega
  have x3 := q.cell 3
  have z0 := z.cell 0
  simp only [List.getElem?_cons_zero, List.getElem?_cons_succ] at x3 z0
  clear q z hr hl hv hk hi hyW hyH hxW hW hH h4
  go_enter Try.func26, Try.ntmps26
  go_wp2
  go_ret
  exact ⟨rfl, rfl⟩
theorem make_full (n : Nat) (h : n ≤ 1000000) : ∀ u : World, (Instr.makeSlice 22 (.int .i64 (n : Nat)) (.int .i64 (n : Nat))).run Try.prog u =
    .ok (.slice (some ⟨u.heap.size, 0, none⟩) n n) (u.alloc (.cells (madeCells #[.int .i64 0] n) 3)) := fun u => by
  obtain ⟨i0, hi, hz0, hz1, hz2⟩ := info_parts info_intT
  have h := run_make (P := Try.prog) u 22 3 i0 (.int .i64 0) Try.underlying22 hi hz0 .i64 .i64 (n : Int) (n : Int) (by omega) (by omega) (by rw [hz2]; omega) (by omega)
  simpa [hz1, Value.cells] using h
/-- what the loops keep -/
def SInv (w : World) (W H : Nat) (m : Int) (A : Option Addr) (c : Nat) (px : List Int) (d g : Nat) (k : Nat) (wr : World) : Prop :=
  Own wr w.heap.size 24 [.int .i64 (W : Nat), .int .i64 (H : Nat), .int .i64 m, .slice A px.length c] ∧ Own wr d 3 [.int .i64 (W : Nat)] ∧ Own wr g 3 (i64s (scoN W H px k)) ∧ Keeps w wr
/-- a list that is handed back -/
def GivesInts (l : List Int) (w : World) (e : Ending) (w' : World) : Prop := ∃ A c, e = .returned (.slice A l.length c) ∧ IRow w' A l ∧ Keeps w w'
set_option maxRecDepth 100000 in
set_option maxHeartbeats 8000000 in
theorem scores_any {w : World} {A : Option Addr} {c : Nat} {px : List Int} {W H : Nat} {m : Int} (hr : IRow w A px) (hv : rasC W H m px = 0) (hm : m ≤ 1023) :
    Calls Try.prog 15 #[.agg #[.int .i64 (W : Nat), .int .i64 (H : Nat), .int .i64 m, .slice A px.length c]] w (GivesInts (scoL W H px) w) := by
  obtain ⟨hW, hH, hm1, hl, hp⟩ := rasC_ok hv
  obtain ⟨W1, hW1⟩ : ∃ W1, w.alloc (.cells #[.int .i64 (W : Nat), .int .i64 (H : Nat), .int .i64 m, .slice A px.length c] 24) = W1 := ⟨_, rfl⟩
  have hk1 : Keeps w W1 := hW1 ▸ box2 w _
  have p1 : Own W1 w.heap.size 24 [.int .i64 (W : Nat), .int .i64 (H : Nat), .int .i64 m, .slice A px.length c] := hW1 ▸ Own.new w _ _
  obtain ⟨n, hn⟩ : ∃ n, W * H = n := ⟨_, rfl⟩
  have hq : (W : Int) * (H : Int) = (n : Int) := by rw [← hn]; simp
  have hn4 : n ≤ 4096 := by rw [← hn]; exact Nat.mul_le_mul hW.2 hH.2
  have hmk := make_full n (by omega)
  have hWI : (W : Int) ≤ 64 := by omega
  have hHI : (H : Int) ≤ 64 := by omega
  have hW1I : (1 : Int) ≤ W := by omega
  have hH1I : (1 : Int) ≤ H := by omega
  have HP1 := Lib.hid p1
  have HR := Lib.hid hr
  have HWH := Lib.hid (And.intro hW hH)
  have HL := Lib.hid hl
  have HN := Lib.hid hn
  have HPX : Hid (∀ x y, x < W → y < H → 0 ≤ pxL px W x y ∧ pxL px W x y ≤ 1023) := Lib.hid (fun x y hx hy => by
    have := hp _ (pxL_mem hl hx hy)
    omega)
  clear hr hv hm hm1 hl hp hn p1
  go_enter Try.func15, Try.ntmps15
  go_upto_region 1 with fail
  have hlt1 := HP1.out.lt
  have b2 := HP1.out.alloc (.cells #[.int .i64 0] 3)
  have l0 := HP1.out.cell 0
  have l1 := HP1.out.cell 1
  have m0 := b2.cell 0
  have m1 := b2.cell 1
  have b3 := b2.far (p := ⟨W1.heap.size, 0, none⟩) (by simp only; omega) (.int .i64 (W : Nat))
  have n1 := b3.cell 1
  have o0 := (Own.new W1 3 [.int .i64 0]).cell 0
  have o1 := (Own.new W1 3 [.int .i64 0]).frozen 0
  have KK : Keeps W1 ((W1.alloc (.cells #[.int .i64 0] 3)).setCell ⟨W1.heap.size, 0, none⟩ (.int .i64 (W : Nat))) := (box2 W1 _).set (p := ⟨W1.heap.size, 0, none⟩) (Nat.le_refl _) _
  have OO : Own ((W1.alloc (.cells #[.int .i64 0] 3)).setCell ⟨W1.heap.size, 0, none⟩ (.int .i64 (W : Nat))) W1.heap.size 3 [.int .i64 (W : Nat)] := (Own.new W1 3 [.int .i64 0]).set 0 _
  have HKO := Lib.hid (And.intro KK OO)
  simp only [List.getElem?_cons_zero, List.getElem?_cons_succ] at l0 l1 m0 m1 n1 o0
  clear KK OO b2 b3
  go_cut [3, 4] (fun b h wx => b = .pointer (some ⟨W1.heap.size, 0, none⟩) ∧ h = .int .i64 (H : Nat) ∧ Keeps W1 wx ∧ Own wx W1.heap.size 3 [.int .i64 (W : Nat)])
  case first =>
    go_region_law (fail)
    all_goals
      go_wp2_with fail
      go_meet
      first
        | exact ⟨rfl, rfl, Below.drew (box2 W1 _), (Own.new W1 _ _).drew⟩
        | exact ⟨rfl, rfl, box2 W1 _, Own.new W1 _ _⟩
        | exact ⟨rfl, rfl, HKO.out.1, HKO.out.2⟩
  case rest =>
    obtain ⟨rfl, rfl, hkq, z4⟩ := hcut
    clear HKO l0 l1 m0 m1 n1 o0 o1
    go_upto_region 3 with fail
    have hk4 : Keeps w wc := hk1.trans' hkq
    have p4 : Own wc w.heap.size 24 [.int .i64 (W : Nat), .int .i64 (H : Nat), .int .i64 m, .slice A px.length c] := HP1.out.below hkq
    obtain ⟨d4, hd4⟩ : ∃ d4, W1.heap.size = d4 := ⟨_, rfl⟩
    rw [hd4] at z4 ⊢
    have hl4 : w.heap.size < d4 := by omega
    obtain ⟨W5, hW5⟩ : ∃ W5, wc.alloc (.cells (madeCells #[.int .i64 0] n) 3) = W5 := ⟨_, rfl⟩
    have hk45 : Keeps wc W5 := hW5 ▸ box2 wc _
    have r5 : Own W5 wc.heap.size 3 (i64s (scoN W H px (2 * W + 2))) := by
      rw [scoN_zero, HN.out]
      have := heap_alloc_new wc (.cells (madeCells #[.int .i64 0] n) 3)
      rw [madeZ] at this
      rw [← hW5, madeZ]
      exact this
    have hinv : SInv w W H m A c px d4 wc.heap.size (2 * W + 2) W5 := ⟨p4.below hk45, z4.below hk45, r5, hk4.trans' hk45⟩
    have HINV := Lib.hid hinv
    have z0 := z4.cell 0
    simp only [List.getElem?_cons_zero, List.getElem?_cons_succ] at z0
    have hgd : d4 ≠ wc.heap.size := by have := z4.lt; omega
    have hgw : w.heap.size < wc.heap.size := p4.lt
    obtain ⟨g, hg⟩ : ∃ g, wc.heap.size = g := ⟨_, rfl⟩
    rw [hg] at HINV hgd hgw
    go_upto_region 4 with fail
    try rw [hg]
    clear hinv r5 p4 z4 hk45 hW5 hk4 hkq z0 hmk hg hW1 HP1 hk1 hlt1 hq hd4
    have hgn : n ≤ 4096 := hn4
    go_wp2
    go_loopw [7] (fun iy wr => ∃ y : Nat, 2 ≤ y ∧ y ≤ 64 ∧ iy = .int .i64 (y : Nat) ∧ SInv w W H m A c px d4 g (y * W + 2) wr) (fun i _ => 70 - (intOf i).toNat)
    case atStart => exact ⟨2, Nat.le_refl _, by omega, rfl, HINV.out⟩
    case round =>
      clear HINV
      obtain ⟨y, hy2, hy64, rfl, hinv⟩ := hrel
      by_cases hlt : y + 2 < H
      · have t1 : decide ((y : Int) < (H : Int) - 2) = true := decide_eq_true (by omega)
        have t1' : (y : Int) < (H : Int) - 2 := by omega
        have hyI : (y : Int) ≤ 64 := by omega
        have hy1I : (2 : Int) ≤ (y : Int) := by omega
        have HI0 := Lib.hid hinv
        clear hinv
        go_wp2
        go_loopw [8] (fun ix wr => ∃ x : Nat, 2 ≤ x ∧ x ≤ W + 2 ∧ ix = .int .i64 (x : Nat) ∧ SInv w W H m A c px d4 g (y * W + x) wr) (fun i _ => 70 - (intOf i).toNat)
        case atStart => exact ⟨2, Nat.le_refl _, by omega, rfl, HI0.out⟩
        case round =>
          clear HI0
          obtain ⟨x, hx2, hx64, rfl, p, z, r, hkw⟩ := hrel
          have z0 := z.cell 0
          simp only [List.getElem?_cons_zero, List.getElem?_cons_succ] at z0
          have hx66 : x ≤ 66 := by omega
          have hxI : (x : Int) ≤ 66 := by omega
          have hx1I : (2 : Int) ≤ (x : Int) := by omega
          by_cases hlx : x + 2 < W
          · have t2 : decide ((x : Int) < (W : Int) - 2) = true := decide_eq_true (by omega)
            have t2' : (x : Int) < (W : Int) - 2 := by omega
            obtain ⟨X, hX⟩ : ∃ X, x = X + 1 := ⟨x - 1, by omega⟩
            obtain ⟨Y, hY⟩ : ∃ Y, y = Y + 1 := ⟨y - 1, by omega⟩
            have HX := Lib.hid (And.intro hX hY)
            have hXI : (x : Int) - 1 = (X : Int) := by omega
            have hYI : (y : Int) - 1 = (Y : Int) := by omega
            obtain ⟨P, hP⟩ : ∃ P, pxL px W = P := ⟨_, rfl⟩
            obtain ⟨fa, hfa⟩ : ∃ fa, sA P (X + 1) (Y + 1) = fa := ⟨_, rfl⟩
            obtain ⟨fb, hfb⟩ : ∃ fb, sB P (X + 1) (Y + 1) = fb := ⟨_, rfl⟩
            obtain ⟨fc, hfc⟩ : ∃ fc, sC P (X + 1) (Y + 1) = fc := ⟨_, rfl⟩
            have hpx : ∀ i j, i ≤ X + 3 → j ≤ Y + 3 → 0 ≤ P i j ∧ P i j ≤ 1023 := fun i j hi hj => by
              rw [← hP]
              exact HPX.out i j (by omega) (by omega)
            have HPP := Lib.hid hpx
            have HBD : Hid (∀ k, k ≤ 9 → (0 ≤ fa k ∧ fa k ≤ 9418761) ∧ (-9418761 ≤ fb k ∧ fb k ≤ 9418761) ∧ (0 ≤ fc k ∧ fc k ≤ 9418761)) := Lib.hid (fun k hk => by
              have h := sum_bd (p := P) (x := X + 1) (y := Y + 1) (fun r t hr ht => by
                have a1 := hpx (X + r + 1) (Y + t) (by omega) (by omega)
                have a2 := hpx (X + r - 1) (Y + t) (by omega) (by omega)
                have a3 := hpx (X + r) (Y + t + 1) (by omega) (by omega)
                have a4 := hpx (X + r) (Y + t - 1) (by omega) (by omega)
                simp only [Nat.add_sub_cancel, gX, gY]
                omega) k hk
              rw [hfa, hfb, hfc] at h
              omega)
            have HSU : Hid (∀ q r, r < 3 → fa (3 * q + r + 1) = fa (3 * q + r) + gX P (X + r) (Y + q) * gX P (X + r) (Y + q) ∧ fb (3 * q + r + 1) = fb (3 * q + r) + gX P (X + r) (Y + q) * gY P (X + r) (Y + q) ∧ fc (3 * q + r + 1) = fc (3 * q + r) + gY P (X + r) (Y + q) * gY P (X + r) (Y + q)) := Lib.hid (fun q r hr => by
              rw [← hfa, ← hfb, ← hfc]
              exact ⟨sA_succ P X Y q r hr, sB_succ P X Y q r hr, sC_succ P X Y q r hr⟩)
            have HZ : Hid (fa 0 = 0 ∧ fb 0 = 0 ∧ fc 0 = 0) := Lib.hid (by rw [← hfa, ← hfb, ← hfc]; exact ⟨rfl, rfl, rfl⟩)
            have HSC : Hid (scP (pxL px W) x y = scoV (fa 9) (fb 9) (fc 9)) := Lib.hid (by rw [hP, hX, hY, ← hfa, ← hfb, ← hfc]; rfl)
            have HPE := Lib.hid hP
            have HRW := Lib.hid (HR.out.below hkw)
            have HPO := Lib.hid p
            have HZO := Lib.hid z
            have HRO := Lib.hid r
            clear hX hY hP hfa hfb hfc hpx p z r
            go_wp2
            go_loop [9, 10, 11, 12] (fun av bv cv jv => ∃ (q j : Nat) (a b c' : Int), q ≤ 3 ∧ Hid (j = Y + q) ∧ jv = .int .i64 (j : Nat) ∧ av = .int .i64 a ∧ bv = .int .i64 b ∧ cv = .int .i64 c' ∧ Hid (a = fa (3 * q) ∧ b = fb (3 * q) ∧ c' = fc (3 * q))) (fun _ _ _ j => 70 - (intOf j).toNat)
            case atStart => exact ⟨0, Y, 0, 0, 0, by omega, Lib.hid rfl, by first | rfl | go_num, rfl, rfl, rfl, Lib.hid ⟨HZ.out.1.symm, HZ.out.2.1.symm, HZ.out.2.2.symm⟩⟩
            case round =>
              obtain ⟨q, j, a, b, c', hq3, HJ, rfl, rfl, rfl, rfl, HE⟩ := hrel
              have hj64 : j ≤ 70 := by have := HJ.out; have := HX.out; omega
              have hjI : (j : Int) ≤ 70 := by omega
              by_cases hq : q < 3
              · have t3 : decide ((j : Int) ≤ (y : Int) + 1) = true := decide_eq_true (by have := HJ.out; have := HX.out; omega)
                have t3' : (j : Int) ≤ (y : Int) + 1 := by have := HJ.out; have := HX.out; omega
                go_wp2
                go_loop [9, 10, 11, 13] (fun av bv cv iv => ∃ (r i : Nat) (a b c' : Int), r ≤ 3 ∧ Hid (i = X + r) ∧ iv = .int .i64 (i : Nat) ∧ av = .int .i64 a ∧ bv = .int .i64 b ∧ cv = .int .i64 c' ∧ Hid (a = fa (3 * q + r) ∧ b = fb (3 * q + r) ∧ c' = fc (3 * q + r))) (fun _ _ _ j => 70 - (intOf j).toNat)
                case atStart => exact ⟨0, X, a, b, c', by omega, Lib.hid rfl, by first | rfl | go_num, rfl, rfl, rfl, HE⟩
                case round =>
                  obtain ⟨r, i, a, b, c', hr3, HI, rfl, rfl, rfl, rfl, HE2⟩ := hrel
                  have hi64 : i ≤ 70 := by have := HI.out; have := HX.out; omega
                  have hiI : (i : Int) ≤ 70 := by omega
                  by_cases hrr : r < 3
                  · have t4 : decide ((i : Int) ≤ (x : Int) + 1) = true := decide_eq_true (by have := HI.out; have := HX.out; omega)
                    have t4' : (i : Int) ≤ (x : Int) + 1 := by have := HI.out; have := HX.out; omega
                    have hbn := HBD.out (3 * q + r) (by omega)
                    rw [← HE2.out.1, ← HE2.out.2.1, ← HE2.out.2.2] at hbn
                    obtain ⟨⟨ha1, ha2⟩, ⟨hb1, hb2⟩, hc1, hc2⟩ := hbn
                    have hsu := HSU.out q r hrr
                    rw [← HE2.out.1, ← HE2.out.2.1, ← HE2.out.2.2, ← HI.out, ← HJ.out] at hsu
                    have b1 := HPP.out (i + 1) j (by have := HI.out; omega) (by have := HJ.out; omega)
                    have b2 := HPP.out (i - 1) j (by have := HI.out; omega) (by have := HJ.out; omega)
                    have b3 := HPP.out i (j + 1) (by have := HI.out; omega) (by have := HJ.out; omega)
                    have b4 := HPP.out i (j - 1) (by have := HI.out; omega) (by have := HJ.out; omega)
                    have hi1 : 1 ≤ i ∧ 1 ≤ j ∧ i + 1 < W ∧ j + 1 < H := by have := HI.out; have := HJ.out; have := HX.out; omega
                    have hc1' := scoAt_any HPO.out HZO.out HRW.out rfl HL.out HWH.out.1.2 HWH.out.2.2 ((i : Int) + 1) (j : Int) (i + 1) j (by omega) rfl (by omega) (by omega)
                    have hc2' := scoAt_any HPO.out HZO.out HRW.out rfl HL.out HWH.out.1.2 HWH.out.2.2 ((i : Int) - 1) (j : Int) (i - 1) j (by omega) rfl (by omega) (by omega)
                    have hc3' := scoAt_any HPO.out HZO.out HRW.out rfl HL.out HWH.out.1.2 HWH.out.2.2 (i : Int) ((j : Int) + 1) i (j + 1) rfl (by omega) (by omega) (by omega)
                    have hc4' := scoAt_any HPO.out HZO.out HRW.out rfl HL.out HWH.out.1.2 HWH.out.2.2 (i : Int) ((j : Int) - 1) i (j - 1) rfl (by omega) (by omega) (by omega)
                    rw [HPE.out] at hc1' hc2' hc3' hc4'
                    have hgx : gX P i j = P (i + 1) j - P (i - 1) j := rfl
                    have hgy : gY P i j = P i (j + 1) - P i (j - 1) := rfl
                    rw [hgx, hgy] at hsu
                    clear hgx hgy
                    obtain ⟨v1, hv1⟩ : ∃ v, P (i + 1) j = v := ⟨_, rfl⟩
                    obtain ⟨v2, hv2⟩ : ∃ v, P (i - 1) j = v := ⟨_, rfl⟩
                    obtain ⟨v3, hv3⟩ : ∃ v, P i (j + 1) = v := ⟨_, rfl⟩
                    obtain ⟨v4, hv4⟩ : ∃ v, P i (j - 1) = v := ⟨_, rfl⟩
                    rw [hv1] at hc1' b1 hsu
                    rw [hv2] at hc2' b2 hsu
                    rw [hv3] at hc3' b3 hsu
                    rw [hv4] at hc4' b4 hsu
                    have HC1 := Lib.hid hc1'
                    have HC2 := Lib.hid hc2'
                    have HC3 := Lib.hid hc3'
                    have HC4 := Lib.hid hc4'
                    obtain ⟨gg, hg1⟩ : ∃ g, v1 - v2 = g := ⟨_, rfl⟩
                    obtain ⟨kk, hk1⟩ : ∃ g, v3 - v4 = g := ⟨_, rfl⟩
                    rw [hg1, hk1] at hsu
                    have m1 := mul_bd (g := gg) (k := gg) (by omega) (by omega)
                    have m2 := mul_bd (g := gg) (k := kk) (by omega) (by omega)
                    have m3 := mul_bd (g := kk) (k := kk) (by omega) (by omega)
                    obtain ⟨u1, hu1⟩ : ∃ u, gg * gg = u := ⟨_, rfl⟩
                    obtain ⟨u2, hu2⟩ : ∃ u, gg * kk = u := ⟨_, rfl⟩
                    obtain ⟨u3, hu3⟩ : ∃ u, kk * kk = u := ⟨_, rfl⟩
                    rw [hu1, hu2, hu3] at hsu
                    rw [hu1] at m1
                    rw [hu2] at m2
                    rw [hu3] at m3
                    obtain ⟨b11, b12⟩ := b1
                    obtain ⟨b21, b22⟩ := b2
                    obtain ⟨b31, b32⟩ := b3
                    obtain ⟨b41, b42⟩ := b4
                    obtain ⟨m11, m12⟩ := m1
                    obtain ⟨m21, m22⟩ := m2
                    obtain ⟨m31, m32⟩ := m3
                    have hg2 : -1023 ≤ gg := by omega
                    have hg3 : gg ≤ 1023 := by omega
                    have hk2 : -1023 ≤ kk := by omega
                    have hk3 : kk ≤ 1023 := by omega
                    have hi1I : (1 : Int) ≤ i := by omega
                    have hj1I : (1 : Int) ≤ j := by omega
                    have HSS := Lib.hid hsu
                    clear hsu hc1' hc2' hc3' hc4' hv1 hv2 hv3 hv4 hi1
                    go_wp2_with fail
                    refine HC1.out.mono ?_
                    rintro e wy ⟨rfl, hwx⟩
                    obtain rfl : wr = wy := hwx.symm
                    go_wp2_with fail
                    refine HC2.out.mono ?_
                    rintro e wy ⟨rfl, hwx⟩
                    obtain rfl : wr = wy := hwx.symm
                    go_wp2_with fail
                    refine HC3.out.mono ?_
                    rintro e wy ⟨rfl, hwx⟩
                    obtain rfl : wr = wy := hwx.symm
                    go_wp2_with fail
                    refine HC4.out.mono ?_
                    rintro e wy ⟨rfl, hwx⟩
                    obtain rfl : wr = wy := hwx.symm
                    go_wp2
                    go_round
                    case rel => exact ⟨r + 1, i + 1, a + u1, b + u2, c' + u3, by omega, Lib.hid (by have := HI.out; omega), by go_num, by first | rfl | go_num, by first | rfl | go_num, by first | rfl | go_num, Lib.hid ⟨HSS.out.1.symm, HSS.out.2.1.symm, HSS.out.2.2.symm⟩⟩
                    case measure => simp [intOf]; omega
                  · have t4 : decide ((i : Int) ≤ (x : Int) + 1) = false := decide_eq_false (by have := HI.out; have := HX.out; omega)
                    have HE3 : Hid (a = fa (3 * (q + 1)) ∧ b = fb (3 * (q + 1)) ∧ c' = fc (3 * (q + 1))) := Lib.hid (by
                      have := HE2.out
                      rwa [show 3 * q + r = 3 * (q + 1) by omega] at this)
                    clear hrr
                    go_wp2
                    go_round
                    case rel => exact ⟨q + 1, j + 1, a, b, c', by omega, Lib.hid (by have := HJ.out; omega), by go_num, rfl, rfl, rfl, HE3⟩
                    case measure => simp [intOf]; omega
              · have t3 : decide ((j : Int) ≤ (y : Int) + 1) = false := decide_eq_false (by have := HJ.out; have := HX.out; omega)
                have hbn := HBD.out 9 (by omega)
                have hE := HE.out
                rw [show 3 * q = 9 by omega] at hE
                rw [← hE.1, ← hE.2.1, ← hE.2.2] at hbn
                have hsc := HSC.out
                rw [← hE.1, ← hE.2.1, ← hE.2.2] at hsc
                have hvb := scoV_bd hbn.1 hbn.2.1 hbn.2.2
                unfold scoV at hsc
                obtain ⟨s, hs⟩ : ∃ s, a + c' = s := ⟨_, rfl⟩
                rw [hs] at hvb hsc
                obtain ⟨u1, hu1⟩ : ∃ u, a * c' = u := ⟨_, rfl⟩
                obtain ⟨u2, hu2⟩ : ∃ u, b * b = u := ⟨_, rfl⟩
                obtain ⟨u3, hu3⟩ : ∃ u, s * s = u := ⟨_, rfl⟩
                rw [hu1, hu2, hu3] at hvb hsc
                obtain ⟨⟨m11, m12⟩, ⟨m21, m22⟩, m31, m32⟩ := hvb
                obtain ⟨⟨ha1, ha2⟩, ⟨hb1, hb2⟩, hc1, hc2⟩ := hbn
                have hs1 : 0 ≤ s := by omega
                have hs2 : s ≤ 18837522 := by omega
                have HSV := Lib.hid hsc
                have hix : y * W + x < W * H := idx_lt (by omega) (by omega)
                rw [HN.out] at hix
                have hin : inI W H x y = true := decide_eq_true (by omega)
                have HSET := Lib.hid (scoN_set (W := W) (H := H) px (show x < W by omega) (show y < H by omega) hin)
                have hqy : (y : Int) * (W : Int) = ((y * W : Nat) : Int) := by simp
                have hlen : (scoN W H px (y * W + x)).length = n := by rw [scoN, madeL_length, HN.out]
                have c9 : wr.cell? ⟨g, y * W + x, none⟩ = some (.int .i64 ((scoN W H px (y * W + x)).getD (y * W + x) 0)) := by
                  rw [HRO.out.cell]
                  simp [i64s, List.getD, hlen, hix]
                have f9 := HRO.out.frozen (y * W + x)
                have hyW : y * W ≤ 64 * 64 := Nat.mul_le_mul hy64 HWH.out.1.2
                have hlen2 : Hid (y * W + x < n) := Lib.hid hix
                obtain ⟨v9, hv9⟩ : ∃ v, (scoN W H px (y * W + x)).getD (y * W + x) 0 = v := ⟨_, rfl⟩
                rw [hv9] at c9
                obtain ⟨k0, hk0⟩ : ∃ k0, y * W = k0 := ⟨_, rfl⟩
                have HK0 := Lib.hid hk0
                rw [hk0] at hqy c9 f9 hyW hix
                have hk0I : (k0 : Int) ≤ 4096 := by omega
                have hixI : (k0 : Int) + (x : Int) < n := by omega
                clear hE hsc hin hlen hv9 hk0 hq
                go_wp2
                have r7 := HRO.out.set (k0 + x) (.int .i64 (25 * (u1 - u2) - u3))
                have hrel2 : SInv w W H m A c px d4 g (y * W + (x + 1)) (wr.setCell ⟨g, k0 + x, none⟩ (.int .i64 (25 * (u1 - u2) - u3))) := by
                  refine ⟨HPO.out.far (p := ⟨g, k0 + x, none⟩) (by simp only; omega) _, HZO.out.far (p := ⟨g, k0 + x, none⟩) (by simp only; omega) _, ?_, hkw.set (p := ⟨g, k0 + x, none⟩) (by simp only; omega) _⟩
                  rw [← HSV.out, i64s_set, ← HK0.out, HSET.out] at r7
                  rw [← HSV.out, ← HK0.out]
                  exact r7
                have HREL := Lib.hid hrel2
                clear hrel2 r7
                go_roundw
                case rel => exact ⟨x + 1, by omega, by omega, by go_num, HREL.out⟩
                case measure => simp [intOf]; omega
          · have t2 : decide ((x : Int) < (W : Int) - 2) = false := decide_eq_false (by omega)
            have HI1 : Hid (SInv w W H m A c px d4 g ((y + 1) * W + 2) wr) := Lib.hid (by
              have h := scoN_row (W := W) (H := H) (x := x) (y := y) px hx2 (by omega)
              rw [show y * W + x + (W + 2 - x) = (y + 1) * W + 2 by rw [Nat.add_mul]; omega] at h
              exact ⟨p, z, by rw [← h]; exact r, hkw⟩)
            clear hlx p z r
            go_wp2
            go_roundw
            case rel => exact ⟨y + 1, by omega, by omega, by go_num, HI1.out⟩
            case measure => simp [intOf]; omega
      · have t1 : decide ((y : Int) < (H : Int) - 2) = false := decide_eq_false (by omega)
        obtain ⟨p, z, r, hkw⟩ := hinv
        rw [scoN_end px (by omega)] at r
        have HRR := Lib.hid r
        have HLS : Hid ((scoL W H px).length = n) := Lib.hid (by rw [scoL, madeL_length, HN.out])
        clear hlt p z r
        go_wp2
        go_ret
        refine ⟨some ⟨g, 0, none⟩, n, by rw [HLS.out]; rfl, fun hp => ⟨g, 0, rfl, HRR.out.lt, fun j hj => ?_⟩, hkw⟩
        rw [Nat.zero_add, HRR.out.cell j]
        simp [i64s, iv, List.getD, hj]
end Go.Proofs.Ytecibfncnaccjaa
