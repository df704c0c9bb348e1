/- TopTurned: the law. -/
import Derived.Test.YtecibfncnaccjaaTLawP
namespace Go.Proofs.Ytecibfncnaccjaa
open Go.RowKit Go.Shelf
set_option maxRecDepth 100000 in
set_option maxHeartbeats 16000000 in
theorem topTurned_any {w : World} {A : Option Addr} {c : Nat} {px : List Int} (hr : IRow w A px) (hl : px.length ≤ maxLen) (W H m thr : Int) (ht : 0 ≤ thr ∧ thr ≤ 65535) :
    Calls Try.prog 3 #[.agg #[.int .i64 W, .int .i64 H, .int .i64 m, .slice A px.length c], .int .u16 thr] w fun e w' => e = .returned (.bool true) ∧ Keeps w w' := by
  obtain ⟨W1, hW1⟩ : ∃ W1, w.alloc (.cells #[.int .i64 W, .int .i64 H, .int .i64 m, .slice A px.length c] 24) = W1 := ⟨_, rfl⟩
  have hk1 : Keeps w W1 := hW1 ▸ box2 w _
  have p1 : Own W1 w.heap.size 24 [.int .i64 W, .int .i64 H, .int .i64 m, .slice A px.length c] := hW1 ▸ Own.new w _ _
  have HR := Lib.hid (hr.below hk1)
  have HA := Lib.hid (awake_any W1)
  have ht1 := ht.1
  have ht2 := ht.2
  clear hr
  go_enter Try.func3, Try.ntmps3
  go_wp2_with fail
  refine HA.out.mono ?_
  rintro e w2 ⟨rfl, hk2⟩
  have p2 := p1.below hk2
  have HR2 := Lib.hid (HR.out.below hk2)
  have HK := Lib.hid (asked_any (c := c) HR2.out W H m hl)
  have hkw2 := hk1.trans' hk2
  have x0 := p2.cell 0
  have x1 := p2.cell 1
  have x2 := p2.cell 2
  have x3 := p2.cell 3
  simp only [List.getElem?_cons_zero, List.getElem?_cons_succ] at x0 x1 x2 x3
  clear p1 hk1 hk2 hW1 HA HR
  by_cases hlen : px.length ≤ 150
  case neg =>
    have t0 : decide ((px.length : Int) > 150) = true := decide_eq_true (by omega)
    have t0' : (150 : Int) < (px.length : Int) := by omega
    go_wp2
    go_ret
    exact ⟨rfl, hkw2⟩
  have t0 : decide ((px.length : Int) > 150) = false := decide_eq_false (by omega)
  have t0' : ¬ ((150 : Int) < (px.length : Int)) := by omega
  by_cases ha : askC W H m px = 0
  case neg =>
    obtain ⟨a, hae⟩ : ∃ a, askC W H m px = a := ⟨_, rfl⟩
    rw [hae] at HK ha
    clear hae
    go_wp2_with fail
    refine HK.out.mono ?_
    rintro e w3 ⟨rfl, hk3⟩
    have ta : decide (a = 0) = false := decide_eq_false ha
    go_wp2
    go_ret
    exact ⟨rfl, hkw2.trans' hk3⟩
  rw [ha] at HK
  obtain ⟨hv, hm⟩ := askC_ok.1 ha
  clear ha
  obtain ⟨hw1, hh1⟩ := wh_pos hv
  obtain ⟨W, rfl⟩ := Int.eq_ofNat_of_zero_le (show 0 ≤ W by omega)
  obtain ⟨H, rfl⟩ := Int.eq_ofNat_of_zero_le (show 0 ≤ H by omega)
  have hok := rasC_ok hv
  have HOK := Lib.hid hok
  have hpl := hok.2.2.2.1
  have HPL := Lib.hid hpl
  have HV := Lib.hid hv
  have HM := Lib.hid hm
  have HLEN := Lib.hid hlen
  have HHL := Lib.hid hl
  have HT := Lib.hid ht
  have hWI : (W : Int) ≤ 64 := by have := hok.1; omega
  have hHI : (H : Int) ≤ 64 := by have := hok.2.1; omega
  obtain ⟨s, hs⟩ : ∃ s, scoL W H px = s := ⟨_, rfl⟩
  have hsl : s.length = px.length := by rw [← hs, scoL, madeL_length, hpl]
  have HS := Lib.hid hs
  have HSL := Lib.hid hsl
  obtain ⟨n, hn⟩ : ∃ n, px.length = n := ⟨_, rfl⟩
  have HN := Lib.hid hn
  rw [hn] at p2 HK t0 t0' x3 hlen ⊢
  clear hv hm hok hpl hl ht hs hsl hn
  go_wp2_with fail
  refine HK.out.mono ?_
  rintro e w3 ⟨rfl, hk3⟩
  have p3 := p2.below hk3
  have HR3 := Lib.hid (HR2.out.below hk3)
  have hkw3 := hkw2.trans' hk3
  have HQ : Hid (Calls Try.prog 6 #[.agg #[.int .i64 (W : Nat), .int .i64 (H : Nat), .int .i64 m, .slice A n c]] w3 fun e w' => ∃ A c, e = .returned (.tuple #[.slice A n c, .int .i64 0]) ∧ IRow w' A s ∧ Keeps w3 w') := Lib.hid (by
    have h := scoresC_any (c := c) HR3.out HV.out HM.out
    rw [HS.out, HSL.out, HN.out] at h
    exact h)
  clear p2 x0 x1 x2 x3 hk3 hkw2 HK HR2
  have x0 := p3.cell 0
  have x1 := p3.cell 1
  have x2 := p3.cell 2
  have x3 := p3.cell 3
  simp only [List.getElem?_cons_zero, List.getElem?_cons_succ] at x0 x1 x2 x3
  go_wp2_with fail
  refine HQ.out.mono ?_
  rintro e w4 ⟨A4, c4, rfl, hr4, hk4⟩
  have p4 := p3.below hk4
  have HR4 := Lib.hid (HR3.out.below hk4)
  have hkw4 := hkw3.trans' hk4
  have HS4 := Lib.hid hr4
  obtain ⟨fl, hfl⟩ : ∃ fl, findP W H px thr = fl := ⟨_, rfl⟩
  have HFL := Lib.hid hfl
  have HQ : Hid (Calls Try.prog 7 #[.agg #[.int .i64 (W : Nat), .int .i64 (H : Nat), .int .i64 m, .slice A n c], .int .i64 thr, .int .i64 100] w4 (GivesCn fl w4)) := Lib.hid (by
    have h := find_any (c := c) HR4.out HV.out HM.out HT.out HLEN.out
    rw [HFL.out, HN.out] at h
    exact h)
  clear p3 x0 x1 x2 x3 hk4 hkw3 HR3 hr4 hfl
  have x0 := p4.cell 0
  have x1 := p4.cell 1
  have x2 := p4.cell 2
  have x3 := p4.cell 3
  simp only [List.getElem?_cons_zero, List.getElem?_cons_succ] at x0 x1 x2 x3
  go_wp2_with fail
  refine HQ.out.mono ?_
  rintro e w5 ⟨A5, c5, rfl, hc5, hk5⟩
  have p5 := p4.below hk5
  have HR5 := Lib.hid (HR4.out.below hk5)
  have HS5 := Lib.hid (HS4.out.below hk5)
  have HC5 := Lib.hid hc5
  have hkw5 := hkw4.trans' hk5
  have HQ : Hid (Calls Try.prog 8 #[.agg #[.int .i64 (W : Nat), .int .i64 (H : Nat), .int .i64 m, .slice A n c]] w5 fun e w' => ∃ A c, e = .returned (.tuple #[.agg #[.int .i64 (H : Nat), .int .i64 (W : Nat), .int .i64 m, .slice A n c], .int .i64 0]) ∧ IRow w' A (turnL W H px) ∧ Keeps w5 w') := Lib.hid (by
    have h := turn_any (c := c) HR5.out HV.out
    rw [HN.out] at h
    refine h.mono ?_
    rintro e w' ⟨A, c, rfl, h1, h2, -⟩
    exact ⟨A, c, by rw [turnL, madeL_length, Nat.mul_comm, ← HPL.out, HN.out], h1, h2⟩)
  have HR5k := HR5
  clear p4 x0 x1 x2 x3 hk5 hkw4 HR4 HS4 hc5
  have x0 := p5.cell 0
  have x1 := p5.cell 1
  have x2 := p5.cell 2
  have x3 := p5.cell 3
  simp only [List.getElem?_cons_zero, List.getElem?_cons_succ] at x0 x1 x2 x3
  go_wp2_with fail
  refine HQ.out.mono ?_
  rintro e w6 ⟨A6, c6, rfl, hr6, hk6⟩
  obtain ⟨W6, hW6⟩ : ∃ W6, w6.alloc (.cells #[.int .i64 (H : Nat), .int .i64 (W : Nat), .int .i64 m, .slice A6 n c6] 24) = W6 := ⟨_, rfl⟩
  have hk6' : Keeps w6 W6 := hW6 ▸ box2 w6 _
  have b6 : Own W6 w6.heap.size 24 [.int .i64 (H : Nat), .int .i64 (W : Nat), .int .i64 m, .slice A6 n c6] := hW6 ▸ Own.new w6 _ _
  have hk66 := hk6.trans' hk6'
  have p6 := p5.below hk66
  have HR6 := Lib.hid (HR5.out.below hk66)
  have HS6 := Lib.hid (HS5.out.below hk66)
  have HT6 := Lib.hid (hr6.below hk6')
  have hkw6 := hkw5.trans' hk66
  have HK56 := Lib.hid hk66
  have HK56' := Lib.hid hk6
  have hsz6 : w.heap.size < w6.heap.size := by have := p5.lt; have := hk6.size; omega
  have HQ : Hid (Calls Try.prog 9 #[.agg #[.int .i64 (W : Nat), .int .i64 (H : Nat), .int .i64 m, .slice A n c]] W6 fun e w' => ∃ A c, e = .returned (.tuple #[.agg #[.int .i64 (W : Nat), .int .i64 (H : Nat), .int .i64 m, .slice A n c], .int .i64 0]) ∧ IRow w' A (mirL W H px) ∧ Keeps W6 w') := Lib.hid (by
    have h := mirror_any (c := c) HR6.out HV.out
    rw [HN.out] at h
    refine h.mono ?_
    rintro e w' ⟨A, c, rfl, h1, h2, -⟩
    exact ⟨A, c, by rw [mirL, madeL_length, ← HPL.out, HN.out], h1, h2⟩)
  clear p5 x0 x1 x2 x3 hk6 hkw5 HR5 HS5 hr6 hk66
  have x0 := p6.cell 0
  have x1 := p6.cell 1
  have x2 := p6.cell 2
  have x3 := p6.cell 3
  simp only [List.getElem?_cons_zero, List.getElem?_cons_succ] at x0 x1 x2 x3
  go_wp2_with fail
  refine HQ.out.mono ?_
  rintro e w7 ⟨A7, c7, rfl, hr7, hk7⟩
  obtain ⟨W7, hW7⟩ : ∃ W7, w7.alloc (.cells #[.int .i64 (W : Nat), .int .i64 (H : Nat), .int .i64 m, .slice A7 n c7] 24) = W7 := ⟨_, rfl⟩
  have hk7' : Keeps w7 W7 := hW7 ▸ box2 w7 _
  have d7 : Own W7 w7.heap.size 24 [.int .i64 (W : Nat), .int .i64 (H : Nat), .int .i64 m, .slice A7 n c7] := hW7 ▸ Own.new w7 _ _
  have hk77 := hk7.trans' hk7'
  have p7 := p6.below hk77
  have b7 := b6.below hk77
  have HT7 := Lib.hid (HT6.out.below hk77)
  have HM7 := Lib.hid (hr7.below hk7')
  have hkw7 := hkw6.trans' hk77
  have HK67 := Lib.hid hk77
  have HQ : Hid (Calls Try.prog 6 #[.agg #[.int .i64 (H : Nat), .int .i64 (W : Nat), .int .i64 m, .slice A6 n c6]] W7 fun e w' => ∃ A c, e = .returned (.tuple #[.slice A n c, .int .i64 0]) ∧ IRow w' A (scoL H W (turnL W H px)) ∧ Keeps W7 w') := Lib.hid (by
    have h := scoresC_any (c := c6) HT7.out (rasC_turn HV.out) HM.out
    rw [scoL, madeL_length, turnL, madeL_length, Nat.mul_comm, ← HPL.out, HN.out] at h
    exact h)
  clear p6 b6 x0 x1 x2 x3 hk7 hkw6 hr7 hk77
  have x0 := p7.cell 0
  have x1 := p7.cell 1
  have x2 := p7.cell 2
  have x3 := p7.cell 3
  simp only [List.getElem?_cons_zero, List.getElem?_cons_succ] at x0 x1 x2 x3
  have y0 := b7.cell 0
  have y1 := b7.cell 1
  have y2 := b7.cell 2
  have y3 := b7.cell 3
  simp only [List.getElem?_cons_zero, List.getElem?_cons_succ] at y0 y1 y2 y3
  go_wp2_with fail
  refine HQ.out.mono ?_
  rintro e w8 ⟨A8, c8, rfl, hr8, hk8⟩
  have b8 := b7.below hk8
  have d8 := d7.below hk8
  have p8 := p7.below hk8
  have HU8 := Lib.hid hr8
  have HM8 := Lib.hid (HM7.out.below hk8)
  have hkw8 := hkw7.trans' hk8
  have HK78 := Lib.hid hk8
  have HQ : Hid (Calls Try.prog 6 #[.agg #[.int .i64 (W : Nat), .int .i64 (H : Nat), .int .i64 m, .slice A7 n c7]] w8 fun e w' => ∃ A c, e = .returned (.tuple #[.slice A n c, .int .i64 0]) ∧ IRow w' A (scoL W H (mirL W H px)) ∧ Keeps w8 w') := Lib.hid (by
    have h := scoresC_any (c := c7) HM8.out (rasC_mir HV.out) HM.out
    rw [scoL, madeL_length, mirL, madeL_length, ← HPL.out, HN.out] at h
    exact h)
  clear p7 b7 d7 x0 x1 x2 x3 y0 y1 y2 y3 hkw7 hr8 hk8
  have z0 := d8.cell 0
  have z1 := d8.cell 1
  have z2 := d8.cell 2
  have z3 := d8.cell 3
  simp only [List.getElem?_cons_zero, List.getElem?_cons_succ] at z0 z1 z2 z3
  go_wp2_with fail
  refine HQ.out.mono ?_
  rintro e w9 ⟨A9, c9, rfl, hr9, hk9⟩
  have b9 := b8.below hk9
  have p9 := p8.below hk9
  have hk69 := (HK67.out.trans' HK78.out).trans' hk9
  have HU9 := Lib.hid (HU8.out.below hk9)
  have HV9 := Lib.hid hr9
  have HS9 := Lib.hid (HS6.out.below hk69)
  have HR9 := Lib.hid (HR6.out.below hk69)
  have HT9 := Lib.hid (HT7.out.below (HK78.out.trans' hk9))
  have HK59 := Lib.hid (HK56.out.trans' hk69)
  have HKW9 := Lib.hid (hkw8.trans' hk9)
  have HK69 := Lib.hid (hk6'.trans' hk69)
  have HB9 := Lib.hid b9
  have HP9 := Lib.hid p9
  clear p8 b8 d8 z0 z1 z2 z3 hkw8 hr9 hk9 hk69 HK67 HK78 HS6 HR6 HT6 HT7 HM7 HM8 HU8 HQ HK56
  have y0 := b9.cell 0
  simp only [List.getElem?_cons_zero, List.getElem?_cons_succ] at y0
  have x0 := p9.cell 0
  have x1 := p9.cell 1
  have x2 := p9.cell 2
  have x3 := p9.cell 3
  simp only [List.getElem?_cons_zero, List.getElem?_cons_succ] at x0 x1 x2 x3
  have HUS := Lib.hid (fun x y (hx : x < W) (hy : y < H) => (scoL_turn px hx hy).trans (congrArg (fun l => pxL l W x y) HS.out))
  have HVS := Lib.hid (fun x y (hx : x < W) (hy : y < H) => (scoL_mir px hx hy).trans (congrArg (fun l => pxL l W x y) HS.out))
  clear b9 p9
  go_upto_region 16 with fail
  go_loop [105] (fun a => ∃ y : Nat, y ≤ H ∧ a = .int .i64 (y : Nat)) (fun a => H - (intOf a).toNat)
  case atStart => exact ⟨0, Nat.zero_le _, rfl⟩
  case round =>
    obtain ⟨y, hy, rfl⟩ := hrel
    by_cases hlt : y < H
    · have hltI : (y : Int) < (H : Int) := by omega
      go_wp2
      go_loop [110] (fun a => ∃ x : Nat, x ≤ W ∧ a = .int .i64 (x : Nat)) (fun a => W - (intOf a).toNat)
      case atStart => exact ⟨0, Nat.zero_le _, rfl⟩
      case round =>
        obtain ⟨x, hx, rfl⟩ := hrel
        by_cases hlx : x < W
        · have hlxI : (x : Int) < (W : Int) := by omega
          have hi0 : y * W + x < W * H := idx_lt hlx hlt
          have hi1 : (W - 1 - x) * H + y < H * W := idx_lt hlt (by omega)
          have hi2 : y * W + (W - 1 - x) < W * H := idx_lt (by omega) hlt
          have e1 := HUS.out x y hlx hlt
          have e2 := HVS.out x y hlx hlt
          have hnW : n = W * H := by rw [← HN.out]; exact HPL.out
          have hnW' : n = H * W := by rw [hnW, Nat.mul_comm]
          rw [← hnW] at hi0 hi2
          rw [← hnW'] at hi1
          obtain ⟨ba, oa, hA4, C0⟩ := IRow.at HS9.out (j := y * W + x) (by rw [HSL.out, HN.out]; exact hi0)
          obtain ⟨bb, ob, hA8, C1⟩ := IRow.at HU9.out (j := (W - 1 - x) * H + y) (by rw [scoL, madeL_length, ← hnW']; exact hi1)
          obtain ⟨bd, od, hA9, C2⟩ := IRow.at HV9.out (j := y * W + (W - 1 - x)) (by rw [scoL, madeL_length, ← hnW]; exact hi2)
          rw [show (scoL H W (turnL W H px)).getD ((W - 1 - x) * H + y) 0 = s.getD (y * W + x) 0 from e1] at C1
          rw [show (scoL W H (mirL W H px)).getD (y * W + (W - 1 - x)) 0 = s.getD (y * W + x) 0 from e2] at C2
          obtain ⟨nv, hnv⟩ : ∃ v, s.getD (y * W + x) 0 = v := ⟨_, rfl⟩
          rw [hnv] at C0 C1 C2
          obtain ⟨xr, hxr⟩ : ∃ k, W - 1 - x = k := ⟨_, rfl⟩
          rw [hxr] at C1 C2 hi1 hi2
          have hq0 : (y : Int) * (W : Int) = ((y * W : Nat) : Int) := by simp
          have hq1 : (xr : Int) * (H : Int) = ((xr * H : Nat) : Int) := by simp
          obtain ⟨k0, hk0⟩ : ∃ k, y * W = k := ⟨_, rfl⟩
          obtain ⟨k1, hk1⟩ : ∃ k, xr * H = k := ⟨_, rfl⟩
          rw [hk0] at C0 C2 hi0 hi2 hq0
          rw [hk1] at C1 hi1 hq1
          have hqx : (W : Int) - 1 - (x : Int) = (xr : Int) := by omega
          obtain ⟨kx, hkx⟩ : ∃ k, k0 + x = k := ⟨_, rfl⟩
          obtain ⟨ky, hky⟩ : ∃ k, k1 + y = k := ⟨_, rfl⟩
          obtain ⟨kz, hkz⟩ : ∃ k, k0 + xr = k := ⟨_, rfl⟩
          rw [hkx] at C0 hi0
          rw [hky] at C1 hi1
          rw [hkz] at C2 hi2
          have hs0 : (k0 : Int) + (x : Int) = (kx : Int) := by omega
          have hs1 : (k1 : Int) + (y : Int) = (ky : Int) := by omega
          have hs2 : (k0 : Int) + (W : Int) - 1 - (x : Int) = (kz : Int) := by omega
          have hbx : (kx : Int) < (n : Int) := by omega
          have hby : (ky : Int) < (n : Int) := by omega
          have hbz : (kz : Int) < (n : Int) := by omega
          have hn150 : (n : Int) ≤ 150 := by omega
          have hb0 : (k0 : Int) ≤ 150 := by omega
          have hb1 : (k1 : Int) ≤ 150 := by omega
          have hbr : (xr : Int) ≤ 64 := by omega
          have hwx : IntKind.i64.wrap (kx : Int) = (kx : Int) := by rw [IntKind.wrap_i64]; omega
          have hwy : IntKind.i64.wrap (ky : Int) = (ky : Int) := by rw [IntKind.wrap_i64]; omega
          have hwz : IntKind.i64.wrap (kz : Int) = (kz : Int) := by rw [IntKind.wrap_i64]; omega
          have hw0 : IntKind.i64.wrap (k0 : Int) = (k0 : Int) := by rw [IntKind.wrap_i64]; omega
          have hw1 : IntKind.i64.wrap (k1 : Int) = (k1 : Int) := by rw [IntKind.wrap_i64]; omega
          have hwr : IntKind.i64.wrap (xr : Int) = (xr : Int) := by rw [IntKind.wrap_i64]; omega
          subst hA4 hA8 hA9
          clear e1 e2 hnW hnW' hi0 hi1 hi2 hnv hxr hk0 hk1 hkx hky hkz
          go_wp2
          go_round
          case rel => exact ⟨x + 1, by omega, by go_num⟩
          case measure => simp [intOf]; omega
        · have hlxI : ¬ (x : Int) < (W : Int) := by omega
          go_wp2
          go_round
          case rel => exact ⟨y + 1, by omega, by go_num⟩
          case measure => simp [intOf]; omega
    · have hltI : ¬ (y : Int) < (H : Int) := by omega
      clear x0 x1 x2 x3 y0
      go_upto_region 27 with fail
      have hbt : BoxT w6.heap.size W H m px 1 w9 := by
        refine ⟨A6, c6, ?_, HT9.out⟩
        rw [HN.out]
        exact HB9.out
      have HBT := Lib.hid hbt
      have hlt69 : w6.heap.size < w9.heap.size := HB9.out.lt
      go_loopw [156] (fun a wr => ∃ k : Nat, k ≤ 3 ∧ a = .int .i64 (k : Nat) ∧ BoxT w6.heap.size W H m px (k + 1) wr ∧ Below w6.heap.size w9 wr) (fun a _ => 3 - (intOf a).toNat)
      case atStart => exact ⟨0, by omega, rfl, HBT.out, Below.refl _ _⟩
      case round =>
        obtain ⟨k, hk, rfl, ⟨Ak, ck, bk, rk⟩, hkk⟩ := hrel
        obtain ⟨Wk, hWk⟩ : ∃ z, (dimT W H (k + 1)).1 = z := ⟨_, rfl⟩
        obtain ⟨Hk, hHk⟩ : ∃ z, (dimT W H (k + 1)).2 = z := ⟨_, rfl⟩
        obtain ⟨pk, hpk⟩ : ∃ z, pixT W H px (k + 1) = z := ⟨_, rfl⟩
        have hvk := rasT HV.out (k + 1)
        have hlk := (lenT HPL.out (k + 1)).1
        rw [hWk, hHk] at bk hvk
        rw [hpk] at rk hvk hlk
        rw [HN.out] at bk hlk
        have y0 := bk.cell 0
        have y1 := bk.cell 1
        have y2 := bk.cell 2
        have y3 := bk.cell 3
        have g0 := bk.frozen 0
        have g1 := bk.frozen 1
        have g2 := bk.frozen 2
        have g3 := bk.frozen 3
        simp only [List.getElem?_cons_zero, List.getElem?_cons_succ] at y0 y1 y2 y3
        by_cases hk3 : k < 3
        · have hkI : (k : Int) < 3 := by omega
          have HQ : Hid (Calls Try.prog 8 #[.agg #[.int .i64 (Wk : Nat), .int .i64 (Hk : Nat), .int .i64 m, .slice Ak n ck]] wr fun e w' => ∃ A c, e = .returned (.tuple #[.agg #[.int .i64 (Hk : Nat), .int .i64 (Wk : Nat), .int .i64 m, .slice A n c], .int .i64 0]) ∧ IRow w' A (turnL Wk Hk pk) ∧ Keeps wr w' ∧ ∀ a : Addr, A = some a → wr.heap.size ≤ a.block) := Lib.hid (by
            have h := turn_any (c := ck) rk hvk
            rw [hlk] at h
            refine h.mono ?_
            rintro e w' ⟨A, c, rfl, h1, h2, h3⟩
            have hl5 := (lenT HPL.out (k + 1 + 1)).1
            rw [pixT, hWk, hHk, hpk, HN.out] at hl5
            exact ⟨A, c, by rw [hl5], h1, h2, h3⟩)
          go_wp2_with fail
          refine HQ.out.mono ?_
          rintro e wt ⟨At, ct, rfl, rt, hkt, hft⟩
          have bt := bk.below hkt
          have hbl := bk.lt
          have r5 := (((bt.set 0 (.int .i64 (Hk : Nat))).set 1 (.int .i64 (Wk : Nat))).set 2 (.int .i64 m)).set 3 (.slice At n ct)
          simp only [List.set_cons_zero, List.set_cons_succ] at r5
          have hfar : ∀ a : Addr, At = some a → a.block ≠ w6.heap.size := fun a e => by have := hft a e; omega
          have hbe : BoxT w6.heap.size W H m px (k + 1 + 1) ((((wt.setCell ⟨w6.heap.size, 0, none⟩ (.int .i64 (Hk : Nat))).setCell ⟨w6.heap.size, 1, none⟩ (.int .i64 (Wk : Nat))).setCell ⟨w6.heap.size, 2, none⟩ (.int .i64 m)).setCell ⟨w6.heap.size, 3, none⟩ (.slice At n ct)) := by
            refine ⟨At, ct, ?_, ?_⟩
            · rw [HN.out, show (dimT W H (k + 1 + 1)).1 = Hk from hHk, show (dimT W H (k + 1 + 1)).2 = Wk from hWk]
              exact r5
            · rw [show pixT W H px (k + 1 + 1) = turnL Wk Hk pk by rw [pixT, hWk, hHk, hpk]]
              exact (((rt.set_far (fun _ => hfar) 0 _).set_far (fun _ => hfar) 1 _).set_far (fun _ => hfar) 2 _).set_far (fun _ => hfar) 3 _
          have hbb := ((((hkk.trans (hkt.mono (Nat.le_of_lt hbl))).setCell (p := ⟨w6.heap.size, 0, none⟩) (Nat.le_refl _) (.int .i64 (Hk : Nat))).setCell (p := ⟨w6.heap.size, 1, none⟩) (Nat.le_refl _) (.int .i64 (Wk : Nat))).setCell (p := ⟨w6.heap.size, 2, none⟩) (Nat.le_refl _) (.int .i64 m)).setCell (p := ⟨w6.heap.size, 3, none⟩) (Nat.le_refl _) (.slice At n ct)
          have HBE := Lib.hid hbe
          have HBB := Lib.hid hbb
          clear y0 y1 y2 y3 g0 g1 g2 g3 hbe hbb r5 rk rt hkt hkk hvk hlk
          have y0 := bt.cell 0
          have y1 := bt.cell 1
          have y2 := bt.cell 2
          have y3 := bt.cell 3
          have g0 := bt.frozen 0
          have g1 := bt.frozen 1
          have g2 := bt.frozen 2
          have g3 := bt.frozen 3
          simp only [List.getElem?_cons_zero, List.getElem?_cons_succ] at y0 y1 y2 y3
          go_wp2
          go_roundw
          case rel => exact ⟨k + 1, by omega, by go_num, HBE.out, HBB.out⟩
          case measure => simp [intOf]; omega
        · obtain rfl : k = 3 := by omega
          obtain rfl : Wk = W := hWk.symm
          obtain rfl : Hk = H := hHk.symm
          obtain rfl : pk = px := by rw [← hpk]; exact pixT4 HPL.out
          have hsz5 : w5.heap.size ≤ w6.heap.size := by have := HK56'.out.size; omega
          have hk5r := HK59.out.trans (hkk.mono hsz5)
          have HQ : Hid (Calls Try.prog 7 #[.agg #[.int .i64 (Wk : Nat), .int .i64 (Hk : Nat), .int .i64 m, .slice Ak n ck], .int .i64 thr, .int .i64 100] wr (GivesCn fl wr)) := Lib.hid (by
            have h := find_any (c := ck) rk HV.out HM.out HT.out HLEN.out
            rw [HFL.out, HN.out] at h
            exact h)
          have HC := Lib.hid (HC5.out.below hk5r)
          have pr : Own wr w.heap.size 24 [.int .i64 (Wk : Nat), .int .i64 (Hk : Nat), .int .i64 m, .slice A n c] := HP9.out.keep hkk hsz6
          have HRr := Lib.hid (HR5k.out.below hk5r)
          have HRk := Lib.hid rk
          have HKWr := Lib.hid (HKW9.out.trans (hkk.mono (Nat.le_of_lt hsz6)))
          clear g0 g1 g2 g3 hkk hk5r hvk rk
          go_wp2_with fail
          refine HQ.out.mono ?_
          rintro e wf ⟨Af, cf, rfl, hcf, hkf⟩
          have bf := bk.below hkf
          have pf := pr.below hkf
          have hfew : fl.length ≤ 20 := by
            rw [← HFL.out, findP, srt_length]
            refine candN_few _ _ ?_
            rw [← HPL.out]
            exact HLEN.out
          have HQ1 : Hid (Calls Try.prog 10 #[.agg #[.int .i64 (Wk : Nat), .int .i64 (Hk : Nat), .int .i64 m, .slice Ak n ck], .agg #[.int .i64 (Wk : Nat), .int .i64 (Hk : Nat), .int .i64 m, .slice A n c]] wf fun e w' => e = .returned (.bool true) ∧ Keeps wf w') := Lib.hid (by
            have h := requal_same (a := Wk) (b := Hk) (m := m) (c := ck) (d := c) (HRk.out.below hkf) (HRr.out.below hkf) HHL.out HHL.out
            rw [HN.out, decide_eq_true rfl] at h
            exact h)
          clear y0 y1 y2 y3
          have y0 := bf.cell 0
          have y1 := bf.cell 1
          have y2 := bf.cell 2
          have y3 := bf.cell 3
          simp only [List.getElem?_cons_zero, List.getElem?_cons_succ] at y0 y1 y2 y3
          have x0 := pf.cell 0
          have x1 := pf.cell 1
          have x2 := pf.cell 2
          have x3 := pf.cell 3
          simp only [List.getElem?_cons_zero, List.getElem?_cons_succ] at x0 x1 x2 x3
          go_wp2_with fail
          refine HQ1.out.mono ?_
          rintro e wg ⟨rfl, hkg⟩
          have HQ2 := Lib.hid (cequal_same (c := cf) (d := c5) (hcf.below hkg) ((HC.out.below hkf).below hkg) rfl hfew)
          go_wp2_with fail
          refine HQ2.out.mono ?_
          rintro e wh ⟨rfl, hkh⟩
          go_wp2
          go_ret
          exact ⟨rfl, ((Keeps.trans' HKWr.out hkf).trans' hkg).trans' hkh⟩
end Go.Proofs.Ytecibfncnaccjaa
