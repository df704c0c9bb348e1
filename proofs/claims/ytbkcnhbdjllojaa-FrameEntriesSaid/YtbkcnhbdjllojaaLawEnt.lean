/- FrameEntries: the walk. -/
import Derived.Test.YtbkcnhbdjllojaaFrIs
namespace Go.Proofs.Ytbkcnhbdjllojaa
open Go.RowKit Go.Shelf
attribute [local go_sem] Oper.semAt_some

theorem frm_sorted {W H m : Int} {es : List Ent} {px : List Int} (hc : frmC es W H m px = 0) : Sorted es ∧ 1 ≤ px.length := by
  have hras : rasC W H m px = 0 := Classical.byContradiction fun h => by rw [frmC, if_pos h] at hc; exact h hc
  have hcnt : es.length ≤ 32 := Nat.le_of_not_lt fun h => by rw [frmC, if_neg (by simp [hras]), if_pos h] at hc; cases hc
  have hent : entC none es = 0 := by rw [frmC, if_neg (by simp [hras]), if_neg (by omega)] at hc; exact hc
  obtain ⟨hW, hH, -, hL, -, -⟩ := rasC_0 hras
  have h1 : 0 < W * H := Int.mul_pos (by omega) (by omega)
  exact ⟨(entC_sorted es none hent).2, by omega⟩
set_option maxRecDepth 100000 in
set_option maxHeartbeats 2000000 in
theorem frameEntries_any {w : World} {A B : Option Addr} {c d : Nat} {es : List Ent} {px : List Int} (hE : EntR w A es) (hI : IRow w B px) (hl : px.length ≤ maxLen) (hel : es.length ≤ maxLen) (W H m : Int) (key : ByteArray) (hkey : key.size ≤ maxLen) (value : ByteArray) (hval : value.size ≤ maxLen) :
    Calls Try.prog 11 #[frmV A es.length c W H m B px.length d, .string key, .string value] w fun e w' => e = .returned (.bool true) ∧ Keeps w w' := by
  obtain ⟨W1, hW1⟩ : ∃ W1, (w.alloc (.cells #[.slice A es.length c, .int .i64 W, .int .i64 H, .int .i64 m, .slice B px.length d] 27)).alloc (.cells #[.string key] 9) = W1 := ⟨_, rfl⟩
  have g3 : Own W1 w.heap.size 27 [.slice A es.length c, .int .i64 W, .int .i64 H, .int .i64 m, .slice B px.length d] := hW1 ▸ (Own.new w _ _).alloc _
  have g4 : Own W1 (w.heap.size + 1) 9 [.string key] := hW1 ▸ own2 w _ _ _
  have hkw : Keeps w W1 := hW1 ▸ keep2 w _ _
  have hs1 : w.heap.size + 2 ≤ W1.heap.size := by rw [← hW1]; simp
  have HK := Lib.hid (known_any W1)
  have HE := Lib.hid hE
  have HI := Lib.hid hI
  have hkI : (key.size : Int) ≤ 9223372036854775807 := by simp only [maxLen] at hkey; omega
  have hvI : (value.size : Int) ≤ 9223372036854775807 := by simp only [maxLen] at hval; omega
  clear hE hI
  go_enter Try.func11, Try.ntmps11
  go_wp2_with fail
  refine HK.out.mono ?_
  rintro e w1 ⟨rfl, hk1⟩
  replace g3 := g3.below hk1
  replace g4 := g4.below hk1
  replace hkw := hkw.trans' hk1
  replace hs1 := Nat.le_trans hs1 hk1.size
  have HF := Lib.hid (few_any (c := c) (B := B) (d := d) (px := px) (HE.out.below hkw) hl hel W H m)
  have x0 := g3.cell 0
  have x1 := g3.cell 1
  have x2 := g3.cell 2
  have x3 := g3.cell 3
  have x4 := g3.cell 4
  have k0 := g4.cell 0
  simp only [List.getElem?_cons_zero, List.getElem?_cons_succ] at x0 x1 x2 x3 x4 k0
  clear hW1
  by_cases hk14 : 140 < key.size
  · have a1 : decide ((140 : Int) < key.size) = true := by simp; omega
    have a1' : (140 : Int) < key.size := by omega
    go_wp2_with fail
    refine HF.out.mono ?_
    rintro e w2 ⟨b, rfl, -, hk2⟩
    have k0 := (g4.below hk2).cell 0
    simp only [List.getElem?_cons_zero] at k0
    cases b with
    | true =>
      go_wp2
      go_ret
      exact ⟨rfl, hkw.trans' hk2⟩
    | false =>
      go_wp2
      go_ret
      exact ⟨rfl, hkw.trans' hk2⟩
  have a1 : decide ((140 : Int) < key.size) = false := by simp; omega
  by_cases hv14 : 140 < value.size
  · have a2 : decide ((140 : Int) < value.size) = true := by simp; omega
    go_wp2_with fail
    refine HF.out.mono ?_
    rintro e w2 ⟨b, rfl, -, hk2⟩
    have k0 := (g4.below hk2).cell 0
    simp only [List.getElem?_cons_zero] at k0
    cases b with
    | true =>
      go_wp2
      go_ret
      exact ⟨rfl, hkw.trans' hk2⟩
    | false =>
      go_wp2
      go_ret
      exact ⟨rfl, hkw.trans' hk2⟩
  have a2 : decide ((140 : Int) < value.size) = false := by simp; omega
  go_wp2_with fail
  refine HF.out.mono ?_
  rintro e w2 ⟨b, rfl, hb, hk2⟩
  replace g3 := g3.below hk2
  replace g4 := g4.below hk2
  replace hkw := hkw.trans' hk2
  replace hs1 := Nat.le_trans hs1 hk2.size
  clear x0 x1 x2 x3 x4 k0
  have x0 := g3.cell 0
  have x1 := g3.cell 1
  have x2 := g3.cell 2
  have x3 := g3.cell 3
  have x4 := g3.cell 4
  have k0 := g4.cell 0
  simp only [List.getElem?_cons_zero, List.getElem?_cons_succ] at x0 x1 x2 x3 x4 k0
  cases b with
  | false =>
    go_wp2
    go_ret
    exact ⟨rfl, hkw⟩
  | true =>
    obtain ⟨f1, f2, f3⟩ := hb rfl
    have hs : EntS es := fun e he => by have := f3 e he; omega
    have HC := fun u (hk : Keeps w u) => Lib.hid (dfcheck_any (c := c) (d := d) (HE.out.below hk) (HI.out.below hk) hs W H m hl hel)
    have HZ := fun u => Lib.hid (sameF_yes (c := 0) (d := 0) (c' := 0) (d' := 0) (frIs_zero u) (frIs_zero u) (by decide) (by decide))
    by_cases hc : frmC es W H m px = 0
    · obtain ⟨-, hel2, hpl, -, -⟩ := frm_facts hc
      obtain ⟨hsort, hp1⟩ := frm_sorted hc
      have hky : key.size ≤ 1000000 := by omega
      have hvy : value.size ≤ 1000000 := by omega
      rw [hc] at HC
      rcases split_key key es hsort with ⟨l, v, r, he, hal, har⟩ | ⟨l, r, he, hal, har⟩
      · have HG := fun u (hk : Keeps w u) => Lib.hid (get_yes (c := c) (d := d) (HE.out.below hk) (HI.out.below hk) hs W H m hl hel key hc (by omega) he hal har)
        have HP := fun u (hk : Keeps w u) => Lib.hid (put_f (c := c) (d := d) (HE.out.below hk) (HI.out.below hk) hs W H m hl hel key value hky hvy hc (by omega) hp1 hpl he hal har)
        have HD := fun u (hk : Keeps w u) => Lib.hid (drop_yes (c := c) (d := d) (HE.out.below hk) (HI.out.below hk) hs W H m hl hel key hc (by omega) hp1 hpl he hal har)
        have hlen : es.length = l.length + r.length + 1 := by rw [he]; simp; omega
        have hfl := putF_len key value false ⟨l ++ (key, value) :: r, W, H, m, px⟩ (by simp; omega) (by show px.length ≤ _; omega)
        obtain ⟨pc, hpc⟩ : ∃ pc, putC key value false = pc := ⟨_, rfl⟩
        obtain ⟨PF, hPF⟩ : ∃ PF, putF key value false ⟨l ++ (key, value) :: r, W, H, m, px⟩ = PF := ⟨_, rfl⟩
        rw [hpc, hPF] at HP
        rw [hPF] at hfl
        have HPC := Lib.hid hpc
        have HPF := Lib.hid hPF
        have HES := Lib.hid he
        have HLEN := Lib.hid hlen
        have HAL := Lib.hid hal
        have HAR := Lib.hid har
        have hlI : (l.length : Int) + r.length + 1 ≤ 32 := by omega
        clear f1 f2 f3 hs hb hc hsort he hal har hpc hPF hlen hel2
        have HG1 := HG _ hkw
        go_wp2_with fail
        refine HG1.out.mono ?_
        rintro e w3 ⟨rfl, hk3⟩
        replace g3 := g3.below hk3
        replace g4 := g4.below hk3
        replace hkw := hkw.trans' hk3
        clear x0 x1 x2 x3 x4 k0
        have x0 := g3.cell 0
        have x1 := g3.cell 1
        have x2 := g3.cell 2
        have x3 := g3.cell 3
        have x4 := g3.cell 4
        have k0 := g4.cell 0
        simp only [List.getElem?_cons_zero, List.getElem?_cons_succ] at x0 x1 x2 x3 x4 k0
        have HP1 := HP _ hkw
        go_wp2_with fail
        refine HP1.out.mono ?_
        rintro e w4 ⟨A9, n9, c9, V9, H9, m9, B9, q9, d9, rfl, hF9, hk4⟩
        obtain ⟨X9, hX9⟩ : ∃ X, w4.alloc (.cells #[.slice A9 n9 c9, .int .i64 V9, .int .i64 H9, .int .i64 m9, .slice B9 q9 d9] 27) = X := ⟨_, rfl⟩
        have g9 : Own X9 w4.heap.size 27 [.slice A9 n9 c9, .int .i64 V9, .int .i64 H9, .int .i64 m9, .slice B9 q9 d9] := hX9 ▸ Own.new w4 _ _
        have hk5 : Keeps w4 X9 := hX9 ▸ (Below.refl _ _).alloc (Nat.le_refl _) _
        have HF9 := Lib.hid (hF9.below hk5)
        clear hF9
        replace g3 := g3.below hk4
        replace g4 := g4.below hk4
        replace hkw := hkw.trans' hk4
        replace g3 := g3.below hk5
        replace g4 := g4.below hk5
        replace hkw := hkw.trans' hk5
        clear x0 x1 x2 x3 x4 k0
        have x0 := g3.cell 0
        have x1 := g3.cell 1
        have x2 := g3.cell 2
        have x3 := g3.cell 3
        have x4 := g3.cell 4
        have k0 := g4.cell 0
        simp only [List.getElem?_cons_zero, List.getElem?_cons_succ] at x0 x1 x2 x3 x4 k0
        have HD1 := HD _ hkw
        go_wp2_with fail
        refine HD1.out.mono ?_
        clear hX9
        rintro e w6 hdrop
        obtain ⟨A11, c11, P11, cp11, rfl, hE11, hI11, hk6⟩ := hdrop
        have hF11 : FrIs w6 A11 (l.length + r.length) c11 W H m P11 px.length cp11 ⟨l ++ r, W, H, m, px⟩ := frIs_mk (by simp) rfl hE11 hI11
        obtain ⟨X11, hX11⟩ : ∃ X, w6.alloc (.cells #[.slice A11 (l.length + r.length) c11, .int .i64 W, .int .i64 H, .int .i64 m, .slice P11 px.length cp11] 27) = X := ⟨_, rfl⟩
        have g11 : Own X11 w6.heap.size 27 [.slice A11 (l.length + r.length) c11, .int .i64 W, .int .i64 H, .int .i64 m, .slice P11 px.length cp11] := hX11 ▸ Own.new w6 _ _
        have hk7 : Keeps w6 X11 := hX11 ▸ (Below.refl _ _).alloc (Nat.le_refl _) _
        have HF11 := Lib.hid (hF11.below hk7)
        clear hE11 hI11 hF11
        replace g9 := (g9.below hk6).below hk7
        replace HF9 := Lib.hid ((HF9.out.below hk6).below hk7)
        replace g3 := g3.below hk6
        replace g4 := g4.below hk6
        replace hkw := hkw.trans' hk6
        replace g3 := g3.below hk7
        replace g4 := g4.below hk7
        replace hkw := hkw.trans' hk7
        clear x0 x1 x2 x3 x4 k0
        have x0 := g3.cell 0
        have x1 := g3.cell 1
        have x2 := g3.cell 2
        have x3 := g3.cell 3
        have x4 := g3.cell 4
        have k0 := g4.cell 0
        simp only [List.getElem?_cons_zero, List.getElem?_cons_succ] at x0 x1 x2 x3 x4 k0
        have HC1 := HC _ hkw
        go_wp2_with fail
        refine HC1.out.mono ?_
        rintro e w8 ⟨rfl, hk8⟩
        clear hX11
        replace g9 := g9.below hk8
        replace g11 := g11.below hk8
        replace HF9 := Lib.hid (HF9.out.below hk8)
        replace HF11 := Lib.hid (HF11.out.below hk8)
        replace g3 := g3.below hk8
        replace g4 := g4.below hk8
        replace hkw := hkw.trans' hk8
        clear x0 x1 x2 x3 x4 k0
        have x0 := g3.cell 0
        have x1 := g3.cell 1
        have x2 := g3.cell 2
        have x3 := g3.cell 3
        have x4 := g3.cell 4
        have k0 := g4.cell 0
        simp only [List.getElem?_cons_zero, List.getElem?_cons_succ] at x0 x1 x2 x3 x4 k0
        have HIX := Lib.hid (indexE_any (c := c) (HE.out.below hkw) (by have := HLEN.out; omega) 41 #[.pointer (some ⟨w.heap.size + 1, 0, none⟩)] entL1 key (Nat.le_refl _) (saysL1 k0 g4.lt (Nat.le_refl _)))
        go_wp2_with fail
        refine HIX.out.mono ?_
        rintro e wx ⟨vi, rfl, hvi, hkx⟩
        obtain rfl := idxE_at (HES.out ▸ hvi) HAL.out.ne
        clear hvi HIX
        replace g9 := g9.below hkx
        replace g11 := g11.below hkx
        replace HF9 := Lib.hid (HF9.out.below hkx)
        replace HF11 := Lib.hid (HF11.out.below hkx)
        replace g3 := g3.below hkx
        replace g4 := g4.below hkx
        replace hkw := hkw.trans' hkx
        clear x0 x1 x2 x3 x4 k0
        have x0 := g3.cell 0
        have x1 := g3.cell 1
        have x2 := g3.cell 2
        have x3 := g3.cell 3
        have x4 := g3.cell 4
        have k0 := g4.cell 0
        simp only [List.getElem?_cons_zero, List.getElem?_cons_succ] at x0 x1 x2 x3 x4 k0
        have HCL := Lib.hid (cloneE_any (c := c) (HE.out.below hkw) (by have := HLEN.out; omega))
        have hbx : w.heap.size + 1 < wx.heap.size := g4.lt
        go_wp2_with fail
        refine HCL.out.mono ?_
        rintro e wa ⟨V, rfl, hV, hka⟩
        obtain ⟨gg, cap, rfl, hOE⟩ := oe_some hV (by have := HLEN.out; omega)
        have k0a := (g4.below hka).cell 0
        simp only [List.getElem?_cons_zero] at k0a
        have HDF := Lib.hid (deleteF_n hOE HES.out HLEN.out (by omega) 44 #[.pointer (some ⟨w.heap.size + 1, 0, none⟩)] entL2 hka.size (saysL2 k0a hbx hka.size) HAL.out.ne HAR.out.ne)
        clear hV hOE k0a
        go_wp2_with fail
        refine HDF.out.mono ?_
        rintro e wd ⟨rfl, hOD, hkd⟩
        have hkxd : Keeps wx wd := hka.trans hkd
        replace g9 := g9.below hkxd
        replace g11 := g11.below hkxd
        replace HF9 := Lib.hid (HF9.out.below hkxd)
        replace HF11 := Lib.hid (HF11.out.below hkxd)
        replace g3 := g3.below hkxd
        replace g4 := g4.below hkxd
        replace hkw := hkw.trans' hkxd
        clear x0 x1 x2 x3 x4 k0
        have x0 := g3.cell 0
        have x1 := g3.cell 1
        have x2 := g3.cell 2
        have x3 := g3.cell 3
        have x4 := g3.cell 4
        have k0 := g4.cell 0
        simp only [List.getElem?_cons_zero, List.getElem?_cons_succ] at x0 x1 x2 x3 x4 k0
        have z0 := g11.cell 0
        have z1 := g11.cell 1
        have z2 := g11.cell 2
        have z3 := g11.cell 3
        have z4 := g11.cell 4
        simp only [List.getElem?_cons_zero, List.getElem?_cons_succ] at z0 z1 z2 z3 z4
        obtain ⟨bq, oq, hAe, -, c1, c2⟩ := (HE.out.below hkw) l.length key v (by rw [HES.out]; simp)
        subst hAe
        have HS11 := Lib.hid (sameF_yes (c' := cap) (d' := d) HF11.out (frIs_mk (n := l.length + r.length) (by simp) rfl hOD.entR (HI.out.below hkw)) (by show px.length ≤ _; omega) (by simp; omega))
        have HER := Lib.hid hOD.entR
        have hleI : (l.length : Int) < es.length := by have := HLEN.out; omega
        clear HDF hOD HCL
        go_wp2_with fail
        refine HS11.out.mono ?_
        rintro e we ⟨rfl, hke⟩
        replace g9 := g9.below hke
        replace HF9 := Lib.hid (HF9.out.below hke)
        replace HER := Lib.hid (HER.out.below hke)
        replace g3 := g3.below hke
        replace g4 := g4.below hke
        replace hkw := hkw.trans' hke
        clear x0 x1 x2 x3 x4 k0
        have x0 := g3.cell 0
        have x1 := g3.cell 1
        have x2 := g3.cell 2
        have x3 := g3.cell 3
        have x4 := g3.cell 4
        have k0 := g4.cell 0
        simp only [List.getElem?_cons_zero, List.getElem?_cons_succ] at x0 x1 x2 x3 x4 k0
        clear z0 z1 z2 z3 z4 c1 c2 g11 HF11 hleI HS11
        have hfullI : (((l.length + r.length : Nat) : Int) == 32) = false := by simp; omega
        have hfullI2 : ((l.length : Int) + r.length == 32) = false := by simp; omega
        have HNR : Hid (l.length + r.length = (l ++ r).length) := Lib.hid (by simp)
        have hnrI : ((l.length + r.length : Nat) : Int) = (l.length : Int) + r.length := by push_cast; rfl
        have HFULL : Hid (valC value = 0 → keyB key = true → pc = 0 ∧ PF = ⟨l ++ (key, value) :: r, W, H, m, px⟩) := Lib.hid fun h1 h2 => by
          have h3 := putC_ok h2 h1
          exact ⟨by rw [← HPC.out, h3], by rw [← HPF.out, putF, h3, if_pos rfl]⟩
        generalize (some ⟨gg, 0, none⟩ : Option Addr) = RA at *
        have HKD := fun u => Lib.hid (keyed_any key u hky)
        have HVD := fun u => Lib.hid (valued_any value u hvy)
        cases hkb : keyB key with
        | false =>
          rw [hkb] at HKD
          have hp10 : pc = 10 := by rw [← HPC.out]; exact putC_key hkb
          have hPz : PF = zf := by rw [← HPF.out, putF, putC_key hkb, if_neg (by decide)]
          rw [hp10]
          rw [hPz] at HF9
          have HKD1 := HKD we
          have HS9 := Lib.hid (sameF_yes (c' := 0) (d' := 0) HF9.out (frIs_zero we) (by decide) (by decide))
          have y0 := g9.cell 0
          have y1 := g9.cell 1
          have y2 := g9.cell 2
          have y3 := g9.cell 3
          have y4 := g9.cell 4
          simp only [List.getElem?_cons_zero, List.getElem?_cons_succ] at y0 y1 y2 y3 y4
          clear hkb hp10 hPz HFULL
          go_wp2_with fail
          refine HKD1.out.mono ?_
          rintro e wk ⟨rfl, rfl⟩
          go_wp2_with fail
          refine HS9.out.mono ?_
          rintro e wl ⟨rfl, hkl⟩
          go_wp2
          go_ret
          exact ⟨rfl, hkw.trans' hkl⟩
        | true =>
          rw [hkb] at HKD
          have HKD1 := HKD we
          have HVD1 := HVD we
          by_cases hvc : valC value = 0
          · have HFU := Lib.hid (HFULL.out hvc hkb)
            rw [hvc] at HVD1
            clear hvc hkb HFULL HKD HVD
            go_wp2_with fail
            refine HKD1.out.mono ?_
            rintro e wk ⟨rfl, rfl⟩
            go_wp2_with fail
            refine HVD1.out.mono ?_
            rintro e wk ⟨rfl, rfl⟩
            obtain ⟨wy, hwy⟩ : ∃ wy, wy = wk := ⟨_, rfl⟩
            subst hwy
            go_wp2
            clear x0 x1 x2 x3 x4 k0
            go_loopw [16] (fun i u => ∃ j : Nat, j ≤ l.length ∧ i = .int .i64 (j : Nat) ∧ Keeps wy u) (fun i _ => l.length + 1 - (intOf i).toNat)
            case atStart => exact ⟨0, Nat.zero_le _, rfl, Below.refl _ _⟩
            case round =>
              obtain ⟨j, hj, rfl, hkz⟩ := hrel
              have k0 := (g4.below hkz).cell 0
              simp only [List.getElem?_cons_zero] at k0
              by_cases hjl : j < l.length
              · obtain ⟨⟨k2, v2⟩, hkv⟩ : ∃ e, l[j]? = some e := ⟨_, List.getElem?_eq_getElem hjl⟩
                obtain ⟨bq, oq, eA, -, c1, c2⟩ := (HER.out.below hkz) j k2 v2 (by rw [List.getElem?_append_left hjl]; exact hkv)
                have hq : Op.bytesLess k2.toList key.toList = true := HAL.out _ (List.mem_of_getElem? hkv)
                have hjI : (j : Int) < l.length := by omega
                have hjI2 : (j : Int) < (l.length : Int) + r.length := by omega
                have hjd : decide ((j : Int) < (l.length : Int) + r.length) = true := decide_eq_true hjI2
                cases eA
                clear hkv
                go_wp2
                go_quiet (fail)
                go_wp2
                go_roundw
                case rel => exact ⟨j + 1, by omega, by go_num, below_drewN hkz _⟩
                case measure => simp [intOf]; omega
              · obtain rfl : j = l.length := by omega
                rcases Nat.lt_or_ge 0 r.length with hrn | hrn
                rotate_left
                · skip
                  have hnI2 : ¬ ((l.length : Int) < (l.length : Int) + r.length) := by omega
                  have hjd : decide ((l.length : Int) < (l.length : Int) + r.length) = false := decide_eq_false hnI2
                  have hjd2 : decide ((0 : Int) < r.length) = false := decide_eq_false (by omega)
                  have hjd3 : decide (0 < r.length) = false := decide_eq_false (by omega)
                  have hnI3 : ¬ ((0 : Int) < r.length) := by omega
                  have hnI4 : ¬ (0 < r.length) := by omega
                  clear hjl hrn
                  go_wp2
                  go_quiet (fail)
                  have hkz2 : Keeps wy (wr.drewN nq) := below_drewN hkz nq
                  have g3z := g3.below hkz2
                  have g4z := g4.below hkz2
                  have g9z := g9.below hkz2
                  have HF9z := Lib.hid (HF9.out.below hkz2)
                  have hkwz := hkw.trans' hkz2
                  have HERz := Lib.hid (HER.out.below hkz2)
                  clear g3 g4 g9 HF9 hkw HER hkz hkz2 k0
                  generalize wr.drewN nq = wz at *
                  have hERd : EntR wz.drew _ (l ++ r) := HERz.out.below (Below.drew (Below.refl _ _))
                  have hERa : EntR (wz.alloc (.cells #[.string key, .string value] 57)).drew _ (l ++ r) := HERz.out.below (Below.drew ((Below.refl _ _).alloc (Nat.le_refl _) _))
                  have HCa := Lib.hid (cloneE_n (c := cap) (n := (l.length + r.length)) hERd (by simp; omega) HNR.out)
                  have HCb := Lib.hid (cloneE_n (c := cap) (n := (l.length + r.length)) hERa (by simp; omega) HNR.out)
                  have hll : (l ++ r).length = l.length + r.length := List.length_append
                  rw [hll] at HCa HCb
                  have hlr1 : l.length + r.length ≤ 1000 := by omega
                  have g4d := g4z.drew
                  have g4e := (g4z.alloc (.cells #[.string key, .string value] 57)).drew
                  have s0 : (fun w' : World => w'.cell? ⟨w.heap.size + 1, 0, none⟩ = some (.string key)) wz.drew := g4d.cell 0
                  have s1 : (fun w' : World => w'.cell? ⟨w.heap.size + 1, 0, none⟩ = some (.string key)) (wz.alloc (.cells #[.string key, .string value] 57)).drew := g4e.cell 0
                  have hkd0 : Keeps wz wz.drew := Below.drew (Below.refl _ _)
                  have hke0 : Keeps wz (wz.alloc (.cells #[.string key, .string value] 57)).drew := Below.drew ((Below.refl _ _).alloc (Nat.le_refl _) _)
                  have hvoe : Own (wz.alloc (.cells #[.string key, .string value] 57)).drew wz.heap.size 57 [.string key, .string value] := (Own.new wz _ _).drew
                  have hsze : (wz.alloc (.cells #[.string key, .string value] 57)).drew.heap.size = wz.heap.size + 1 := World.size_alloc _ _
                  dsimp only at s0 s1
                  clear hERd hERa
                  go_wp2
                  go_region_held3 (fun w' => w'.cell? ⟨w.heap.size + 1, 0, none⟩ = some (.string key))
                    (first | (with_reducible exact s0) | (with_reducible exact s1) | (with_reducible exact s2) | (with_reducible exact s3) | (with_reducible exact s4) | fail)
                    (first
                      | (go_at_call 43; (with_reducible refine HCa.out.mono ?_); rintro e wf ⟨V2, rfl, hV2, hkf⟩; obtain ⟨A8, c8, rfl, -⟩ := hV2.sl; have g4f := g4d.below hkf; have s2 : wf.cell? ⟨w.heap.size + 1, 0, none⟩ = some (.string key) := g4f.cell 0; have s3 : (wf.alloc (.cells #[.string key, .string value] 57)).cell? ⟨w.heap.size + 1, 0, none⟩ = some (.string key) := (g4f.alloc _).cell 0; have hkg : Keeps wz (wf.alloc (.cells #[.string key, .string value] 57)) := (hkd0.trans' hkf).trans' ((Below.refl _ _).alloc (Nat.le_refl _) _); have hbs : wz.heap.size ≤ wz.drew.heap.size := Nat.le_refl _; have HIN := Lib.hid (insertE_n (V := .slice A8 (l.length + r.length) c8) (l := l) (r := r) (hV2.alloc (.cells #[.string key, .string value] 57)) rfl rfl (Own.new wf _ _) (fun e => by have := (hV2.lo wf.heap.size (by rw [blkOf, e]; simp)).2; omega) hlr1 (Nat.le_trans hkf.size (by rw [World.size_alloc]; omega))); clear hV2)
                      | (go_at_call 43; (with_reducible refine HCb.out.mono ?_); rintro e wf ⟨V2, rfl, hV2, hkf⟩; obtain ⟨A8, c8, rfl, -⟩ := hV2.sl; have g4f := g4e.below hkf; have s2 : wf.cell? ⟨w.heap.size + 1, 0, none⟩ = some (.string key) := g4f.cell 0; have hkg : Keeps wz wf := hke0.trans' hkf; have hbs : wz.heap.size ≤ (wz.alloc (.cells #[.string key, .string value] 57)).drew.heap.size := hke0.size; have HIN := Lib.hid (insertE_n (V := .slice A8 (l.length + r.length) c8) (l := l) (r := r) hV2 rfl rfl (hvoe.below hkf) (fun e => by have := (hV2.lo wz.heap.size (by rw [blkOf, e]; simp)).1; omega) hlr1 hkf.size); clear hV2)
                      | (go_at_call 47; (with_reducible refine HIN.out.mono ?_); rintro e wi ⟨A7, c7, rfl, hE7, -, hki⟩; have hkzi : Keeps wz wi := hkg.trans (hki.mono hbs); have s4 : wi.cell? ⟨w.heap.size + 1, 0, none⟩ = some (.string key) := (g4z.below hkzi).cell 0; have HE7 := Lib.hid hE7; clear hE7))
                  all_goals
                    have g3i := g3z.below hkzi
                    have g9 := g9z.below hkzi
                    have hkwi := hkwz.trans' hkzi
                    have hpc0 := HFU.out.1
                    have HF9i := Lib.hid (HF9z.out.below hkzi)
                    rw [HFU.out.2] at HF9i
                    have HSF := Lib.hid (sameF_yes (c' := c7) (d' := d) HF9i.out (frIs_mk (n := l.length + r.length + 1) (by simp; omega) rfl HE7.out (HI.out.below hkwi)) (by show px.length ≤ _; omega) (by simp; omega))
                    have x1 := g3i.cell 1
                    have x2 := g3i.cell 2
                    have x3 := g3i.cell 3
                    have x4 := g3i.cell 4
                    simp only [List.getElem?_cons_zero, List.getElem?_cons_succ] at x1 x2 x3 x4
                    have y0 := g9.cell 0
                    have y1 := g9.cell 1
                    have y2 := g9.cell 2
                    have y3 := g9.cell 3
                    have y4 := g9.cell 4
                    simp only [List.getElem?_cons_zero, List.getElem?_cons_succ] at y0 y1 y2 y3 y4
                    clear HFU HIN HCa HCb hfl HPC HPF
                    subst hpc0
                    go_wp2_with fail
                    refine HSF.out.mono ?_
                    rintro e wl ⟨rfl, hkl⟩
                    go_wp2
                    go_ret
                    exact ⟨rfl, hkwi.trans' hkl⟩
                · obtain ⟨⟨k2, v2⟩, hkv⟩ : ∃ e, r[0]? = some e := ⟨_, List.getElem?_eq_getElem hrn⟩
                  obtain ⟨bq, oq, eA, -, c1, c2⟩ := (HER.out.below hkz) l.length k2 v2 (by rw [List.getElem?_append_right (Nat.le_refl _), Nat.sub_self]; exact hkv)
                  have hq : Op.bytesLess k2.toList key.toList = false := sLess_not (HAR.out (k2, v2) (List.mem_of_getElem? hkv))
                  have hnI2 : (l.length : Int) < (l.length : Int) + r.length := by omega
                  have hjd : decide ((l.length : Int) < (l.length : Int) + r.length) = true := decide_eq_true hnI2
                  have hjd2 : decide ((0 : Int) < r.length) = true := decide_eq_true (by omega)
                  have hjd3 : decide (0 < r.length) = true := decide_eq_true (by omega)
                  cases eA
                  clear hkv hjl
                  go_wp2
                  go_quiet (fail)
                  have hkz2 : Keeps wy (wr.drewN nq) := below_drewN hkz nq
                  have g3z := g3.below hkz2
                  have g4z := g4.below hkz2
                  have g9z := g9.below hkz2
                  have HF9z := Lib.hid (HF9.out.below hkz2)
                  have hkwz := hkw.trans' hkz2
                  have HERz := Lib.hid (HER.out.below hkz2)
                  clear g3 g4 g9 HF9 hkw HER hkz hkz2 k0
                  generalize wr.drewN nq = wz at *
                  have hERd : EntR wz.drew _ (l ++ r) := HERz.out.below (Below.drew (Below.refl _ _))
                  have hERa : EntR (wz.alloc (.cells #[.string key, .string value] 57)).drew _ (l ++ r) := HERz.out.below (Below.drew ((Below.refl _ _).alloc (Nat.le_refl _) _))
                  have HCa := Lib.hid (cloneE_n (c := cap) (n := (l.length + r.length)) hERd (by simp; omega) HNR.out)
                  have HCb := Lib.hid (cloneE_n (c := cap) (n := (l.length + r.length)) hERa (by simp; omega) HNR.out)
                  have hll : (l ++ r).length = l.length + r.length := List.length_append
                  rw [hll] at HCa HCb
                  have hlr1 : l.length + r.length ≤ 1000 := by omega
                  have g4d := g4z.drew
                  have g4e := (g4z.alloc (.cells #[.string key, .string value] 57)).drew
                  have s0 : (fun w' : World => w'.cell? ⟨w.heap.size + 1, 0, none⟩ = some (.string key)) wz.drew := g4d.cell 0
                  have s1 : (fun w' : World => w'.cell? ⟨w.heap.size + 1, 0, none⟩ = some (.string key)) (wz.alloc (.cells #[.string key, .string value] 57)).drew := g4e.cell 0
                  have hkd0 : Keeps wz wz.drew := Below.drew (Below.refl _ _)
                  have hke0 : Keeps wz (wz.alloc (.cells #[.string key, .string value] 57)).drew := Below.drew ((Below.refl _ _).alloc (Nat.le_refl _) _)
                  have hvoe : Own (wz.alloc (.cells #[.string key, .string value] 57)).drew wz.heap.size 57 [.string key, .string value] := (Own.new wz _ _).drew
                  have hsze : (wz.alloc (.cells #[.string key, .string value] 57)).drew.heap.size = wz.heap.size + 1 := World.size_alloc _ _
                  dsimp only at s0 s1
                  clear hERd hERa
                  go_wp2
                  go_region_held3 (fun w' => w'.cell? ⟨w.heap.size + 1, 0, none⟩ = some (.string key))
                    (first | (with_reducible exact s0) | (with_reducible exact s1) | (with_reducible exact s2) | (with_reducible exact s3) | (with_reducible exact s4) | fail)
                    (first
                      | (go_at_call 43; (with_reducible refine HCa.out.mono ?_); rintro e wf ⟨V2, rfl, hV2, hkf⟩; obtain ⟨A8, c8, rfl, -⟩ := hV2.sl; have g4f := g4d.below hkf; have s2 : wf.cell? ⟨w.heap.size + 1, 0, none⟩ = some (.string key) := g4f.cell 0; have s3 : (wf.alloc (.cells #[.string key, .string value] 57)).cell? ⟨w.heap.size + 1, 0, none⟩ = some (.string key) := (g4f.alloc _).cell 0; have hkg : Keeps wz (wf.alloc (.cells #[.string key, .string value] 57)) := (hkd0.trans' hkf).trans' ((Below.refl _ _).alloc (Nat.le_refl _) _); have hbs : wz.heap.size ≤ wz.drew.heap.size := Nat.le_refl _; have HIN := Lib.hid (insertE_n (V := .slice A8 (l.length + r.length) c8) (l := l) (r := r) (hV2.alloc (.cells #[.string key, .string value] 57)) rfl rfl (Own.new wf _ _) (fun e => by have := (hV2.lo wf.heap.size (by rw [blkOf, e]; simp)).2; omega) hlr1 (Nat.le_trans hkf.size (by rw [World.size_alloc]; omega))); clear hV2)
                      | (go_at_call 43; (with_reducible refine HCb.out.mono ?_); rintro e wf ⟨V2, rfl, hV2, hkf⟩; obtain ⟨A8, c8, rfl, -⟩ := hV2.sl; have g4f := g4e.below hkf; have s2 : wf.cell? ⟨w.heap.size + 1, 0, none⟩ = some (.string key) := g4f.cell 0; have hkg : Keeps wz wf := hke0.trans' hkf; have hbs : wz.heap.size ≤ (wz.alloc (.cells #[.string key, .string value] 57)).drew.heap.size := hke0.size; have HIN := Lib.hid (insertE_n (V := .slice A8 (l.length + r.length) c8) (l := l) (r := r) hV2 rfl rfl (hvoe.below hkf) (fun e => by have := (hV2.lo wz.heap.size (by rw [blkOf, e]; simp)).1; omega) hlr1 hkf.size); clear hV2)
                      | (go_at_call 47; (with_reducible refine HIN.out.mono ?_); rintro e wi ⟨A7, c7, rfl, hE7, -, hki⟩; have hkzi : Keeps wz wi := hkg.trans (hki.mono hbs); have s4 : wi.cell? ⟨w.heap.size + 1, 0, none⟩ = some (.string key) := (g4z.below hkzi).cell 0; have HE7 := Lib.hid hE7; clear hE7))
                  all_goals
                    have g3i := g3z.below hkzi
                    have g9 := g9z.below hkzi
                    have hkwi := hkwz.trans' hkzi
                    have hpc0 := HFU.out.1
                    have HF9i := Lib.hid (HF9z.out.below hkzi)
                    rw [HFU.out.2] at HF9i
                    have HSF := Lib.hid (sameF_yes (c' := c7) (d' := d) HF9i.out (frIs_mk (n := l.length + r.length + 1) (by simp; omega) rfl HE7.out (HI.out.below hkwi)) (by show px.length ≤ _; omega) (by simp; omega))
                    have x1 := g3i.cell 1
                    have x2 := g3i.cell 2
                    have x3 := g3i.cell 3
                    have x4 := g3i.cell 4
                    simp only [List.getElem?_cons_zero, List.getElem?_cons_succ] at x1 x2 x3 x4
                    have y0 := g9.cell 0
                    have y1 := g9.cell 1
                    have y2 := g9.cell 2
                    have y3 := g9.cell 3
                    have y4 := g9.cell 4
                    simp only [List.getElem?_cons_zero, List.getElem?_cons_succ] at y0 y1 y2 y3 y4
                    clear HFU HIN HCa HCb hfl HPC HPF
                    subst hpc0
                    go_wp2_with fail
                    refine HSF.out.mono ?_
                    rintro e wl ⟨rfl, hkl⟩
                    go_wp2
                    go_ret
                    exact ⟨rfl, hkwi.trans' hkl⟩
          · have hpv : pc = valC value := by rw [← HPC.out]; exact putC_val hkb hvc
            have hPz : PF = zf := by rw [← HPF.out, putF, putC_val hkb hvc, if_neg hvc]
            rw [hpv]
            rw [hPz] at HF9
            obtain ⟨vc, hvce⟩ : ∃ vc, valC value = vc := ⟨_, rfl⟩
            rw [hvce] at HVD1 hvc ⊢
            have hvn : (vc != 0) = true := by simpa using hvc
            have hvn2 : (vc == 0) = false := by simpa using hvc
            have HS9 := Lib.hid (sameF_yes (c' := 0) (d' := 0) HF9.out (frIs_zero we) (by decide) (by decide))
            have y0 := g9.cell 0
            have y1 := g9.cell 1
            have y2 := g9.cell 2
            have y3 := g9.cell 3
            have y4 := g9.cell 4
            simp only [List.getElem?_cons_zero, List.getElem?_cons_succ] at y0 y1 y2 y3 y4
            clear hkb hpv hPz hvce hvc HFULL
            go_wp2_with fail
            refine HKD1.out.mono ?_
            rintro e wk ⟨rfl, rfl⟩
            go_wp2_with fail
            refine HVD1.out.mono ?_
            rintro e wk ⟨rfl, rfl⟩
            go_wp2_with fail
            refine HS9.out.mono ?_
            rintro e wl ⟨rfl, hkl⟩
            go_wp2
            go_ret
            exact ⟨by simp, hkw.trans' hkl⟩
      · have HG := fun u (hk : Keeps w u) => Lib.hid (get_miss (c := c) (d := d) (HE.out.below hk) (HI.out.below hk) hs W H m hl hel key hc (by omega) he hal har)
        have HP := fun u (hk : Keeps w u) => Lib.hid (put_m (c := c) (d := d) (HE.out.below hk) (HI.out.below hk) hs W H m hl hel key value hky hvy hc (by omega) hp1 hpl he hal har)
        have HD := fun u (hk : Keeps w u) => Lib.hid (drop_miss (c := c) (d := d) (HE.out.below hk) (HI.out.below hk) hs W H m hl hel key hc (by omega) he hal har)
        have hlen : es.length = l.length + r.length := by rw [he]; simp
        obtain ⟨full, hfu⟩ : ∃ full, decide (es.length = 32) = full := ⟨_, rfl⟩
        rw [hfu] at HP
        have hfl := putF_len key value full ⟨l ++ (key, value) :: r, W, H, m, px⟩ (by simp; omega) (by show px.length ≤ _; omega)
        obtain ⟨pc, hpc⟩ : ∃ pc, putC key value full = pc := ⟨_, rfl⟩
        obtain ⟨PF, hPF⟩ : ∃ PF, putF key value full ⟨l ++ (key, value) :: r, W, H, m, px⟩ = PF := ⟨_, rfl⟩
        rw [hpc, hPF] at HP
        rw [hPF] at hfl
        have HFUL := Lib.hid hfu
        have HPC := Lib.hid hpc
        have HPF := Lib.hid hPF
        have HES := Lib.hid he
        have HLEN := Lib.hid hlen
        have HAL := Lib.hid hal
        have HAR := Lib.hid har
        have HNO : Hid (∀ e ∈ es, e.1 ≠ key) := Lib.hid fun e hm => by
          rw [he, List.mem_append] at hm
          rcases hm with hm | hm
          · exact hal.ne e hm
          · exact har.ne e hm
        have hlI : (l.length : Int) + r.length ≤ 32 := by omega
        have heI : (es.length : Int) ≤ 32 := by omega
        clear f1 f2 f3 hs hb hc hsort he hal har hpc hPF hlen hel2 hfu
        have HG1 := HG _ hkw
        go_wp2_with fail
        refine HG1.out.mono ?_
        rintro e w3 ⟨rfl, hk3⟩
        replace g3 := g3.below hk3
        replace g4 := g4.below hk3
        replace hkw := hkw.trans' hk3
        clear x0 x1 x2 x3 x4 k0
        have x0 := g3.cell 0
        have x1 := g3.cell 1
        have x2 := g3.cell 2
        have x3 := g3.cell 3
        have x4 := g3.cell 4
        have k0 := g4.cell 0
        simp only [List.getElem?_cons_zero, List.getElem?_cons_succ] at x0 x1 x2 x3 x4 k0
        have HP1 := HP _ hkw
        go_wp2_with fail
        refine HP1.out.mono ?_
        rintro e w4 ⟨A9, n9, c9, V9, H9, m9, B9, q9, d9, rfl, hF9, hk4⟩
        obtain ⟨X9, hX9⟩ : ∃ X, w4.alloc (.cells #[.slice A9 n9 c9, .int .i64 V9, .int .i64 H9, .int .i64 m9, .slice B9 q9 d9] 27) = X := ⟨_, rfl⟩
        have g9 : Own X9 w4.heap.size 27 [.slice A9 n9 c9, .int .i64 V9, .int .i64 H9, .int .i64 m9, .slice B9 q9 d9] := hX9 ▸ Own.new w4 _ _
        have hk5 : Keeps w4 X9 := hX9 ▸ (Below.refl _ _).alloc (Nat.le_refl _) _
        have HF9 := Lib.hid (hF9.below hk5)
        clear hF9
        replace g3 := g3.below hk4
        replace g4 := g4.below hk4
        replace hkw := hkw.trans' hk4
        replace g3 := g3.below hk5
        replace g4 := g4.below hk5
        replace hkw := hkw.trans' hk5
        clear x0 x1 x2 x3 x4 k0
        have x0 := g3.cell 0
        have x1 := g3.cell 1
        have x2 := g3.cell 2
        have x3 := g3.cell 3
        have x4 := g3.cell 4
        have k0 := g4.cell 0
        simp only [List.getElem?_cons_zero, List.getElem?_cons_succ] at x0 x1 x2 x3 x4 k0
        have HD1 := HD _ hkw
        go_wp2_with fail
        refine HD1.out.mono ?_
        clear hX9
        rintro e w6 hdrop
        obtain ⟨rfl, hk6⟩ := hdrop
        have g11 : Own (w6.alloc (.cells #[.slice none 0 0, .int .i64 0, .int .i64 0, .int .i64 0, .slice none 0 0] 27)) w6.heap.size 27 [.slice none 0 0, .int .i64 0, .int .i64 0, .int .i64 0, .slice none 0 0] := Own.new w6 _ _
        have hk7 : Keeps w6 (w6.alloc (.cells #[.slice none 0 0, .int .i64 0, .int .i64 0, .int .i64 0, .slice none 0 0] 27)) := (Below.refl _ _).alloc (Nat.le_refl _) _
        replace g9 := (g9.below hk6).below hk7
        replace HF9 := Lib.hid ((HF9.out.below hk6).below hk7)
        replace g3 := g3.below hk6
        replace g4 := g4.below hk6
        replace hkw := hkw.trans' hk6
        replace g3 := g3.below hk7
        replace g4 := g4.below hk7
        replace hkw := hkw.trans' hk7
        clear x0 x1 x2 x3 x4 k0
        have x0 := g3.cell 0
        have x1 := g3.cell 1
        have x2 := g3.cell 2
        have x3 := g3.cell 3
        have x4 := g3.cell 4
        have k0 := g4.cell 0
        simp only [List.getElem?_cons_zero, List.getElem?_cons_succ] at x0 x1 x2 x3 x4 k0
        have HC1 := HC _ hkw
        go_wp2_with fail
        refine HC1.out.mono ?_
        rintro e w8 ⟨rfl, hk8⟩
        replace g9 := g9.below hk8
        replace g11 := g11.below hk8
        replace HF9 := Lib.hid (HF9.out.below hk8)
        replace g3 := g3.below hk8
        replace g4 := g4.below hk8
        replace hkw := hkw.trans' hk8
        clear x0 x1 x2 x3 x4 k0
        have x0 := g3.cell 0
        have x1 := g3.cell 1
        have x2 := g3.cell 2
        have x3 := g3.cell 3
        have x4 := g3.cell 4
        have k0 := g4.cell 0
        simp only [List.getElem?_cons_zero, List.getElem?_cons_succ] at x0 x1 x2 x3 x4 k0
        have HIX := Lib.hid (indexE_any (c := c) (HE.out.below hkw) (by omega) 41 #[.pointer (some ⟨w.heap.size + 1, 0, none⟩)] entL1 key (Nat.le_refl _) (saysL1 k0 g4.lt (Nat.le_refl _)))
        go_wp2_with fail
        refine HIX.out.mono ?_
        rintro e wx ⟨vi, rfl, hvi, hkx⟩
        obtain rfl : vi = -1 := by
          rcases hvi with ⟨h, -⟩ | ⟨l', x', r', h, -, -⟩
          · exact h
          · exact absurd rfl (HNO.out (key, x') (by rw [h]; simp))
        clear hvi HIX
        replace g9 := g9.below hkx
        replace g11 := g11.below hkx
        replace HF9 := Lib.hid (HF9.out.below hkx)
        replace g3 := g3.below hkx
        replace g4 := g4.below hkx
        replace hkw := hkw.trans' hkx
        clear x0 x1 x2 x3 x4 k0
        have x0 := g3.cell 0
        have x1 := g3.cell 1
        have x2 := g3.cell 2
        have x3 := g3.cell 3
        have x4 := g3.cell 4
        have k0 := g4.cell 0
        simp only [List.getElem?_cons_zero, List.getElem?_cons_succ] at x0 x1 x2 x3 x4 k0
        have HCL := Lib.hid (cloneE_any (c := c) (HE.out.below hkw) (by omega))
        go_wp2_with fail
        refine HCL.out.mono ?_
        rintro e wa ⟨V, rfl, hV, hka⟩
        obtain ⟨A6, c6, hVe, -⟩ := hV.sl
        have hEV : EntR wa A6 es := by
          rcases OE.of_own hV with ⟨h1, h2⟩ | ⟨g', cap', h1, h2⟩
          · rw [h2]
            exact fun j k v hj => by simp at hj
          · rw [hVe] at h1
            cases h1
            exact h2.entR
        subst hVe
        replace g9 := g9.below hka
        replace g11 := g11.below hka
        replace HF9 := Lib.hid (HF9.out.below hka)
        replace g3 := g3.below hka
        replace g4 := g4.below hka
        replace hkw := hkw.trans' hka
        clear x0 x1 x2 x3 x4 k0
        have x0 := g3.cell 0
        have x1 := g3.cell 1
        have x2 := g3.cell 2
        have x3 := g3.cell 3
        have x4 := g3.cell 4
        have k0 := g4.cell 0
        simp only [List.getElem?_cons_zero, List.getElem?_cons_succ] at x0 x1 x2 x3 x4 k0
        have HDF := Lib.hid (deleteF_no (c := c6) hEV (by omega) 44 #[.pointer (some ⟨w.heap.size + 1, 0, none⟩)] entL2 key (Nat.le_refl _) (saysL2 k0 g4.lt (Nat.le_refl _)) HNO.out)
        have HEV := Lib.hid hEV
        clear hV hEV HCL
        go_wp2_with fail
        refine HDF.out.mono ?_
        rintro e wd ⟨rfl, hkd⟩
        replace g9 := g9.below hkd
        replace g11 := g11.below hkd
        replace HF9 := Lib.hid (HF9.out.below hkd)
        replace g3 := g3.below hkd
        replace g4 := g4.below hkd
        replace hkw := hkw.trans' hkd
        clear x0 x1 x2 x3 x4 k0
        have x0 := g3.cell 0
        have x1 := g3.cell 1
        have x2 := g3.cell 2
        have x3 := g3.cell 3
        have x4 := g3.cell 4
        have k0 := g4.cell 0
        simp only [List.getElem?_cons_zero, List.getElem?_cons_succ] at x0 x1 x2 x3 x4 k0
        have z0 := g11.cell 0
        have z1 := g11.cell 1
        have z2 := g11.cell 2
        have z3 := g11.cell 3
        have z4 := g11.cell 4
        simp only [List.getElem?_cons_zero, List.getElem?_cons_succ] at z0 z1 z2 z3 z4
        have HZ1 := HZ wd
        clear HDF
        go_wp2_with fail
        refine HZ1.out.mono ?_
        rintro e we ⟨rfl, hke⟩
        have HER : Hid (EntR we A6 (l ++ r)) := Lib.hid (by rw [← HES.out]; exact (HEV.out.below hkd).below hke)
        replace g9 := g9.below hke
        replace HF9 := Lib.hid (HF9.out.below hke)
        replace g3 := g3.below hke
        replace g4 := g4.below hke
        replace hkw := hkw.trans' hke
        clear x0 x1 x2 x3 x4 k0
        have x0 := g3.cell 0
        have x1 := g3.cell 1
        have x2 := g3.cell 2
        have x3 := g3.cell 3
        have x4 := g3.cell 4
        have k0 := g4.cell 0
        simp only [List.getElem?_cons_zero, List.getElem?_cons_succ] at x0 x1 x2 x3 x4 k0
        clear z0 z1 z2 z3 z4 g11 HZ1 HZ
        have HNR : Hid (l.length + r.length = (l ++ r).length) := Lib.hid (by simp)
        have hnrI : ((l.length + r.length : Nat) : Int) = (l.length : Int) + r.length := by push_cast; rfl
        simp only [HLEN.out]
        clear heI x0
        have x0 : (0 : Nat) = 0 := rfl
        by_cases hf : l.length + r.length = 32
        · have hfullI : (((l.length + r.length : Nat) : Int) == 32) = true := by simp; omega
          have hfullI2 : ((l.length : Int) + r.length == 32) = true := by simp; omega
          have HFULL : Hid (valC value = 0 → keyB key = true → pc = 3 ∧ PF = zf) := Lib.hid fun h1 h2 => by
            have hft : full = true := by rw [← HFUL.out]; exact decide_eq_true (by rw [HLEN.out]; exact hf)
            have h3 := putC_full h2 h1
            exact ⟨by rw [← HPC.out, hft, h3], by rw [← HPF.out, hft, putF, h3, if_neg (by decide)]⟩
          clear hf
          have HKD := fun u => Lib.hid (keyed_any key u hky)
          have HVD := fun u => Lib.hid (valued_any value u hvy)
          cases hkb : keyB key with
          | false =>
            rw [hkb] at HKD
            have hp10 : pc = 10 := by rw [← HPC.out]; exact putC_key hkb
            have hPz : PF = zf := by rw [← HPF.out, putF, putC_key hkb, if_neg (by decide)]
            rw [hp10]
            rw [hPz] at HF9
            have HKD1 := HKD we
            have HS9 := Lib.hid (sameF_yes (c' := 0) (d' := 0) HF9.out (frIs_zero we) (by decide) (by decide))
            have y0 := g9.cell 0
            have y1 := g9.cell 1
            have y2 := g9.cell 2
            have y3 := g9.cell 3
            have y4 := g9.cell 4
            simp only [List.getElem?_cons_zero, List.getElem?_cons_succ] at y0 y1 y2 y3 y4
            clear hkb hp10 hPz HFULL
            go_wp2_with fail
            refine HKD1.out.mono ?_
            rintro e wk ⟨rfl, rfl⟩
            go_wp2_with fail
            refine HS9.out.mono ?_
            rintro e wl ⟨rfl, hkl⟩
            go_wp2
            go_ret
            exact ⟨rfl, hkw.trans' hkl⟩
          | true =>
            rw [hkb] at HKD
            have HKD1 := HKD we
            have HVD1 := HVD we
            by_cases hvc : valC value = 0
            · have HFU := Lib.hid (HFULL.out hvc hkb)
              rw [hvc] at HVD1
              clear hvc hkb HFULL HKD HVD
              go_wp2_with fail
              refine HKD1.out.mono ?_
              rintro e wk ⟨rfl, rfl⟩
              go_wp2_with fail
              refine HVD1.out.mono ?_
              rintro e wk ⟨rfl, rfl⟩
              have hp3 := HFU.out.1
              rw [hp3]
              have HF9k := Lib.hid HF9.out
              rw [HFU.out.2] at HF9k
              have HS9 := Lib.hid (sameF_yes (c' := 0) (d' := 0) HF9k.out (frIs_zero wk) (by decide) (by decide))
              have y0 := g9.cell 0
              have y1 := g9.cell 1
              have y2 := g9.cell 2
              have y3 := g9.cell 3
              have y4 := g9.cell 4
              simp only [List.getElem?_cons_zero, List.getElem?_cons_succ] at y0 y1 y2 y3 y4
              clear hp3 HFU
              go_wp2_with fail
              refine HS9.out.mono ?_
              rintro e wl ⟨rfl, hkl⟩
              go_wp2
              go_ret
              exact ⟨rfl, hkw.trans' hkl⟩
            · have hpv : pc = valC value := by rw [← HPC.out]; exact putC_val hkb hvc
              have hPz : PF = zf := by rw [← HPF.out, putF, putC_val hkb hvc, if_neg hvc]
              rw [hpv]
              rw [hPz] at HF9
              obtain ⟨vc, hvce⟩ : ∃ vc, valC value = vc := ⟨_, rfl⟩
              rw [hvce] at HVD1 hvc ⊢
              have hvn : (vc != 0) = true := by simpa using hvc
              have hvn2 : (vc == 0) = false := by simpa using hvc
              have HS9 := Lib.hid (sameF_yes (c' := 0) (d' := 0) HF9.out (frIs_zero we) (by decide) (by decide))
              have y0 := g9.cell 0
              have y1 := g9.cell 1
              have y2 := g9.cell 2
              have y3 := g9.cell 3
              have y4 := g9.cell 4
              simp only [List.getElem?_cons_zero, List.getElem?_cons_succ] at y0 y1 y2 y3 y4
              clear hkb hpv hPz hvce hvc HFULL
              go_wp2_with fail
              refine HKD1.out.mono ?_
              rintro e wk ⟨rfl, rfl⟩
              go_wp2_with fail
              refine HVD1.out.mono ?_
              rintro e wk ⟨rfl, rfl⟩
              go_wp2_with fail
              refine HS9.out.mono ?_
              rintro e wl ⟨rfl, hkl⟩
              go_wp2
              go_ret
              exact ⟨by simp, hkw.trans' hkl⟩
        · have hfullI : (((l.length + r.length : Nat) : Int) == 32) = false := by simp; omega
          have hfullI2 : ((l.length : Int) + r.length == 32) = false := by simp; omega
          have HFULL : Hid (valC value = 0 → keyB key = true → pc = 0 ∧ PF = ⟨l ++ (key, value) :: r, W, H, m, px⟩) := Lib.hid fun h1 h2 => by
            have hft : full = false := by rw [← HFUL.out]; exact decide_eq_false (by rw [HLEN.out]; exact hf)
            have h3 := putC_ok h2 h1
            exact ⟨by rw [← HPC.out, hft, h3], by rw [← HPF.out, hft, putF, h3, if_pos rfl]⟩
          clear hf
          have HKD := fun u => Lib.hid (keyed_any key u hky)
          have HVD := fun u => Lib.hid (valued_any value u hvy)
          cases hkb : keyB key with
          | false =>
            rw [hkb] at HKD
            have hp10 : pc = 10 := by rw [← HPC.out]; exact putC_key hkb
            have hPz : PF = zf := by rw [← HPF.out, putF, putC_key hkb, if_neg (by decide)]
            rw [hp10]
            rw [hPz] at HF9
            have HKD1 := HKD we
            have HS9 := Lib.hid (sameF_yes (c' := 0) (d' := 0) HF9.out (frIs_zero we) (by decide) (by decide))
            have y0 := g9.cell 0
            have y1 := g9.cell 1
            have y2 := g9.cell 2
            have y3 := g9.cell 3
            have y4 := g9.cell 4
            simp only [List.getElem?_cons_zero, List.getElem?_cons_succ] at y0 y1 y2 y3 y4
            clear hkb hp10 hPz HFULL
            go_wp2_with fail
            refine HKD1.out.mono ?_
            rintro e wk ⟨rfl, rfl⟩
            go_wp2_with fail
            refine HS9.out.mono ?_
            rintro e wl ⟨rfl, hkl⟩
            go_wp2
            go_ret
            exact ⟨rfl, hkw.trans' hkl⟩
          | true =>
            rw [hkb] at HKD
            have HKD1 := HKD we
            have HVD1 := HVD we
            by_cases hvc : valC value = 0
            · have HFU := Lib.hid (HFULL.out hvc hkb)
              rw [hvc] at HVD1
              clear hvc hkb HFULL HKD HVD
              go_wp2_with fail
              refine HKD1.out.mono ?_
              rintro e wk ⟨rfl, rfl⟩
              go_wp2_with fail
              refine HVD1.out.mono ?_
              rintro e wk ⟨rfl, rfl⟩
              obtain ⟨wy, hwy⟩ : ∃ wy, wy = wk := ⟨_, rfl⟩
              subst hwy
              go_wp2
              clear x0 x1 x2 x3 x4 k0
              go_loopw [16] (fun i u => ∃ j : Nat, j ≤ l.length ∧ i = .int .i64 (j : Nat) ∧ Keeps wy u) (fun i _ => l.length + 1 - (intOf i).toNat)
              case atStart => exact ⟨0, Nat.zero_le _, rfl, Below.refl _ _⟩
              case round =>
                obtain ⟨j, hj, rfl, hkz⟩ := hrel
                have k0 := (g4.below hkz).cell 0
                simp only [List.getElem?_cons_zero] at k0
                by_cases hjl : j < l.length
                · obtain ⟨⟨k2, v2⟩, hkv⟩ : ∃ e, l[j]? = some e := ⟨_, List.getElem?_eq_getElem hjl⟩
                  obtain ⟨bq, oq, eA, -, c1, c2⟩ := (HER.out.below hkz) j k2 v2 (by rw [List.getElem?_append_left hjl]; exact hkv)
                  have hq : Op.bytesLess k2.toList key.toList = true := HAL.out _ (List.mem_of_getElem? hkv)
                  have hjI : (j : Int) < l.length := by omega
                  have hjI2 : (j : Int) < (l.length : Int) + r.length := by omega
                  have hjd : decide ((j : Int) < (l.length : Int) + r.length) = true := decide_eq_true hjI2
                  cases eA
                  clear hkv
                  go_wp2
                  go_quiet (fail)
                  go_wp2
                  go_roundw
                  case rel => exact ⟨j + 1, by omega, by go_num, below_drewN hkz _⟩
                  case measure => simp [intOf]; omega
                · obtain rfl : j = l.length := by omega
                  rcases Nat.lt_or_ge 0 r.length with hrn | hrn
                  rotate_left
                  · skip
                    have hnI2 : ¬ ((l.length : Int) < (l.length : Int) + r.length) := by omega
                    have hjd : decide ((l.length : Int) < (l.length : Int) + r.length) = false := decide_eq_false hnI2
                    have hjd2 : decide ((0 : Int) < r.length) = false := decide_eq_false (by omega)
                    have hjd3 : decide (0 < r.length) = false := decide_eq_false (by omega)
                    have hnI3 : ¬ ((0 : Int) < r.length) := by omega
                    have hnI4 : ¬ (0 < r.length) := by omega
                    clear hjl hrn
                    go_wp2
                    go_quiet (fail)
                    have hkz2 : Keeps wy (wr.drewN nq) := below_drewN hkz nq
                    have g3z := g3.below hkz2
                    have g4z := g4.below hkz2
                    have g9z := g9.below hkz2
                    have HF9z := Lib.hid (HF9.out.below hkz2)
                    have hkwz := hkw.trans' hkz2
                    have HERz := Lib.hid (HER.out.below hkz2)
                    clear g3 g4 g9 HF9 hkw HER hkz hkz2 k0
                    generalize wr.drewN nq = wz at *
                    have hERd : EntR wz.drew _ (l ++ r) := HERz.out.below (Below.drew (Below.refl _ _))
                    have hERa : EntR (wz.alloc (.cells #[.string key, .string value] 57)).drew _ (l ++ r) := HERz.out.below (Below.drew ((Below.refl _ _).alloc (Nat.le_refl _) _))
                    have HCa := Lib.hid (cloneE_n (c := c6) (n := (l.length + r.length)) hERd (by simp; omega) HNR.out)
                    have HCb := Lib.hid (cloneE_n (c := c6) (n := (l.length + r.length)) hERa (by simp; omega) HNR.out)
                    have hll : (l ++ r).length = l.length + r.length := List.length_append
                    rw [hll] at HCa HCb
                    have hlr1 : l.length + r.length ≤ 1000 := by omega
                    have g4d := g4z.drew
                    have g4e := (g4z.alloc (.cells #[.string key, .string value] 57)).drew
                    have s0 : (fun w' : World => w'.cell? ⟨w.heap.size + 1, 0, none⟩ = some (.string key)) wz.drew := g4d.cell 0
                    have s1 : (fun w' : World => w'.cell? ⟨w.heap.size + 1, 0, none⟩ = some (.string key)) (wz.alloc (.cells #[.string key, .string value] 57)).drew := g4e.cell 0
                    have hkd0 : Keeps wz wz.drew := Below.drew (Below.refl _ _)
                    have hke0 : Keeps wz (wz.alloc (.cells #[.string key, .string value] 57)).drew := Below.drew ((Below.refl _ _).alloc (Nat.le_refl _) _)
                    have hvoe : Own (wz.alloc (.cells #[.string key, .string value] 57)).drew wz.heap.size 57 [.string key, .string value] := (Own.new wz _ _).drew
                    have hsze : (wz.alloc (.cells #[.string key, .string value] 57)).drew.heap.size = wz.heap.size + 1 := World.size_alloc _ _
                    dsimp only at s0 s1
                    clear hERd hERa
                    go_wp2
                    go_region_held3 (fun w' => w'.cell? ⟨w.heap.size + 1, 0, none⟩ = some (.string key))
                      (first | (with_reducible exact s0) | (with_reducible exact s1) | (with_reducible exact s2) | (with_reducible exact s3) | (with_reducible exact s4) | fail)
                      (first
                        | (go_at_call 43; (with_reducible refine HCa.out.mono ?_); rintro e wf ⟨V2, rfl, hV2, hkf⟩; obtain ⟨A8, c8, rfl, -⟩ := hV2.sl; have g4f := g4d.below hkf; have s2 : wf.cell? ⟨w.heap.size + 1, 0, none⟩ = some (.string key) := g4f.cell 0; have s3 : (wf.alloc (.cells #[.string key, .string value] 57)).cell? ⟨w.heap.size + 1, 0, none⟩ = some (.string key) := (g4f.alloc _).cell 0; have hkg : Keeps wz (wf.alloc (.cells #[.string key, .string value] 57)) := (hkd0.trans' hkf).trans' ((Below.refl _ _).alloc (Nat.le_refl _) _); have hbs : wz.heap.size ≤ wz.drew.heap.size := Nat.le_refl _; have HIN := Lib.hid (insertE_n (V := .slice A8 (l.length + r.length) c8) (l := l) (r := r) (hV2.alloc (.cells #[.string key, .string value] 57)) rfl rfl (Own.new wf _ _) (fun e => by have := (hV2.lo wf.heap.size (by rw [blkOf, e]; simp)).2; omega) hlr1 (Nat.le_trans hkf.size (by rw [World.size_alloc]; omega))); clear hV2)
                        | (go_at_call 43; (with_reducible refine HCb.out.mono ?_); rintro e wf ⟨V2, rfl, hV2, hkf⟩; obtain ⟨A8, c8, rfl, -⟩ := hV2.sl; have g4f := g4e.below hkf; have s2 : wf.cell? ⟨w.heap.size + 1, 0, none⟩ = some (.string key) := g4f.cell 0; have hkg : Keeps wz wf := hke0.trans' hkf; have hbs : wz.heap.size ≤ (wz.alloc (.cells #[.string key, .string value] 57)).drew.heap.size := hke0.size; have HIN := Lib.hid (insertE_n (V := .slice A8 (l.length + r.length) c8) (l := l) (r := r) hV2 rfl rfl (hvoe.below hkf) (fun e => by have := (hV2.lo wz.heap.size (by rw [blkOf, e]; simp)).1; omega) hlr1 hkf.size); clear hV2)
                        | (go_at_call 47; (with_reducible refine HIN.out.mono ?_); rintro e wi ⟨A7, c7, rfl, hE7, -, hki⟩; have hkzi : Keeps wz wi := hkg.trans (hki.mono hbs); have s4 : wi.cell? ⟨w.heap.size + 1, 0, none⟩ = some (.string key) := (g4z.below hkzi).cell 0; have HE7 := Lib.hid hE7; clear hE7))
                    all_goals
                      have g3i := g3z.below hkzi
                      have g9 := g9z.below hkzi
                      have hkwi := hkwz.trans' hkzi
                      have hpc0 := HFU.out.1
                      have HF9i := Lib.hid (HF9z.out.below hkzi)
                      rw [HFU.out.2] at HF9i
                      have HSF := Lib.hid (sameF_yes (c' := c7) (d' := d) HF9i.out (frIs_mk (n := l.length + r.length + 1) (by simp; omega) rfl HE7.out (HI.out.below hkwi)) (by show px.length ≤ _; omega) (by simp; omega))
                      have x1 := g3i.cell 1
                      have x2 := g3i.cell 2
                      have x3 := g3i.cell 3
                      have x4 := g3i.cell 4
                      simp only [List.getElem?_cons_zero, List.getElem?_cons_succ] at x1 x2 x3 x4
                      have y0 := g9.cell 0
                      have y1 := g9.cell 1
                      have y2 := g9.cell 2
                      have y3 := g9.cell 3
                      have y4 := g9.cell 4
                      simp only [List.getElem?_cons_zero, List.getElem?_cons_succ] at y0 y1 y2 y3 y4
                      clear HFU HIN HCa HCb hfl HPC HPF
                      subst hpc0
                      go_wp2_with fail
                      refine HSF.out.mono ?_
                      rintro e wl ⟨rfl, hkl⟩
                      go_wp2
                      go_ret
                      exact ⟨rfl, hkwi.trans' hkl⟩
                  · obtain ⟨⟨k2, v2⟩, hkv⟩ : ∃ e, r[0]? = some e := ⟨_, List.getElem?_eq_getElem hrn⟩
                    obtain ⟨bq, oq, eA, -, c1, c2⟩ := (HER.out.below hkz) l.length k2 v2 (by rw [List.getElem?_append_right (Nat.le_refl _), Nat.sub_self]; exact hkv)
                    have hq : Op.bytesLess k2.toList key.toList = false := sLess_not (HAR.out (k2, v2) (List.mem_of_getElem? hkv))
                    have hnI2 : (l.length : Int) < (l.length : Int) + r.length := by omega
                    have hjd : decide ((l.length : Int) < (l.length : Int) + r.length) = true := decide_eq_true hnI2
                    have hjd2 : decide ((0 : Int) < r.length) = true := decide_eq_true (by omega)
                    have hjd3 : decide (0 < r.length) = true := decide_eq_true (by omega)
                    cases eA
                    clear hkv hjl
                    go_wp2
                    go_quiet (fail)
                    have hkz2 : Keeps wy (wr.drewN nq) := below_drewN hkz nq
                    have g3z := g3.below hkz2
                    have g4z := g4.below hkz2
                    have g9z := g9.below hkz2
                    have HF9z := Lib.hid (HF9.out.below hkz2)
                    have hkwz := hkw.trans' hkz2
                    have HERz := Lib.hid (HER.out.below hkz2)
                    clear g3 g4 g9 HF9 hkw HER hkz hkz2 k0
                    generalize wr.drewN nq = wz at *
                    have hERd : EntR wz.drew _ (l ++ r) := HERz.out.below (Below.drew (Below.refl _ _))
                    have hERa : EntR (wz.alloc (.cells #[.string key, .string value] 57)).drew _ (l ++ r) := HERz.out.below (Below.drew ((Below.refl _ _).alloc (Nat.le_refl _) _))
                    have HCa := Lib.hid (cloneE_n (c := c6) (n := (l.length + r.length)) hERd (by simp; omega) HNR.out)
                    have HCb := Lib.hid (cloneE_n (c := c6) (n := (l.length + r.length)) hERa (by simp; omega) HNR.out)
                    have hll : (l ++ r).length = l.length + r.length := List.length_append
                    rw [hll] at HCa HCb
                    have hlr1 : l.length + r.length ≤ 1000 := by omega
                    have g4d := g4z.drew
                    have g4e := (g4z.alloc (.cells #[.string key, .string value] 57)).drew
                    have s0 : (fun w' : World => w'.cell? ⟨w.heap.size + 1, 0, none⟩ = some (.string key)) wz.drew := g4d.cell 0
                    have s1 : (fun w' : World => w'.cell? ⟨w.heap.size + 1, 0, none⟩ = some (.string key)) (wz.alloc (.cells #[.string key, .string value] 57)).drew := g4e.cell 0
                    have hkd0 : Keeps wz wz.drew := Below.drew (Below.refl _ _)
                    have hke0 : Keeps wz (wz.alloc (.cells #[.string key, .string value] 57)).drew := Below.drew ((Below.refl _ _).alloc (Nat.le_refl _) _)
                    have hvoe : Own (wz.alloc (.cells #[.string key, .string value] 57)).drew wz.heap.size 57 [.string key, .string value] := (Own.new wz _ _).drew
                    have hsze : (wz.alloc (.cells #[.string key, .string value] 57)).drew.heap.size = wz.heap.size + 1 := World.size_alloc _ _
                    dsimp only at s0 s1
                    clear hERd hERa
                    go_wp2
                    go_region_held3 (fun w' => w'.cell? ⟨w.heap.size + 1, 0, none⟩ = some (.string key))
                      (first | (with_reducible exact s0) | (with_reducible exact s1) | (with_reducible exact s2) | (with_reducible exact s3) | (with_reducible exact s4) | fail)
                      (first
                        | (go_at_call 43; (with_reducible refine HCa.out.mono ?_); rintro e wf ⟨V2, rfl, hV2, hkf⟩; obtain ⟨A8, c8, rfl, -⟩ := hV2.sl; have g4f := g4d.below hkf; have s2 : wf.cell? ⟨w.heap.size + 1, 0, none⟩ = some (.string key) := g4f.cell 0; have s3 : (wf.alloc (.cells #[.string key, .string value] 57)).cell? ⟨w.heap.size + 1, 0, none⟩ = some (.string key) := (g4f.alloc _).cell 0; have hkg : Keeps wz (wf.alloc (.cells #[.string key, .string value] 57)) := (hkd0.trans' hkf).trans' ((Below.refl _ _).alloc (Nat.le_refl _) _); have hbs : wz.heap.size ≤ wz.drew.heap.size := Nat.le_refl _; have HIN := Lib.hid (insertE_n (V := .slice A8 (l.length + r.length) c8) (l := l) (r := r) (hV2.alloc (.cells #[.string key, .string value] 57)) rfl rfl (Own.new wf _ _) (fun e => by have := (hV2.lo wf.heap.size (by rw [blkOf, e]; simp)).2; omega) hlr1 (Nat.le_trans hkf.size (by rw [World.size_alloc]; omega))); clear hV2)
                        | (go_at_call 43; (with_reducible refine HCb.out.mono ?_); rintro e wf ⟨V2, rfl, hV2, hkf⟩; obtain ⟨A8, c8, rfl, -⟩ := hV2.sl; have g4f := g4e.below hkf; have s2 : wf.cell? ⟨w.heap.size + 1, 0, none⟩ = some (.string key) := g4f.cell 0; have hkg : Keeps wz wf := hke0.trans' hkf; have hbs : wz.heap.size ≤ (wz.alloc (.cells #[.string key, .string value] 57)).drew.heap.size := hke0.size; have HIN := Lib.hid (insertE_n (V := .slice A8 (l.length + r.length) c8) (l := l) (r := r) hV2 rfl rfl (hvoe.below hkf) (fun e => by have := (hV2.lo wz.heap.size (by rw [blkOf, e]; simp)).1; omega) hlr1 hkf.size); clear hV2)
                        | (go_at_call 47; (with_reducible refine HIN.out.mono ?_); rintro e wi ⟨A7, c7, rfl, hE7, -, hki⟩; have hkzi : Keeps wz wi := hkg.trans (hki.mono hbs); have s4 : wi.cell? ⟨w.heap.size + 1, 0, none⟩ = some (.string key) := (g4z.below hkzi).cell 0; have HE7 := Lib.hid hE7; clear hE7))
                    all_goals
                      have g3i := g3z.below hkzi
                      have g9 := g9z.below hkzi
                      have hkwi := hkwz.trans' hkzi
                      have hpc0 := HFU.out.1
                      have HF9i := Lib.hid (HF9z.out.below hkzi)
                      rw [HFU.out.2] at HF9i
                      have HSF := Lib.hid (sameF_yes (c' := c7) (d' := d) HF9i.out (frIs_mk (n := l.length + r.length + 1) (by simp; omega) rfl HE7.out (HI.out.below hkwi)) (by show px.length ≤ _; omega) (by simp; omega))
                      have x1 := g3i.cell 1
                      have x2 := g3i.cell 2
                      have x3 := g3i.cell 3
                      have x4 := g3i.cell 4
                      simp only [List.getElem?_cons_zero, List.getElem?_cons_succ] at x1 x2 x3 x4
                      have y0 := g9.cell 0
                      have y1 := g9.cell 1
                      have y2 := g9.cell 2
                      have y3 := g9.cell 3
                      have y4 := g9.cell 4
                      simp only [List.getElem?_cons_zero, List.getElem?_cons_succ] at y0 y1 y2 y3 y4
                      clear HFU HIN HCa HCb hfl HPC HPF
                      subst hpc0
                      go_wp2_with fail
                      refine HSF.out.mono ?_
                      rintro e wl ⟨rfl, hkl⟩
                      go_wp2
                      go_ret
                      exact ⟨rfl, hkwi.trans' hkl⟩
            · have hpv : pc = valC value := by rw [← HPC.out]; exact putC_val hkb hvc
              have hPz : PF = zf := by rw [← HPF.out, putF, putC_val hkb hvc, if_neg hvc]
              rw [hpv]
              rw [hPz] at HF9
              obtain ⟨vc, hvce⟩ : ∃ vc, valC value = vc := ⟨_, rfl⟩
              rw [hvce] at HVD1 hvc ⊢
              have hvn : (vc != 0) = true := by simpa using hvc
              have hvn2 : (vc == 0) = false := by simpa using hvc
              have HS9 := Lib.hid (sameF_yes (c' := 0) (d' := 0) HF9.out (frIs_zero we) (by decide) (by decide))
              have y0 := g9.cell 0
              have y1 := g9.cell 1
              have y2 := g9.cell 2
              have y3 := g9.cell 3
              have y4 := g9.cell 4
              simp only [List.getElem?_cons_zero, List.getElem?_cons_succ] at y0 y1 y2 y3 y4
              clear hkb hpv hPz hvce hvc HFULL
              go_wp2_with fail
              refine HKD1.out.mono ?_
              rintro e wk ⟨rfl, rfl⟩
              go_wp2_with fail
              refine HVD1.out.mono ?_
              rintro e wk ⟨rfl, rfl⟩
              go_wp2_with fail
              refine HS9.out.mono ?_
              rintro e wl ⟨rfl, hkl⟩
              go_wp2
              go_ret
              exact ⟨by simp, hkw.trans' hkl⟩
    · have HG := fun u (hk : Keeps w u) => Lib.hid (get_no (c := c) (d := d) (HE.out.below hk) (HI.out.below hk) hs W H m hl hel key hc)
      have HP := fun u (hk : Keeps w u) => Lib.hid (put_no (c := c) (d := d) (HE.out.below hk) (HI.out.below hk) hs W H m hl hel key value hc)
      have HD := fun u (hk : Keeps w u) => Lib.hid (drop_no (c := c) (d := d) (HE.out.below hk) (HI.out.below hk) hs W H m hl hel key hc)
      obtain ⟨r, hr⟩ : ∃ r, frmC es W H m px = r := ⟨_, rfl⟩
      rw [hr] at HG HP HD HC hc
      have hne : (r != 0) = true := by simpa using hc
      clear hr f1 f2 f3 hs hb
      have HG1 := HG _ hkw
      go_wp2_with fail
      refine HG1.out.mono ?_
      rintro e w3 ⟨rfl, hk3⟩
      replace g3 := g3.below hk3
      replace g4 := g4.below hk3
      replace hkw := hkw.trans' hk3
      clear x0 x1 x2 x3 x4 k0
      have x0 := g3.cell 0
      have x1 := g3.cell 1
      have x2 := g3.cell 2
      have x3 := g3.cell 3
      have x4 := g3.cell 4
      have k0 := g4.cell 0
      simp only [List.getElem?_cons_zero, List.getElem?_cons_succ] at x0 x1 x2 x3 x4 k0
      have HP1 := HP _ hkw
      go_wp2_with fail
      refine HP1.out.mono ?_
      rintro e w4 ⟨rfl, hk4⟩
      have g9 : Own (w4.alloc (.cells #[.slice none 0 0, .int .i64 0, .int .i64 0, .int .i64 0, .slice none 0 0] 27)) w4.heap.size 27 [.slice none 0 0, .int .i64 0, .int .i64 0, .int .i64 0, .slice none 0 0] := Own.new w4 _ _
      have hk5 : Keeps w4 (w4.alloc (.cells #[.slice none 0 0, .int .i64 0, .int .i64 0, .int .i64 0, .slice none 0 0] 27)) := (Below.refl _ _).alloc (Nat.le_refl _) _
      replace g3 := g3.below hk4
      replace g4 := g4.below hk4
      replace hkw := hkw.trans' hk4
      replace g3 := g3.below hk5
      replace g4 := g4.below hk5
      replace hkw := hkw.trans' hk5
      clear x0 x1 x2 x3 x4 k0
      have x0 := g3.cell 0
      have x1 := g3.cell 1
      have x2 := g3.cell 2
      have x3 := g3.cell 3
      have x4 := g3.cell 4
      have k0 := g4.cell 0
      simp only [List.getElem?_cons_zero, List.getElem?_cons_succ] at x0 x1 x2 x3 x4 k0
      have HD1 := HD _ hkw
      go_wp2_with fail
      refine HD1.out.mono ?_
      rintro e w6 ⟨rfl, hk6⟩
      replace g9 := g9.below hk6
      have g11 : Own (w6.alloc (.cells #[.slice none 0 0, .int .i64 0, .int .i64 0, .int .i64 0, .slice none 0 0] 27)) w6.heap.size 27 [.slice none 0 0, .int .i64 0, .int .i64 0, .int .i64 0, .slice none 0 0] := Own.new w6 _ _
      have hk7 : Keeps w6 (w6.alloc (.cells #[.slice none 0 0, .int .i64 0, .int .i64 0, .int .i64 0, .slice none 0 0] 27)) := (Below.refl _ _).alloc (Nat.le_refl _) _
      replace g9 := g9.below hk7
      replace g3 := g3.below hk6
      replace g4 := g4.below hk6
      replace hkw := hkw.trans' hk6
      replace g3 := g3.below hk7
      replace g4 := g4.below hk7
      replace hkw := hkw.trans' hk7
      clear x0 x1 x2 x3 x4 k0
      have x0 := g3.cell 0
      have x1 := g3.cell 1
      have x2 := g3.cell 2
      have x3 := g3.cell 3
      have x4 := g3.cell 4
      have k0 := g4.cell 0
      simp only [List.getElem?_cons_zero, List.getElem?_cons_succ] at x0 x1 x2 x3 x4 k0
      have HC1 := HC _ hkw
      go_wp2_with fail
      refine HC1.out.mono ?_
      rintro e w8 ⟨rfl, hk8⟩
      replace g9 := g9.below hk8
      replace g11 := g11.below hk8
      replace hkw := hkw.trans' hk8
      clear x0 x1 x2 x3 x4 k0
      have y0 := g9.cell 0
      have y1 := g9.cell 1
      have y2 := g9.cell 2
      have y3 := g9.cell 3
      have y4 := g9.cell 4
      simp only [List.getElem?_cons_zero, List.getElem?_cons_succ] at y0 y1 y2 y3 y4
      go_wp2_with fail
      refine (HZ _).out.mono ?_
      rintro e w9 ⟨rfl, hk9⟩
      replace g11 := g11.below hk9
      have z0 := g11.cell 0
      have z1 := g11.cell 1
      have z2 := g11.cell 2
      have z3 := g11.cell 3
      have z4 := g11.cell 4
      simp only [List.getElem?_cons_zero, List.getElem?_cons_succ] at z0 z1 z2 z3 z4
      go_wp2_with fail
      refine (HZ _).out.mono ?_
      rintro e w10 ⟨rfl, hk10⟩
      go_wp2
      go_ret
      exact ⟨rfl, (hkw.trans' hk9).trans' hk10⟩
end Go.Proofs.Ytbkcnhbdjllojaa
