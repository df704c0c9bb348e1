/- FrameSizes: the walk. -/
import Derived.Test.YtbkcnhbdjllojaaSizP
import Derived.Test.YtbkcnhbdjllojaaLEq
namespace Go.Proofs.Ytbkcnhbdjllojaa
open Go.RowKit Go.Shelf
attribute [local go_sem] Oper.semAt_some

theorem row_drop1 {w : World} {b : Nat} {l : List Int} (h : IRow w (some ⟨b, 0, none⟩) l) : IRow w (some ⟨b, 1, none⟩) (l.drop 1) := by
  by_cases hl : 1 ≤ l.length
  · have := Row.sub h hl (m := l.length - 1) (by omega)
    rw [List.take_of_length_le (by simp)] at this
    simpa using this
  · intro hp
    simp at hp
    omega
theorem row_dropC {w : World} {b c : Nat} {l : List Int} (h : IRow w (some ⟨b, 0, none⟩) l) (hc : l.length ≤ c) : IRow w (if c = 1 then some ⟨b, 0, none⟩ else some ⟨b, 1, none⟩) (l.drop 1) := by
  split
  · intro hp
    simp at hp
    omega
  · exact row_drop1 h
/-- slices.Clone of a row of ints -/
theorem cloneI_any {w : World} {A : Option Addr} {px : List Int} {c : Nat} (hA : IRow w A px) (h1 : 1 ≤ px.length) (hl : px.length ≤ 4096) :
    Calls Try.prog 31 #[.slice A px.length c] w fun e w' => ∃ V, e = .returned V ∧ IOwn w' w.heap.size V px ∧ Keeps w w' := by
  obtain ⟨b1, o1, rfl, -, c1⟩ := hA (by omega)
  refine (Try.slices_Clone_int b1 o1 px.length c px w (Nat.le_refl _) (by omega) c1).mono ?_
  rintro e w' ⟨v', rfl, h, -, hk⟩
  rw [List.take_length] at h
  exact ⟨v', rfl, h, hk⟩
set_option maxRecDepth 100000 in
set_option maxHeartbeats 2000000 in
theorem frameSizes_any {w : World} {A B : Option Addr} {c d : Nat} {es : List Ent} {px : List Int} (hE : EntR w A es) (hI : IRow w B px) (hl : px.length ≤ maxLen) (hel : es.length ≤ maxLen) (W H m a : Int) (ha : 0 ≤ a ∧ a ≤ 65535) :
    Calls Try.prog 9 #[frmV A es.length c W H m B px.length d, .int .u16 a] w fun e w' => e = .returned (.bool true) ∧ Keeps w w' := by
  obtain ⟨W1, hW1⟩ : ∃ W1, w.alloc (.cells #[.slice A es.length c, .int .i64 W, .int .i64 H, .int .i64 m, .slice B px.length d] 27) = W1 := ⟨_, rfl⟩
  have g : Own W1 w.heap.size 27 [.slice A es.length c, .int .i64 W, .int .i64 H, .int .i64 m, .slice B px.length d] := hW1 ▸ Own.new w _ _
  have hkw : Keeps w W1 := hW1 ▸ (Below.refl _ _).alloc (Nat.le_refl _) _
  have HK := Lib.hid (known_any W1)
  have HE := Lib.hid hE
  have HI := Lib.hid hI
  clear hE hI
  go_enter Try.func9, Try.ntmps9
  go_wp2_with fail
  refine HK.out.mono ?_
  rintro e w1 ⟨rfl, hk1⟩
  replace g := g.below hk1
  replace hkw := hkw.trans' hk1
  have HF := Lib.hid (small_any (c := c) (B := B) (d := d) (px := px) (HE.out.below hkw) hl hel W H m)
  have x0 := g.cell 0
  have x1 := g.cell 1
  have x2 := g.cell 2
  have x3 := g.cell 3
  have x4 := g.cell 4
  simp only [List.getElem?_cons_zero, List.getElem?_cons_succ] at x0 x1 x2 x3 x4
  clear hW1
  go_wp2_with fail
  refine HF.out.mono ?_
  rintro e w2 ⟨b, rfl, hb, hk2⟩
  replace g := g.below hk2
  replace hkw := hkw.trans' hk2
  have x0 := g.cell 0
  have x1 := g.cell 1
  have x2 := g.cell 2
  have x3 := g.cell 3
  have x4 := g.cell 4
  simp only [List.getElem?_cons_zero, List.getElem?_cons_succ] at x0 x1 x2 x3 x4
  cases b with
  | false =>
    go_wp2
    go_ret
    exact ⟨rfl, hkw⟩
  | true =>
    obtain ⟨⟨h1, h2, h3⟩, hm8⟩ := hb rfl
    have hs : EntS es := fun e he => by have := h3 e he; omega
    have HC := Lib.hid (dfcheck_any (c := c) (d := d) (HE.out.below hkw) (HI.out.below hkw) hs W H m hl hel)
    by_cases hc : frmC es W H m px = 0
    · obtain ⟨W, H, m, rfl, rfl, rfl⟩ := frmC_nat hc
      obtain ⟨hras, hel2, hpl, hsh, -⟩ := frm_facts hc
      obtain ⟨hW, hH, hm, hL, -, hg⟩ := rasC_0 hras
      have HEN := fun u (hk : Keeps w u) => Lib.hid (encode_yes (c := c) (d := d) (HE.out.below hk) (HI.out.below hk) hs W H m hc)
      have HLEN : Hid ((fileB es W H m px).length ≤ 20 + (es.flatMap entB).length + H * (1 + (17 * W + 7) / 8)) := Lib.hid (file_16 hc)
      have HSHT : Hid ((fileB es W H m px).length ≤ 100000) := Lib.hid (file_short hc h1 hm8)
      have HFLM : Hid ((es.flatMap entB).length ≤ es.length * 146) := Lib.hid (flatMap_len es hsh)
      have HRES := fun u (hk : Keeps w u) => Lib.hid (fResiduals_yes (c := d) (HI.out.below hk) W H m hras)
      have HLn : px.length = H * W := by
        have : ((H * W : Nat) : Int) = (px.length : Int) := by rw [hL]; push_cast; rw [Int.mul_comm]
        omega
      have HP1 : Hid (1 ≤ px.length) := Lib.hid (by rw [HLn]; exact Nat.mul_pos (by omega) (by omega))
      have HSH := Lib.hid hsh
      have HG := Lib.hid hg
      have HRAS := Lib.hid hras
      have HLN := Lib.hid HLn
      rw [hc] at HC
      generalize fileB es W H m px = fl at *
      clear hc hras hL hg HLn hs hb h3 hsh
      go_wp2_with fail
      refine HC.out.mono ?_
      rintro e w3 ⟨rfl, hk3⟩
      replace g := g.below hk3
      replace hkw := hkw.trans' hk3
      have x0 := g.cell 0
      have x1 := g.cell 1
      have x2 := g.cell 2
      have x3 := g.cell 3
      have x4 := g.cell 4
      simp only [List.getElem?_cons_zero, List.getElem?_cons_succ] at x0 x1 x2 x3 x4
      have HEN3 := HEN _ hkw
      go_wp2_with fail
      refine HEN3.out.mono ?_
      rintro e w4 ⟨V, rfl, hV, hk4⟩
      obtain ⟨A4, c4, rfl, -⟩ := hV.sl
      replace g := g.below hk4
      replace hkw := hkw.trans' hk4
      have x0 := g.cell 0
      have x1 := g.cell 1
      have x2 := g.cell 2
      have x3 := g.cell 3
      have x4 := g.cell 4
      simp only [List.getElem?_cons_zero, List.getElem?_cons_succ] at x0 x1 x2 x3 x4
      clear hV
      have helI : (es.length : Int) ≤ 32 := by omega
      have HG4 := Lib.hid g
      go_wp2
      go_loopw [34, 7] (fun i s wr => ∃ j : Nat, j ≤ es.length ∧ i = .int .i64 (j : Nat) ∧ s = .int .i64 ((20 + ((es.take j).flatMap entB).length : Nat) : Int) ∧ Keeps w4 wr) (fun i _ _ => es.length - (intOf i).toNat)
      case atStart => exact ⟨0, Nat.zero_le _, rfl, rfl, Below.refl _ _⟩
      case round =>
        obtain ⟨j, hj, rfl, rfl, hk⟩ := hrel
        by_cases hlt : j < es.length
        · obtain ⟨⟨k, v⟩, hkv⟩ : ∃ e, es[j]? = some e := ⟨_, List.getElem?_eq_getElem hlt⟩
          have hjI : (j : Int) < es.length := by omega
          obtain ⟨B1, o1, rfl, hB1, c1, c2⟩ := (HE.out.below (hkw.trans' hk)) j k v hkv
          have hsz := HSH.out _ (List.mem_of_getElem? hkv)
          have HEN : Hid (((es.take (j + 1)).flatMap entB).length = ((es.take j).flatMap entB).length + (k.size + v.size + 2)) := Lib.hid (by rw [flatMap_take_succ hkv, List.length_append, entB_length])
          have hfl := flatMap_len (es.take j) fun e he => HSH.out e (List.mem_of_mem_take he)
          have hfl2 : ((es.take j).flatMap entB).length ≤ 4672 := by
            have : (es.take j).length ≤ 32 := by rw [List.length_take]; omega
            have := Nat.mul_le_mul_right 146 this
            omega
          clear hkv hfl
          generalize ((es.take j).flatMap entB).length = n at *
          have hks : (k.size : Int) ≤ 24 := by have h : k.size ≤ 24 := hsz.1; omega
          have hvs : (v.size : Int) ≤ 120 := by have h : v.size ≤ 120 := hsz.2; omega
          have hnI : (n : Int) ≤ 4672 := by omega
          obtain ⟨W4, hW4⟩ : ∃ W4, wr.alloc (.cells #[.string k, .string v] 57) = W4 := ⟨_, rfl⟩
          have hb7 : Own W4 wr.heap.size 57 [.string k, .string v] := hW4 ▸ Own.new wr _ _
          have hk4 : Keeps wr W4 := hW4 ▸ (Below.refl _ _).alloc (Nat.le_refl _) _
          have n0 := hb7.cell 0
          have n1 := hb7.cell 1
          simp only [List.getElem?_cons_zero, List.getElem?_cons_succ] at n0 n1
          have e20 : ((20 + n : Nat) : Int) = 20 + (n : Int) := by push_cast; rfl
          rw [e20]
          go_wp2
          go_roundw
          case rel => exact ⟨j + 1, by omega, by go_num, by rw [HEN.out]; go_num, hk.trans' hk4⟩
          case measure => simp [intOf]; omega
        · obtain rfl : j = es.length := by omega
          have hN := HLEN.out
          have hN2 := HSHT.out
          have hN3 := HFLM.out
          rw [List.take_length]
          generalize (es.flatMap entB).length = n at *
          have hnb : n ≤ 4672 := by
            have := Nat.mul_le_mul_right 146 hel2
            omega
          obtain ⟨u, hu⟩ : ∃ u, 1 + (17 * W + 7) / 8 = u := ⟨_, rfl⟩
          have hu1 : (1 : Int) + (17 * (W : Int) + 7).tdiv 8 = (u : Int) := by rw [Int.tdiv_eq_ediv_of_nonneg (by omega)]; omega
          have hu2 : u ≤ 150 := by omega
          obtain ⟨q, hq⟩ : ∃ q, H * u = q := ⟨_, rfl⟩
          have hqI : (H : Int) * (u : Int) = (q : Int) := by rw [← hq]; push_cast; rfl
          have hqb : q ≤ 64 * 150 := by rw [← hq]; exact Nat.mul_le_mul (by omega) hu2
          rw [hu, hq] at hN
          have hno : ¬ ((20 + (n : Int)) + (q : Int) < (fl.length : Int)) := by omega
          have hno2 : decide ((20 + (n : Int)) + (q : Int) < (fl.length : Int)) = false := decide_eq_false hno
          have g5 := HG4.out.below hk
          replace hkw := hkw.trans' hk
          have x0 := g5.cell 0
          have x1 := g5.cell 1
          have x2 := g5.cell 2
          have x3 := g5.cell 3
          have x4 := g5.cell 4
          simp only [List.getElem?_cons_zero, List.getElem?_cons_succ] at x0 x1 x2 x3 x4
          have e20 : ((20 + n : Nat) : Int) = 20 + (n : Int) := by push_cast; rfl
          rw [e20]
          clear hu hq
          by_cases hline : 1 < H ∧ 1 < W
          · have d1 : (1 : Int) < H := by omega
            have d2 : (1 : Int) < W := by omega
            have d1' : decide ((1 : Int) < H) = true := decide_eq_true d1
            have d2' : decide ((1 : Int) < W) = true := decide_eq_true d2
            go_wp2
            go_ret
            exact ⟨rfl, hkw⟩
          · have HSHF : Hid ((resI (shI m a px) W m).drop 1 = (resI px W m).drop 1) := Lib.hid (res_shift (by omega) (by
              have := HLN.out
              rcases Nat.lt_or_ge 1 W with h | h
              · have hH1 : H = 1 := by omega
                subst hH1
                exact .inr (by omega)
              · exact .inl (by omega)))
            have HRS : Hid (rasC W H m (shI m a px) = 0) := Lib.hid (shI_ras HRAS.out)
            have hdd : ∀ u v, decide ((1 : Int) < H) = u → decide ((1 : Int) < W) = v → (u = true → v = false) := fun u v h1 h2 h3 => by
              subst h1 h2
              have := of_decide_eq_true h3
              exact decide_eq_false (by omega)
            obtain ⟨W6, hW6⟩ : ∃ W6, wr.alloc (.cells #[.int .i64 (W : Nat), .int .i64 (H : Nat), .int .i64 (m : Nat), .slice B px.length d] 25) = W6 := ⟨_, rfl⟩
            have g6 : Own W6 wr.heap.size 25 [.int .i64 (W : Nat), .int .i64 (H : Nat), .int .i64 (m : Nat), .slice B px.length d] := hW6 ▸ Own.new wr _ _
            have hk6 : Keeps wr W6 := hW6 ▸ (Below.refl _ _).alloc (Nat.le_refl _) _
            have HS6 : Hid (W6.heap.size = wr.heap.size + 1) := Lib.hid (by rw [← hW6]; simp)
            have HCL := Lib.hid (cloneI_any (c := d) ((HI.out.below hkw).below hk6) HP1.out hpl)
            have HG6 := Lib.hid g6
            have z0 := g6.cell 0
            have z1 := g6.cell 1
            have z2 := g6.cell 2
            have z3 := g6.cell 3
            simp only [List.getElem?_cons_zero, List.getElem?_cons_succ] at z0 z1 z2 z3
            generalize hu : decide ((1 : Int) < H) = bu at *
            generalize hv : decide ((1 : Int) < W) = bv at *
            have HDD := Lib.hid (hdd bu bv rfl rfl)
            clear hdd hline
            cases bu with
            | true =>
              obtain rfl := HDD.out rfl
              obtain ⟨wq, rfl⟩ : ∃ wq, wq = wr := ⟨_, rfl⟩
              go_wp2_with fail
              refine HCL.out.mono ?_
              rintro e w7 ⟨V7, rfl, hV7, hk7⟩
              obtain ⟨g7, c7, rfl, hg7, -, hc7, -, -, -, -⟩ := hV7.open1 (by have := HP1.out; omega)
              have g8 := HG6.out.below hk7
              have f3 := g8.frozen 3
              have r3 := g8.cell 3
              simp only [List.getElem?_cons_zero, List.getElem?_cons_succ] at r3
              have hb10 : Own (w7.setCell ⟨wq.heap.size, 3, none⟩ (.slice (some ⟨g7, 0, none⟩) px.length c7)) wq.heap.size 25 [.int .i64 (W : Nat), .int .i64 (H : Nat), .int .i64 (m : Nat), .slice (some ⟨g7, 0, none⟩) px.length c7] := g8.set 3 (.slice (some ⟨g7, 0, none⟩) px.length c7)
              have hrow := hV7.far (p := ⟨wq.heap.size, 3, none⟩) (by have := HS6.out; show wq.heap.size < W6.heap.size; omega) (.slice (some ⟨g7, 0, none⟩) px.length c7)
              have hkX : Keeps wq (w7.setCell ⟨wq.heap.size, 3, none⟩ (.slice (some ⟨g7, 0, none⟩) px.length c7)) := (hk6.trans' hk7).setCell (p := ⟨wq.heap.size, 3, none⟩) (Nat.le_refl _) _
              have y3 := hb10.cell 3
              simp only [List.getElem?_cons_zero, List.getElem?_cons_succ] at y3
              have hpI : (px.length : Int) ≤ 4096 := by omega
              have HC7 := Lib.hid hc7
              have HG7 : Hid (wq.heap.size < g7) := Lib.hid (by have := HS6.out; omega)
              clear hc7 hg7
              go_wp2
              clear hW6 f3 y3 hV7 g8 r3
              generalize w7.setCell ⟨wq.heap.size, 3, none⟩ (.slice (some ⟨g7, 0, none⟩) px.length c7) = X at *
              go_loopw [88] (fun i u => ∃ k : Nat, k ≤ px.length ∧ i = .int .i64 (k : Nat) ∧ Own u wq.heap.size 25 [.int .i64 (W : Nat), .int .i64 (H : Nat), .int .i64 (m : Nat), .slice (some ⟨g7, 0, none⟩) px.length c7] ∧ Hid (u.ownsRow W6.heap.size 3 1 (.slice (some ⟨g7, 0, none⟩) px.length c7) px.length (i64s (midS m a px k))) ∧ Keeps wq u) (fun i _ => px.length - (intOf i).toNat)
              case atStart => exact ⟨0, Nat.zero_le _, rfl, hb10, Lib.hid (by rw [midS_zero]; exact hrow), hkX⟩
              case round =>
                clear hb10 hrow hkX
                obtain ⟨k, hkd, rfl, hbx, HROW, hkq⟩ := hrel
                have q2 := hbx.cell 2
                have q3 := hbx.cell 3
                simp only [List.getElem?_cons_zero, List.getElem?_cons_succ] at q2 q3
                by_cases hlt : k < px.length
                · have hkI : (k : Int) < px.length := by omega
                  obtain ⟨g', c', e, -, -, -, -, hcell, hfro, hset⟩ := HROW.out.open1 (by omega)
                  cases e
                  have rx := hcell k _ (i64s_get (midS_get m a px hlt))
                  have hx := HG.out.get (by omega) k
                  have hst : (i64s (midS m a px k)).set k (.int .i64 ((px.getD k 0 + a) % ((m : Int) + 1))) = i64s (midS m a px (k + 1)) := by rw [i64s_set, midS_set m a px hlt]
                  generalize px.getD k 0 = x at *
                  obtain ⟨r, hr⟩ : ∃ r, (x + a) % ((m : Int) + 1) = r := ⟨_, rfl⟩
                  have em : (x + a).tmod ((m : Int) + 1) = r := by rw [Int.tmod_eq_emod_of_nonneg (by omega), hr]
                  rw [hr] at hst
                  have HST := Lib.hid hst
                  have hw1 : IntKind.i64.wrap (x + a) = x + a := IntWalk.i64_in _ (by omega)
                  have hw2 : IntKind.i64.wrap a = a := IntWalk.i64_in _ (by omega)
                  have hw3 : IntKind.i64.wrap ((m : Int) + 1) = (m : Int) + 1 := IntWalk.i64_in _ (by omega)
                  have hmz : ¬ ((m : Int) + 1 = 0) := by omega
                  have fx := hfro k
                  clear hcell hr hst
                  go_wp2
                  go_still_tail 15, rfl
                  change wpList _ _ _ _ _ wr.drew
                  have hbx2 : Own wr.drew wq.heap.size 25 [.int .i64 (W : Nat), .int .i64 (H : Nat), .int .i64 (m : Nat), .slice (some ⟨g7, 0, none⟩) px.length c7] := hbx.drew
                  have hk2 : Keeps wq wr.drew := Below.drew hkq
                  have hset2 : ∀ (j : Nat) (u : Value), j < px.length → (wr.drew.setCell ⟨g7, j, none⟩ u).ownsRow W6.heap.size 3 1 (.slice (some ⟨g7, 0, none⟩) px.length c7) px.length ((i64s (midS m a px k)).set j u) := by
                    obtain ⟨g', c', e, -, -, -, -, -, -, hset'⟩ := (show wr.drew.ownsRow W6.heap.size 3 1 (.slice (some ⟨g7, 0, none⟩) px.length c7) px.length (i64s (midS m a px k)) from HROW.out).open1 (by omega)
                    cases e
                    exact hset'
                  have rx2 : wr.drew.cell? ⟨g7, k, none⟩ = some (.int .i64 x) := rx
                  have fx2 : wr.drew.frozen? ⟨g7, k, none⟩ = false := fx
                  have HST3 := Lib.hid (hset2 k (.int .i64 r) hlt)
                  clear hset hset2 hbx hkq q2 q3 rx fx hfro em hw1 hw2 hw3
                  generalize wr.drew = w8 at *
                  go_wp2
                  have hb9 := hbx2.far (p := ⟨g7, k, none⟩) (by have := HG7.out; show wq.heap.size ≠ g7; omega) (.int .i64 r)
                  have hk9 := hk2.setCell (p := ⟨g7, k, none⟩) (by have := HG7.out; show wq.heap.size ≤ g7; omega) (.int .i64 r)
                  have HS9 := HST3.out
                  rw [HST.out] at HS9
                  go_roundw
                  case rel => exact ⟨k + 1, by omega, by go_num, hb9, Lib.hid HS9, hk9⟩
                  case measure => simp [intOf]; omega
                · obtain rfl : k = px.length := by omega
                  have hrowS : IRow wr (some ⟨g7, 0, none⟩) (shI m a px) := IRow.of_own (by have := HROW.out; rw [midS_all] at this; exact this) (shI_length _ _ _).symm
                  have hkz := hkw.trans' hkq
                  have gz := g5.below hkq
                  have HR1 := HRES _ hkz
                  have HR2 := fun u (hk : Keeps wr u) => Lib.hid (fResiduals_yes (c := c7) (hrowS.below hk) W H m HRS.out)
                  rw [shI_length] at HR2
                  have HLR1 : Hid ((resI px W m).length = px.length) := Lib.hid (resI_length _ _ _)
                  have HLR2 : Hid ((resI (shI m a px) W m).length = px.length) := Lib.hid (by rw [resI_length, shI_length])
                  generalize resI px W m = l1 at *
                  generalize resI (shI m a px) W m = l2 at *
                  have x0 := gz.cell 0
                  have x1 := gz.cell 1
                  have x2 := gz.cell 2
                  have x3 := gz.cell 3
                  have x4 := gz.cell 4
                  simp only [List.getElem?_cons_zero, List.getElem?_cons_succ] at x0 x1 x2 x3 x4
                  clear HROW hrowS q2 q3
                  go_wp2_with fail
                  refine HR1.out.mono ?_
                  rintro e v1 ⟨V12, rfl, hV12, hkv1⟩
                  have hV12' := hV12
                  unfold IOwn at hV12'
                  rw [HLR1.out] at hV12'
                  obtain ⟨ga, ca, rfl, -, -, hca, -, -, -, -⟩ := hV12'.open1 (by have := HP1.out; omega)
                  have hI12 : IRow v1 (some ⟨ga, 0, none⟩) l1 := IRow.of_own hV12' HLR1.out.symm
                  have hbv := hbx.below hkv1
                  have z0 := hbv.cell 0
                  have z1 := hbv.cell 1
                  have z2 := hbv.cell 2
                  have z3 := hbv.cell 3
                  simp only [List.getElem?_cons_zero, List.getElem?_cons_succ] at z0 z1 z2 z3
                  have HR2' := HR2 _ hkv1
                  have HI12 := Lib.hid hI12
                  clear hV12 hV12' hI12
                  go_wp2_with fail
                  refine HR2'.out.mono ?_
                  rintro e v2 ⟨V14, rfl, hV14, hkv2⟩
                  have hV14' := hV14
                  unfold IOwn at hV14'
                  rw [HLR2.out] at hV14'
                  obtain ⟨gc, cc, rfl, -, -, hcc, -, -, -, -⟩ := hV14'.open1 (by have := HP1.out; omega)
                  have hI14 : IRow v2 (some ⟨gc, 0, none⟩) l2 := IRow.of_own hV14' HLR2.out.symm
                  have hkv : Keeps w v2.drew := Below.drew ((hkz.trans' hkv1).trans' hkv2)
                  have HEQ := Lib.hid (equalI_any (w := v2.drew) (c := ca - 1) (d := cc - 1) (n := px.length - 1) (m := px.length - 1) (xs := l1.drop 1) (ys := l2.drop 1)
                    (row_dropC (c := ca) (HI12.out.below (Below.drew hkv2)) (by rw [HLR1.out]; exact hca)) (row_dropC (c := cc) (hI14.below (Below.drew (Below.refl _ _))) (by rw [HLR2.out]; exact hcc)) (by simp [HLR1.out]) (by simp [HLR2.out]) (by simp [HLR1.out, maxLen]; omega) (by simp [HLR2.out, maxLen]; omega))
                  rw [HSHF.out, decide_eq_true rfl] at HEQ
                  obtain ⟨Xa, hXa⟩ : ∃ X : Option Addr, (if ca = 1 then some ⟨ga, 0, none⟩ else some ⟨ga, 1, none⟩) = X := ⟨_, rfl⟩
                  obtain ⟨Xc, hXc⟩ : ∃ X : Option Addr, (if cc = 1 then some ⟨gc, 0, none⟩ else some ⟨gc, 1, none⟩) = X := ⟨_, rfl⟩
                  rw [hXa, hXc] at HEQ
                  clear hV14 hV14' hI14
                  go_wp2
                  have hp1 := HP1.out
                  have hp1I : (1 : Int) ≤ px.length ∧ (px.length : Int) ≤ ca ∧ (px.length : Int) ≤ cc := by omega
                  go_region_held3 (fun _ => True) (trivial)
                    (first
                      | (go_at_call 25; refine HEQ.out.mono ?_; rintro e v3 ⟨rfl, hkv3⟩))
                  go_wp2
                  go_ret
                  exact ⟨rfl, hkv.trans' hkv3⟩
            | false =>
              obtain ⟨wq, rfl⟩ : ∃ wq, wq = wr := ⟨_, rfl⟩
              go_wp2_with fail
              refine HCL.out.mono ?_
              rintro e w7 ⟨V7, rfl, hV7, hk7⟩
              obtain ⟨g7, c7, rfl, hg7, -, hc7, -, -, -, -⟩ := hV7.open1 (by have := HP1.out; omega)
              have g8 := HG6.out.below hk7
              have f3 := g8.frozen 3
              have r3 := g8.cell 3
              simp only [List.getElem?_cons_zero, List.getElem?_cons_succ] at r3
              have hb10 : Own (w7.setCell ⟨wq.heap.size, 3, none⟩ (.slice (some ⟨g7, 0, none⟩) px.length c7)) wq.heap.size 25 [.int .i64 (W : Nat), .int .i64 (H : Nat), .int .i64 (m : Nat), .slice (some ⟨g7, 0, none⟩) px.length c7] := g8.set 3 (.slice (some ⟨g7, 0, none⟩) px.length c7)
              have hrow := hV7.far (p := ⟨wq.heap.size, 3, none⟩) (by have := HS6.out; show wq.heap.size < W6.heap.size; omega) (.slice (some ⟨g7, 0, none⟩) px.length c7)
              have hkX : Keeps wq (w7.setCell ⟨wq.heap.size, 3, none⟩ (.slice (some ⟨g7, 0, none⟩) px.length c7)) := (hk6.trans' hk7).setCell (p := ⟨wq.heap.size, 3, none⟩) (Nat.le_refl _) _
              have y3 := hb10.cell 3
              simp only [List.getElem?_cons_zero, List.getElem?_cons_succ] at y3
              have hpI : (px.length : Int) ≤ 4096 := by omega
              have HC7 := Lib.hid hc7
              have HG7 : Hid (wq.heap.size < g7) := Lib.hid (by have := HS6.out; omega)
              clear hc7 hg7
              go_wp2
              clear hW6 f3 y3 hV7 g8 r3
              generalize w7.setCell ⟨wq.heap.size, 3, none⟩ (.slice (some ⟨g7, 0, none⟩) px.length c7) = X at *
              go_loopw [88] (fun i u => ∃ k : Nat, k ≤ px.length ∧ i = .int .i64 (k : Nat) ∧ Own u wq.heap.size 25 [.int .i64 (W : Nat), .int .i64 (H : Nat), .int .i64 (m : Nat), .slice (some ⟨g7, 0, none⟩) px.length c7] ∧ Hid (u.ownsRow W6.heap.size 3 1 (.slice (some ⟨g7, 0, none⟩) px.length c7) px.length (i64s (midS m a px k))) ∧ Keeps wq u) (fun i _ => px.length - (intOf i).toNat)
              case atStart => exact ⟨0, Nat.zero_le _, rfl, hb10, Lib.hid (by rw [midS_zero]; exact hrow), hkX⟩
              case round =>
                clear hb10 hrow hkX
                obtain ⟨k, hkd, rfl, hbx, HROW, hkq⟩ := hrel
                have q2 := hbx.cell 2
                have q3 := hbx.cell 3
                simp only [List.getElem?_cons_zero, List.getElem?_cons_succ] at q2 q3
                by_cases hlt : k < px.length
                · have hkI : (k : Int) < px.length := by omega
                  obtain ⟨g', c', e, -, -, -, -, hcell, hfro, hset⟩ := HROW.out.open1 (by omega)
                  cases e
                  have rx := hcell k _ (i64s_get (midS_get m a px hlt))
                  have hx := HG.out.get (by omega) k
                  have hst : (i64s (midS m a px k)).set k (.int .i64 ((px.getD k 0 + a) % ((m : Int) + 1))) = i64s (midS m a px (k + 1)) := by rw [i64s_set, midS_set m a px hlt]
                  generalize px.getD k 0 = x at *
                  obtain ⟨r, hr⟩ : ∃ r, (x + a) % ((m : Int) + 1) = r := ⟨_, rfl⟩
                  have em : (x + a).tmod ((m : Int) + 1) = r := by rw [Int.tmod_eq_emod_of_nonneg (by omega), hr]
                  rw [hr] at hst
                  have HST := Lib.hid hst
                  have hw1 : IntKind.i64.wrap (x + a) = x + a := IntWalk.i64_in _ (by omega)
                  have hw2 : IntKind.i64.wrap a = a := IntWalk.i64_in _ (by omega)
                  have hw3 : IntKind.i64.wrap ((m : Int) + 1) = (m : Int) + 1 := IntWalk.i64_in _ (by omega)
                  have hmz : ¬ ((m : Int) + 1 = 0) := by omega
                  have fx := hfro k
                  clear hcell hr hst
                  go_wp2
                  go_still_tail 15, rfl
                  change wpList _ _ _ _ _ wr.drew
                  have hbx2 : Own wr.drew wq.heap.size 25 [.int .i64 (W : Nat), .int .i64 (H : Nat), .int .i64 (m : Nat), .slice (some ⟨g7, 0, none⟩) px.length c7] := hbx.drew
                  have hk2 : Keeps wq wr.drew := Below.drew hkq
                  have hset2 : ∀ (j : Nat) (u : Value), j < px.length → (wr.drew.setCell ⟨g7, j, none⟩ u).ownsRow W6.heap.size 3 1 (.slice (some ⟨g7, 0, none⟩) px.length c7) px.length ((i64s (midS m a px k)).set j u) := by
                    obtain ⟨g', c', e, -, -, -, -, -, -, hset'⟩ := (show wr.drew.ownsRow W6.heap.size 3 1 (.slice (some ⟨g7, 0, none⟩) px.length c7) px.length (i64s (midS m a px k)) from HROW.out).open1 (by omega)
                    cases e
                    exact hset'
                  have rx2 : wr.drew.cell? ⟨g7, k, none⟩ = some (.int .i64 x) := rx
                  have fx2 : wr.drew.frozen? ⟨g7, k, none⟩ = false := fx
                  have HST3 := Lib.hid (hset2 k (.int .i64 r) hlt)
                  clear hset hset2 hbx hkq q2 q3 rx fx hfro em hw1 hw2 hw3
                  generalize wr.drew = w8 at *
                  go_wp2
                  have hb9 := hbx2.far (p := ⟨g7, k, none⟩) (by have := HG7.out; show wq.heap.size ≠ g7; omega) (.int .i64 r)
                  have hk9 := hk2.setCell (p := ⟨g7, k, none⟩) (by have := HG7.out; show wq.heap.size ≤ g7; omega) (.int .i64 r)
                  have HS9 := HST3.out
                  rw [HST.out] at HS9
                  go_roundw
                  case rel => exact ⟨k + 1, by omega, by go_num, hb9, Lib.hid HS9, hk9⟩
                  case measure => simp [intOf]; omega
                · obtain rfl : k = px.length := by omega
                  have hrowS : IRow wr (some ⟨g7, 0, none⟩) (shI m a px) := IRow.of_own (by have := HROW.out; rw [midS_all] at this; exact this) (shI_length _ _ _).symm
                  have hkz := hkw.trans' hkq
                  have gz := g5.below hkq
                  have HR1 := HRES _ hkz
                  have HR2 := fun u (hk : Keeps wr u) => Lib.hid (fResiduals_yes (c := c7) (hrowS.below hk) W H m HRS.out)
                  rw [shI_length] at HR2
                  have HLR1 : Hid ((resI px W m).length = px.length) := Lib.hid (resI_length _ _ _)
                  have HLR2 : Hid ((resI (shI m a px) W m).length = px.length) := Lib.hid (by rw [resI_length, shI_length])
                  generalize resI px W m = l1 at *
                  generalize resI (shI m a px) W m = l2 at *
                  have x0 := gz.cell 0
                  have x1 := gz.cell 1
                  have x2 := gz.cell 2
                  have x3 := gz.cell 3
                  have x4 := gz.cell 4
                  simp only [List.getElem?_cons_zero, List.getElem?_cons_succ] at x0 x1 x2 x3 x4
                  clear HROW hrowS q2 q3
                  go_wp2_with fail
                  refine HR1.out.mono ?_
                  rintro e v1 ⟨V12, rfl, hV12, hkv1⟩
                  have hV12' := hV12
                  unfold IOwn at hV12'
                  rw [HLR1.out] at hV12'
                  obtain ⟨ga, ca, rfl, -, -, hca, -, -, -, -⟩ := hV12'.open1 (by have := HP1.out; omega)
                  have hI12 : IRow v1 (some ⟨ga, 0, none⟩) l1 := IRow.of_own hV12' HLR1.out.symm
                  have hbv := hbx.below hkv1
                  have z0 := hbv.cell 0
                  have z1 := hbv.cell 1
                  have z2 := hbv.cell 2
                  have z3 := hbv.cell 3
                  simp only [List.getElem?_cons_zero, List.getElem?_cons_succ] at z0 z1 z2 z3
                  have HR2' := HR2 _ hkv1
                  have HI12 := Lib.hid hI12
                  clear hV12 hV12' hI12
                  go_wp2_with fail
                  refine HR2'.out.mono ?_
                  rintro e v2 ⟨V14, rfl, hV14, hkv2⟩
                  have hV14' := hV14
                  unfold IOwn at hV14'
                  rw [HLR2.out] at hV14'
                  obtain ⟨gc, cc, rfl, -, -, hcc, -, -, -, -⟩ := hV14'.open1 (by have := HP1.out; omega)
                  have hI14 : IRow v2 (some ⟨gc, 0, none⟩) l2 := IRow.of_own hV14' HLR2.out.symm
                  have hkv : Keeps w v2.drew := Below.drew ((hkz.trans' hkv1).trans' hkv2)
                  have HEQ := Lib.hid (equalI_any (w := v2.drew) (c := ca - 1) (d := cc - 1) (n := px.length - 1) (m := px.length - 1) (xs := l1.drop 1) (ys := l2.drop 1)
                    (row_dropC (c := ca) (HI12.out.below (Below.drew hkv2)) (by rw [HLR1.out]; exact hca)) (row_dropC (c := cc) (hI14.below (Below.drew (Below.refl _ _))) (by rw [HLR2.out]; exact hcc)) (by simp [HLR1.out]) (by simp [HLR2.out]) (by simp [HLR1.out, maxLen]; omega) (by simp [HLR2.out, maxLen]; omega))
                  rw [HSHF.out, decide_eq_true rfl] at HEQ
                  obtain ⟨Xa, hXa⟩ : ∃ X : Option Addr, (if ca = 1 then some ⟨ga, 0, none⟩ else some ⟨ga, 1, none⟩) = X := ⟨_, rfl⟩
                  obtain ⟨Xc, hXc⟩ : ∃ X : Option Addr, (if cc = 1 then some ⟨gc, 0, none⟩ else some ⟨gc, 1, none⟩) = X := ⟨_, rfl⟩
                  rw [hXa, hXc] at HEQ
                  clear hV14 hV14' hI14
                  go_wp2
                  have hp1 := HP1.out
                  have hp1I : (1 : Int) ≤ px.length ∧ (px.length : Int) ≤ ca ∧ (px.length : Int) ≤ cc := by omega
                  go_region_held3 (fun _ => True) (trivial)
                    (first
                      | (go_at_call 25; refine HEQ.out.mono ?_; rintro e v3 ⟨rfl, hkv3⟩))
                  go_wp2
                  go_ret
                  exact ⟨rfl, hkv.trans' hkv3⟩
    · obtain ⟨r, hr⟩ : ∃ r, frmC es W H m px = r := ⟨_, rfl⟩
      rw [hr] at HC hc
      have hne : (r != 0) = true := by simpa using hc
      clear hr h1 h2 h3 hs hb
      go_wp2_with fail
      refine HC.out.mono ?_
      rintro e w3 ⟨rfl, hk3⟩
      go_wp2
      go_ret
      exact ⟨rfl, hkw.trans' hk3⟩
end Go.Proofs.Ytbkcnhbdjllojaa
