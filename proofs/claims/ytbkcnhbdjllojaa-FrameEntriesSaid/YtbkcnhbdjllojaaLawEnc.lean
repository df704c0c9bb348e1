/- FrameEncodes, FrameReturns, FrameDecodes: the walks. -/
import Derived.Test.YtbkcnhbdjllojaaKno
import Derived.Test.YtbkcnhbdjllojaaLFile
namespace Go.Proofs.Ytbkcnhbdjllojaa
open Go.RowKit Go.Shelf
attribute [local go_sem] Oper.semAt_some

theorem equalB_yes {w : World} {A B : Option Addr} {xs : List Nat} {n m c d : Nat} (hA : BRow w A xs) (hB : BRow w B xs) (hn : n = xs.length) (hm : m = xs.length) :
    Calls Try.prog 18 #[.slice A n c, .slice B m d] w fun e w' => e = .returned (.bool true) ∧ w' = w := by
  subst hn hm
  refine (Try.bytes_Equal_all A B xs.length c xs.length d (ints xs) (ints xs) w (ints_length xs) (ints_length xs) (bytesIn hA) (bytesIn hB)).mono ?_
  rintro e w' ⟨rfl, rfl⟩
  exact ⟨by simp, rfl⟩
theorem frmC_nat {W H m : Int} {es : List Ent} {px : List Int} (h : frmC es W H m px = 0) : ∃ a b c : Nat, W = a ∧ H = b ∧ m = c := by
  have hras : rasC W H m px = 0 := Classical.byContradiction fun h' => by rw [frmC, if_pos h'] at h; exact h' h
  obtain ⟨hW, hH, hm, -⟩ := rasC_0 hras
  exact ⟨W.toNat, H.toNat, m.toNat, by omega, by omega, by omega⟩
theorem frm_facts {W H m : Int} {es : List Ent} {px : List Int} (hc : frmC es W H m px = 0) : rasC W H m px = 0 ∧ es.length ≤ 32 ∧ px.length ≤ 4096 ∧ (∀ e ∈ es, e.1.size ≤ 24 ∧ e.2.size ≤ 120) ∧ EntS es := by
  have hras : rasC W H m px = 0 := Classical.byContradiction fun h => by rw [frmC, if_pos h] at hc; exact h hc
  have hcnt : es.length ≤ 32 := Nat.le_of_not_lt fun h => by rw [frmC, if_neg (by simp [hras]), if_pos h] at hc; cases hc
  have hent : entC none es = 0 := by rw [frmC, if_neg (by simp [hras]), if_neg (by omega)] at hc; exact hc
  obtain ⟨-, -, -, -, hlen, -⟩ := rasC_0 hras
  have hsh := entC_short es none hent
  exact ⟨hras, hcnt, hlen, hsh, fun e he => by have := hsh e he; omega⟩
theorem codesB_length_le' (k M : Nat) : ∀ (l : List Nat), (∀ v ∈ l, v ≤ M) → k ≤ 16 → (codesB k l).length ≤ l.length * (M + 17)
  | [], _, _ => by simp [codesB]
  | v :: l, h, hk => by
    have ih := codesB_length_le' k M l (fun x hx => h x (List.mem_cons_of_mem _ hx)) hk
    have h1 := h v List.mem_cons_self
    have h2 : v / 2 ^ k ≤ v := Nat.div_le_self _ _
    have e : codesB k (v :: l) = codeB k v ++ codesB k l := by simp [codesB]
    rw [e, List.length_append, codeB_length, List.length_cons, Nat.succ_mul]
    omega
theorem rowN_short {l : List Int} (h : Grey 2048 l) : (rowN l).length ≤ 2 + l.length * 259 := by
  have h1 := codesB_length_le' (bestI l) 2048 (l.map Int.toNat) (fun v hv => by
    obtain ⟨x, hx, rfl⟩ := List.mem_map.1 hv
    have := h x hx
    omega) (bestU_le l 17)
  rw [List.length_map] at h1
  rw [rowN, List.length_cons, pack_length]
  omega
theorem rowsB_short {l : List Int} {W : Nat} (h : Grey 2048 l) : ∀ H, (rowsB l W H).length ≤ H * (2 + W * 259)
  | 0 => by simp [rowsB]
  | H + 1 => by
    have ih := rowsB_short (W := W) h H
    have h1 := rowN_short (rowOf_grey h W H)
    have h2 : (rowOf l W H).length ≤ W := by rw [rowOf, List.length_take]; omega
    rw [rowsB_succ, List.length_append, Nat.succ_mul]
    omega
theorem file_short {W H m : Nat} {es : List Ent} {px : List Int} (hc : frmC es W H m px = 0) (hp : px.length ≤ 200) (hm : (m : Int) ≤ 2048) : (fileB es W H m px).length ≤ 100000 := by
  obtain ⟨hras, hcnt, -, hsh, -⟩ := frm_facts hc
  obtain ⟨hW, hH, hm1, hL, -, hg⟩ := rasC_0 hras
  have hLn : px.length = H * W := by
    have : ((H * W : Nat) : Int) = (px.length : Int) := by rw [hL]; push_cast; rw [Int.mul_comm]
    omega
  have h1 := flatMap_len es hsh
  have h2 := rowsB_short (l := resI px W m) (W := W) (fun x hx => by have := resI_grey (px := px) (m := (m : Int)) (by omega) W x hx; omega) H
  have h3 : H * (2 + W * 259) = H * 2 + (H * W) * 259 := by rw [Nat.mul_add, Nat.mul_assoc]
  have h4 : (headB es).length = 7 + (es.flatMap entB).length + 1 := by rw [headB, List.length_append, List.length_append]; rfl
  have h5 : (sizesB W H m).length = 12 := rfl
  have h6 : es.length * 146 ≤ 32 * 146 := Nat.mul_le_mul_right _ hcnt
  rw [fileB, List.length_append, List.length_append, h4, h5]
  omega
theorem BSl.mono {w : World} {B0 B1 : Nat} {v : Value} {xs : List Nat} (h : BSl w B0 v xs) (hb : B0 ≤ B1) : BSl w B1 v xs := by
  obtain ⟨A, c, e, h1, h2, h3, h4, h5, h6⟩ := h
  exact ⟨A, c, e, h1, h2, h3, h4, fun hp b o ea => Nat.lt_of_lt_of_le (h5 hp b o ea) hb, h6⟩
set_option maxRecDepth 100000 in
set_option maxHeartbeats 1000000 in
theorem frameEncodes_any {w : World} {A B : Option Addr} {c d : Nat} {es : List Ent} {px : List Int} (hE : EntR w A es) (hI : IRow w B px) (hl : px.length ≤ maxLen) (hel : es.length ≤ maxLen) (W H m : Int) :
    Calls Try.prog 4 #[frmV A es.length c W H m B px.length d] w fun e w' => e = .returned (.bool true) ∧ Keeps w w' := by
  obtain ⟨W1, hW1⟩ : ∃ W1, w.alloc (.cells #[.slice A es.length c, .int .i64 W, .int .i64 H, .int .i64 m, .slice B px.length d] 27) = W1 := ⟨_, rfl⟩
  have g : Own W1 w.heap.size 27 [.slice A es.length c, .int .i64 W, .int .i64 H, .int .i64 m, .slice B px.length d] := hW1 ▸ Own.new w _ _
  have hkw : Keeps w W1 := hW1 ▸ (Below.refl _ _).alloc (Nat.le_refl _) _
  have HK := Lib.hid (known_any W1)
  have HE := Lib.hid hE
  have HI := Lib.hid hI
  clear hE hI
  go_enter Try.func4, Try.ntmps4
  go_wp2_with fail
  refine HK.out.mono ?_
  rintro e w1 ⟨rfl, hk1⟩
  replace g := g.below hk1
  replace hkw := hkw.trans' hk1
  have HF := Lib.hid (small_any (c := c) (B := B) (d := d) (px := px) (HE.out.below hkw) hl hel W H m)
  have x0 := g.cell 0
  have x1 := g.cell 1
  have x2 := g.cell 2
  have x3 := g.cell 3
  have x4 := g.cell 4
  simp only [List.getElem?_cons_zero, List.getElem?_cons_succ] at x0 x1 x2 x3 x4
  clear hW1
  go_wp2_with fail
  refine HF.out.mono ?_
  rintro e w2 ⟨b, rfl, hb, hk2⟩
  replace g := g.below hk2
  replace hkw := hkw.trans' hk2
  have x0 := g.cell 0
  have x1 := g.cell 1
  have x2 := g.cell 2
  have x3 := g.cell 3
  have x4 := g.cell 4
  simp only [List.getElem?_cons_zero, List.getElem?_cons_succ] at x0 x1 x2 x3 x4
  cases b with
  | false =>
    go_wp2
    go_ret
    exact ⟨rfl, hkw⟩
  | true =>
    obtain ⟨⟨h1, h2, h3⟩, -⟩ := hb rfl
    have hs : EntS es := fun e he => by have := h3 e he; omega
    have HC := fun u (hk : Keeps w u) => Lib.hid (dfcheck_any (c := c) (d := d) (HE.out.below hk) (HI.out.below hk) hs W H m hl hel)
    by_cases hc : frmC es W H m px = 0
    · obtain ⟨W, H, m, rfl, rfl, rfl⟩ := frmC_nat hc
      have HEN := Lib.hid (encode_yes (c := c) (d := d) (HE.out.below hkw) (HI.out.below hkw) hs W H m hc)
      have HFL := fun u (hk : Keeps w u) => Lib.hid (lfile_any (c := c) (d := d) (HE.out.below hk) (HI.out.below hk) W H m hc)
      rw [hc] at HC
      generalize fileB es W H m px = fl at *
      clear hc h1 h2 h3 hs hb
      go_wp2_with fail
      refine HEN.out.mono ?_
      rintro e w3 ⟨V, rfl, hV, hk3⟩
      obtain ⟨A3, c3, rfl, -⟩ := hV.sl
      have HB3 : Hid (BRow w3 A3 fl) := Lib.hid (BRow.of_own hV rfl)
      replace g := g.below hk3
      replace hkw := hkw.trans' hk3
      have x0 := g.cell 0
      have x1 := g.cell 1
      have x2 := g.cell 2
      have x3 := g.cell 3
      have x4 := g.cell 4
      simp only [List.getElem?_cons_zero, List.getElem?_cons_succ] at x0 x1 x2 x3 x4
      have HC3 := HC _ hkw
      clear hV
      go_wp2_with fail
      refine HC3.out.mono ?_
      rintro e w4 ⟨rfl, hk4⟩
      replace g := g.below hk4
      replace hkw := hkw.trans' hk4
      have x0 := g.cell 0
      have x1 := g.cell 1
      have x2 := g.cell 2
      have x3 := g.cell 3
      have x4 := g.cell 4
      simp only [List.getElem?_cons_zero, List.getElem?_cons_succ] at x0 x1 x2 x3 x4
      have HFL4 := HFL _ hkw
      go_wp2_with fail
      refine HFL4.out.mono ?_
      rintro e w5 ⟨V5, rfl, hV5, hk5⟩
      obtain ⟨A5, c5, rfl, -⟩ := hV5.sl
      have HEQ := Lib.hid (equalB_yes (c := c3) (d := c5) (((HB3.out.below hk4).below hk5)) (BRow.of_own hV5 rfl) rfl rfl)
      replace hkw := hkw.trans' hk5
      clear hV5
      go_wp2_with fail
      refine HEQ.out.mono ?_
      rintro e w6 ⟨rfl, rfl⟩
      go_wp2
      go_ret
      exact ⟨rfl, hkw⟩
    · have HEN := Lib.hid (encode_no (c := c) (d := d) (HE.out.below hkw) (HI.out.below hkw) hs W H m hl hel hc)
      obtain ⟨r, hr⟩ : ∃ r, frmC es W H m px = r := ⟨_, rfl⟩
      rw [hr] at HEN HC hc
      have hne : (r != 0) = true := by simpa using hc
      clear hr h1 h2 h3 hs hb
      go_wp2_with fail
      refine HEN.out.mono ?_
      rintro e w3 ⟨rfl, hk3⟩
      replace g := g.below hk3
      replace hkw := hkw.trans' hk3
      have x0 := g.cell 0
      have x1 := g.cell 1
      have x2 := g.cell 2
      have x3 := g.cell 3
      have x4 := g.cell 4
      simp only [List.getElem?_cons_zero, List.getElem?_cons_succ] at x0 x1 x2 x3 x4
      have HC3 := HC _ hkw
      go_wp2_with fail
      refine HC3.out.mono ?_
      rintro e w4 ⟨rfl, hk4⟩
      go_wp2
      go_ret
      exact ⟨by simp, hkw.trans' hk4⟩
set_option maxRecDepth 100000 in
set_option maxHeartbeats 1000000 in
theorem frameReturns_any {w : World} {A B : Option Addr} {c d : Nat} {es : List Ent} {px : List Int} (hE : EntR w A es) (hI : IRow w B px) (hl : px.length ≤ maxLen) (hel : es.length ≤ maxLen) (W H m : Int) :
    Calls Try.prog 5 #[frmV A es.length c W H m B px.length d] w fun e w' => e = .returned (.bool true) ∧ Keeps w w' := by
  obtain ⟨W1, hW1⟩ : ∃ W1, w.alloc (.cells #[.slice A es.length c, .int .i64 W, .int .i64 H, .int .i64 m, .slice B px.length d] 27) = W1 := ⟨_, rfl⟩
  have g : Own W1 w.heap.size 27 [.slice A es.length c, .int .i64 W, .int .i64 H, .int .i64 m, .slice B px.length d] := hW1 ▸ Own.new w _ _
  have hkw : Keeps w W1 := hW1 ▸ (Below.refl _ _).alloc (Nat.le_refl _) _
  have HK := Lib.hid (known_any W1)
  have HE := Lib.hid hE
  have HI := Lib.hid hI
  clear hE hI
  go_enter Try.func5, Try.ntmps5
  go_wp2_with fail
  refine HK.out.mono ?_
  rintro e w1 ⟨rfl, hk1⟩
  replace g := g.below hk1
  replace hkw := hkw.trans' hk1
  have HF := Lib.hid (small_any (c := c) (B := B) (d := d) (px := px) (HE.out.below hkw) hl hel W H m)
  have x0 := g.cell 0
  have x1 := g.cell 1
  have x2 := g.cell 2
  have x3 := g.cell 3
  have x4 := g.cell 4
  simp only [List.getElem?_cons_zero, List.getElem?_cons_succ] at x0 x1 x2 x3 x4
  clear hW1
  go_wp2_with fail
  refine HF.out.mono ?_
  rintro e w2 ⟨b, rfl, hb, hk2⟩
  replace g := g.below hk2
  replace hkw := hkw.trans' hk2
  have x0 := g.cell 0
  have x1 := g.cell 1
  have x2 := g.cell 2
  have x3 := g.cell 3
  have x4 := g.cell 4
  simp only [List.getElem?_cons_zero, List.getElem?_cons_succ] at x0 x1 x2 x3 x4
  cases b with
  | false =>
    go_wp2
    go_ret
    exact ⟨rfl, hkw⟩
  | true =>
    obtain ⟨⟨h1, h2, h3⟩, hm8⟩ := hb rfl
    have hs : EntS es := fun e he => by have := h3 e he; omega
    have HC := Lib.hid (dfcheck_any (c := c) (d := d) (HE.out.below hkw) (HI.out.below hkw) hs W H m hl hel)
    by_cases hc : frmC es W H m px = 0
    · obtain ⟨W, H, m, rfl, rfl, rfl⟩ := frmC_nat hc
      have HFL := fun u (hk : Keeps w u) => Lib.hid (lfile_any (c := c) (d := d) (HE.out.below hk) (HI.out.below hk) W H m hc)
      have HOCT := Lib.hid (fileB_oct es W H m px)
      have HLEN : Hid ((fileB es W H m px).length ≤ 1000000) := Lib.hid (Nat.le_trans (file_short hc h1 hm8) (by decide))
      have HDO := Lib.hid (decO_file hc)
      rw [hc] at HC
      generalize fileB es W H m px = fl at *
      clear hc h3 hs hb hm8
      go_wp2_with fail
      refine HC.out.mono ?_
      rintro e w3 ⟨rfl, hk3⟩
      replace g := g.below hk3
      replace hkw := hkw.trans' hk3
      have x0 := g.cell 0
      have x1 := g.cell 1
      have x2 := g.cell 2
      have x3 := g.cell 3
      have x4 := g.cell 4
      simp only [List.getElem?_cons_zero, List.getElem?_cons_succ] at x0 x1 x2 x3 x4
      have HFL3 := HFL _ hkw
      go_wp2_with fail
      refine HFL3.out.mono ?_
      rintro e w4 ⟨V, rfl, hV, hk4⟩
      obtain ⟨A4, c4, rfl, -⟩ := hV.sl
      replace g := g.below hk4
      replace hkw := hkw.trans' hk4
      have HD := Lib.hid (decode_any (BSl.of_own hV rfl) HOCT.out HLEN.out)
      rw [HDO.out] at HD
      clear hV
      go_wp2_with fail
      refine HD.out.mono ?_
      rintro e w5 ⟨hk5, Ae, ce, Ap, cp, rfl, hE5, hI5⟩
      replace g := g.below hk5
      replace hkw := hkw.trans' hk5
      obtain ⟨W6, hW6⟩ : ∃ W6, w5.alloc (.cells #[.slice Ae es.length ce, .int .i64 (W : Nat), .int .i64 (H : Nat), .int .i64 (m : Nat), .slice Ap px.length cp] 27) = W6 := ⟨_, rfl⟩
      have g6 : Own W6 w5.heap.size 27 [.slice Ae es.length ce, .int .i64 (W : Nat), .int .i64 (H : Nat), .int .i64 (m : Nat), .slice Ap px.length cp] := hW6 ▸ Own.new w5 _ _
      have hk6 : Keeps w5 W6 := hW6 ▸ (Below.refl _ _).alloc (Nat.le_refl _) _
      replace g := g.below hk6
      replace hkw := hkw.trans' hk6
      have HS := Lib.hid (same_yes (c := c) (d := d) (c' := ce) (d' := cp) (HE.out.below hkw) (hE5.below hk6) (HI.out.below hkw) (hI5.below hk6) rfl rfl rfl rfl (by omega) (by omega) W H m)
      clear hE5 hI5
      have x0 := g.cell 0
      have x1 := g.cell 1
      have x2 := g.cell 2
      have x3 := g.cell 3
      have x4 := g.cell 4
      simp only [List.getElem?_cons_zero, List.getElem?_cons_succ] at x0 x1 x2 x3 x4
      have y0 := g6.cell 0
      have y1 := g6.cell 1
      have y2 := g6.cell 2
      have y3 := g6.cell 3
      have y4 := g6.cell 4
      simp only [List.getElem?_cons_zero, List.getElem?_cons_succ] at y0 y1 y2 y3 y4
      go_wp2_with fail
      refine HS.out.mono ?_
      rintro e w7 ⟨rfl, hk7⟩
      go_wp2
      go_ret
      exact ⟨rfl, hkw.trans' hk7⟩
    · obtain ⟨r, hr⟩ : ∃ r, frmC es W H m px = r := ⟨_, rfl⟩
      rw [hr] at HC hc
      have hne : (r != 0) = true := by simpa using hc
      clear hr h1 h2 h3 hs hb
      go_wp2_with fail
      refine HC.out.mono ?_
      rintro e w3 ⟨rfl, hk3⟩
      go_wp2
      go_ret
      exact ⟨rfl, hkw.trans' hk3⟩
set_option maxRecDepth 100000 in
set_option maxHeartbeats 1000000 in
theorem frameDecodes_any {w : World} {A : Option Addr} {c : Nat} {bs : List Nat} (h : BSl w w.heap.size (.slice A bs.length c) bs) (ho : Oct bs) :
    Calls Try.prog 6 #[.slice A bs.length c] w fun e w' => e = .returned (.bool true) ∧ Keeps w w' := by
  have HK := Lib.hid (known_any w)
  have HB := Lib.hid h
  have hlI : (bs.length : Int) ≤ 9223372036854775807 := by
    obtain ⟨A', c', e, h1, h2, -⟩ := h
    simp only [maxLen] at h2
    omega
  clear h
  go_enter Try.func6, Try.ntmps6
  go_wp2_with fail
  refine HK.out.mono ?_
  rintro e w1 ⟨rfl, hkw⟩
  by_cases hlen : 2000 < bs.length
  · have hlenI : (2000 : Int) < bs.length := by omega
    go_wp2
    go_ret
    exact ⟨rfl, hkw⟩
  have hlenI : ¬ ((2000 : Int) < bs.length) := by omega
  have HD := Lib.hid (decode_any ((HB.out.below hkw).mono hkw.size) ho (by omega))
  have HROW : Hid (∀ u, Keeps w u → BRow u A bs) := Lib.hid fun u hk => by
    obtain ⟨A', c', e, -, -, -, h4, -⟩ := HB.out.below hk
    cases e
    exact h4
  cases hdo : decO bs with
  | none =>
    rw [hdo] at HD
    clear hdo
    go_wp2_with fail
    refine HD.out.mono ?_
    rintro e w2 ⟨hk2, rfl⟩
    replace hkw := hkw.trans' hk2
    have g : Own (w2.alloc (.cells #[.slice none 0 0, .int .i64 0, .int .i64 0, .int .i64 0, .slice none 0 0] 27)) w2.heap.size 27 [.slice none 0 0, .int .i64 0, .int .i64 0, .int .i64 0, .slice none 0 0] := Own.new w2 _ _
    have hk3 : Keeps w2 (w2.alloc (.cells #[.slice none 0 0, .int .i64 0, .int .i64 0, .int .i64 0, .slice none 0 0] 27)) := (Below.refl _ _).alloc (Nat.le_refl _) _
    replace hkw := hkw.trans' hk3
    have HS := fun u => Lib.hid (same_yes (w := u) (A := none) (A' := none) (B := none) (B' := none) (n := 0) (n' := 0) (p := 0) (p' := 0) (c := 0) (d := 0) (c' := 0) (d' := 0) (es := []) (px := []) (fun j k v hj => by simp at hj) (fun j k v hj => by simp at hj) Row.zero Row.zero rfl rfl rfl rfl (by decide) (by decide) 0 0 0)
    have x0 := g.cell 0
    have x1 := g.cell 1
    have x2 := g.cell 2
    have x3 := g.cell 3
    have x4 := g.cell 4
    simp only [List.getElem?_cons_zero, List.getElem?_cons_succ] at x0 x1 x2 x3 x4
    go_wp2_with fail
    refine (HS _).out.mono ?_
    rintro e w4 ⟨rfl, hk4⟩
    go_wp2
    go_ret
    exact ⟨rfl, hkw.trans' hk4⟩
  | some r =>
    obtain ⟨es, W, H, m, px⟩ := r
    obtain ⟨hc, hfile⟩ := decO_yes hdo
    obtain ⟨-, hel, hpl, -, hs⟩ := frm_facts hc
    rw [hdo] at HD
    clear hdo
    go_wp2_with fail
    refine HD.out.mono ?_
    rintro e w2 ⟨hk2, Ae, ce, Ap, cp, rfl, hE2, hI2⟩
    replace hkw := hkw.trans' hk2
    obtain ⟨W6, hW6⟩ : ∃ W6, w2.alloc (.cells #[.slice Ae es.length ce, .int .i64 (W : Nat), .int .i64 (H : Nat), .int .i64 (m : Nat), .slice Ap px.length cp] 27) = W6 := ⟨_, rfl⟩
    have g : Own W6 w2.heap.size 27 [.slice Ae es.length ce, .int .i64 (W : Nat), .int .i64 (H : Nat), .int .i64 (m : Nat), .slice Ap px.length cp] := hW6 ▸ Own.new w2 _ _
    have hk6 : Keeps w2 W6 := hW6 ▸ (Below.refl _ _).alloc (Nat.le_refl _) _
    replace hkw := hkw.trans' hk6
    have HE := Lib.hid (hE2.below hk6)
    have HI := Lib.hid (hI2.below hk6)
    have HC := Lib.hid (dfcheck_any (c := ce) (d := cp) HE.out HI.out hs W H m (by simp only [maxLen]; omega) (by simp only [maxLen]; omega))
    have HFL := fun u (hk : Keeps W6 u) => Lib.hid (lfile_any (c := ce) (d := cp) (HE.out.below hk) (HI.out.below hk) W H m hc)
    rw [hc] at HC
    rw [hfile] at HFL
    clear hc hfile hE2 hI2 hs
    have x0 := g.cell 0
    have x1 := g.cell 1
    have x2 := g.cell 2
    have x3 := g.cell 3
    have x4 := g.cell 4
    simp only [List.getElem?_cons_zero, List.getElem?_cons_succ] at x0 x1 x2 x3 x4
    go_wp2_with fail
    refine HC.out.mono ?_
    rintro e w7 ⟨rfl, hk7⟩
    replace g := g.below hk7
    replace hkw := hkw.trans' hk7
    have x0 := g.cell 0
    have x1 := g.cell 1
    have x2 := g.cell 2
    have x3 := g.cell 3
    have x4 := g.cell 4
    simp only [List.getElem?_cons_zero, List.getElem?_cons_succ] at x0 x1 x2 x3 x4
    have HF7 := HFL _ hk7
    go_wp2_with fail
    refine HF7.out.mono ?_
    rintro e w8 ⟨V, rfl, hV, hk8⟩
    obtain ⟨A8, c8, rfl, -⟩ := hV.sl
    replace hkw := hkw.trans' hk8
    have HEQ := Lib.hid (equalB_yes (c := c8) (d := c) (BRow.of_own hV rfl) (HROW.out _ hkw) rfl rfl)
    clear hV
    go_wp2_with fail
    refine HEQ.out.mono ?_
    rintro e w9 ⟨rfl, rfl⟩
    go_wp2
    go_ret
    exact ⟨rfl, hkw⟩
end Go.Proofs.Ytbkcnhbdjllojaa
