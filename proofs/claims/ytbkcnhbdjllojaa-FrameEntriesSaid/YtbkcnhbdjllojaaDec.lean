/- Decode: the walk. -/
import Derived.Test.YtbkcnhbdjllojaaDecB
import Derived.Test.YtbkcnhbdjllojaaEncY
namespace Go.Proofs.Ytbkcnhbdjllojaa
open Go.RowKit Go.Shelf
attribute [local go_sem] Oper.semAt_some

theorem Oct.app {a b : List Nat} (h : Oct a) (k : Oct b) : Oct (a ++ b) := fun x hx => (List.mem_append.1 hx).elim (h x) (k x)
theorem packN_oct : ∀ (n : Nat) (bs : List Bool), Oct (packN n bs)
  | 0, _ => fun x hx => by simp [packN] at hx
  | n + 1, bs => fun x hx => by
    rw [packN] at hx
    rcases List.mem_cons.1 hx with rfl | hx
    · exact byteOf_lt 8 bs
    · exact packN_oct n _ x hx
theorem rowN_oct (l : List Int) : Oct (rowN l) := fun x hx => by
  rcases List.mem_cons.1 hx with rfl | hx
  · have := bestU_le l 17; unfold bestI; omega
  · exact packN_oct _ _ x hx
theorem fileB_oct (es : List Ent) (W H m : Nat) (px : List Int) : Oct (fileB es W H m px) := by
  refine Oct.app (Oct.app (Oct.app (Oct.app (fun x hx => by simp [magicB] at hx; omega) ?_) (fun x hx => by simp at hx; omega)) (Oct.app (Oct.app (oct_four W) (oct_four H)) (oct_four m))) ?_
  · intro x hx
    obtain ⟨e, -, hx⟩ := List.mem_flatMap.1 hx
    exact Oct.app (Oct.app (Oct.app (bytesN_oct _) (fun x hx => by simp at hx; omega)) (bytesN_oct _)) (fun x hx => by simp at hx; omega) x hx
  · intro x hx
    obtain ⟨y, -, hx⟩ := List.mem_flatMap.1 hx
    exact rowN_oct _ x hx
theorem strN_size (l : List Nat) : (strN l).size = l.length := by rw [← bytesN_length]; unfold bytesN strN; simp
theorem cutS_small (l : List Nat) : (cutS l).1.size ≤ l.length ∧ (cutS l).2.size ≤ l.length := by
  unfold cutS
  split
  · simp only [strN_size, List.length_take, List.length_drop]; omega
  · simp only [strN_size]; exact ⟨Nat.le_refl _, Nat.zero_le _⟩
theorem metaP_small : ∀ (n : Nat) (rest : List Nat) (acc es : List Ent) (r : List Nat), metaP n rest acc = some (es, r) → rest.length ≤ 1000000 → acc.length ≤ 32 → (∀ e ∈ acc, e.1.size ≤ 1000000 ∧ e.2.size ≤ 1000000) →
    es.length ≤ 32 ∧ ∀ e ∈ es, e.1.size ≤ 1000000 ∧ e.2.size ≤ 1000000
  | 0, _, _, _, _, h, _, _, _ => by simp [metaP] at h
  | n + 1, rest, acc, es, r, h, hl, ha, hs => by
    rw [metaP] at h
    split at h
    · cases h
    · rename_i i hi
      split at h
      · cases h; exact ⟨ha, hs⟩
      · split at h
        · rename_i h32
          refine metaP_small n _ _ es r h (by rw [List.length_drop]; omega) (by rw [List.length_append]; simp; omega) fun e he => ?_
          rcases List.mem_append.1 he with he | he
          · exact hs e he
          · obtain rfl := List.mem_singleton.1 he
            have := cutS_small (rest.take i)
            have : (rest.take i).length ≤ rest.length := by rw [List.length_take]; omega
            omega
        · cases h
/-- what is decoded is in its bounds -/
theorem decP_small {bs : List Nat} {es : List Ent} {W H m : Nat} {l : List Nat} (h : decP bs = some (es, W, H, m, l)) (hl : bs.length ≤ 1000000) : es.length ≤ 32 ∧ EntS es ∧ restC W H m (ints l) = 0 := by
  unfold decP at h
  split at h
  · split at h
    · cases h
    · rename_i es' rest hm
      have hs := metaP_small _ _ _ _ _ hm (by rw [List.length_drop]; omega) (by simp) (by simp)
      unfold bodyP at h
      split at h
      · cases h
      · split at h
        · cases h
        · split at h
          · cases h
          · split at h
            · rename_i hc
              cases h
              exact ⟨hs.1, hs.2, hc⟩
            · cases h
  · cases h
/-- what Decode accepts -/
def decO (bs : List Nat) : Option (List Ent × Nat × Nat × Nat × List Int) :=
  match decP bs with
  | none => none
  | some (es, W, H, m, l) => if frmC es W H m (restI W m (ints l)) = 0 ∧ fileB es W H m (restI W m (ints l)) = bs then some (es, W, H, m, restI W m (ints l)) else none
theorem decO_file {es : List Ent} {W H m : Nat} {px : List Int} (h : frmC es W H m px = 0) : decO (fileB es W H m px) = some (es, W, H, m, px) := by
  have hras : rasC W H m px = 0 := Classical.byContradiction fun hh => by rw [frmC, if_pos hh] at h; exact hh h
  obtain ⟨hW, hH, hm, hL, hl, hg⟩ := rasC_0 hras
  unfold decO
  rw [decP_file h]
  have e : restI W m (ints ((resI px W m).map Int.toNat)) = px := by
    rw [ints_nat fun x hx => (resI_grey (px := px) (m := m) (by omega) W x hx).1, restI_res (by omega) hg (by omega)]
  simp only [e]
  rw [if_pos ⟨h, trivial⟩]
theorem decO_yes {bs : List Nat} {es : List Ent} {W H m : Nat} {px : List Int} (h : decO bs = some (es, W, H, m, px)) : frmC es W H m px = 0 ∧ fileB es W H m px = bs := by
  unfold decO at h
  split at h
  · cases h
  · split at h
    · rename_i hc; cases h; exact hc
    · cases h
/-- what Decode hands back -/
def DecOut (w : World) (o : Option (List Ent × Nat × Nat × Nat × List Int)) (e : Ending) (w' : World) : Prop :=
  Keeps w w' ∧ match o with
    | none => e = .returned (.tuple #[frmV none 0 0 0 0 0 none 0 0, .int .i64 8])
    | some (es, W, H, m, px) => ∃ Ae ce Ap cp, e = .returned (.tuple #[frmV Ae es.length ce W H m Ap px.length cp, .int .i64 0]) ∧ EntR w' Ae es ∧ IRow w' Ap px
set_option maxRecDepth 100000 in
set_option maxHeartbeats 4000000 in
theorem decode_any {w : World} {A : Option Addr} {c : Nat} {bs : List Nat} (h : BSl w w.heap.size (.slice A bs.length c) bs) (ho : Oct bs) (hl : bs.length ≤ 1000000) :
    Calls Try.prog 20 #[.slice A bs.length c] w (DecOut w (decO bs)) := by
  have hlI : (bs.length : Int) ≤ 1000000 := by omega
  obtain ⟨R, hR⟩ : ∃ R, decO bs = R := ⟨_, rfl⟩
  rw [hR]
  have HR := Lib.hid hR
  obtain ⟨W0, hW0⟩ : ∃ W0, w.alloc (.cells z27.toArray 27) = W0 := ⟨_, rfl⟩
  have hb2 : Own W0 w.heap.size 27 z27 := hW0 ▸ Own.new w _ _
  have hk0 : Keeps w W0 := hW0 ▸ (Below.refl _ _).alloc (Nat.le_refl _) _
  have hB : BSl W0 W0.heap.size (.slice A bs.length c) bs := by
    obtain ⟨A', c', e, h1, h2, h3, h4, h5, h6⟩ := h.below hk0
    exact ⟨A', c', e, h1, h2, h3, h4, fun hp b o e => Nat.lt_of_lt_of_le (h5 hp b o e) hk0.size, h6⟩
  have HD := Lib.hid (decoded_any hB ho hl)
  have HB := Lib.hid hB
  obtain ⟨D, hD⟩ : ∃ D, decP bs = D := ⟨_, rfl⟩
  rw [hD] at HD
  clear hR h hB
  go_enter Try.func20, Try.ntmps20
  go_wp2_with fail
  refine HD.out.mono ?_
  rintro e w1 ⟨hk1, hm⟩
  have hb1 := hb2.below hk1
  have hkw := hk0.trans' hk1
  cases D with
  | none =>
    obtain ⟨Ae, n, ce, rfl⟩ := hm
    have HRN : Hid (R = none) := Lib.hid (by rw [← HR.out, decO, hD])
    have hlt2 := hb1.lt
    have u0 := hb1.frozen 0
    have u1 := hb1.frozen 1
    have u2 := hb1.frozen 2
    have u3 := hb1.frozen 3
    have u4 := hb1.frozen 4
    have s0 := hb1.cell 0
    have s1 := hb1.cell 1
    have s2 := hb1.cell 2
    have s3 := hb1.cell 3
    have s4 := hb1.cell 4
    simp only [List.getElem?_cons_zero, List.getElem?_cons_succ] at s0 s1 s2 s3 s4
    go_wp2
    have hN := (hb1.five (.slice none 0 0) (.int .i64 0) (.int .i64 0) (.int .i64 0) (.slice none 0 0)).alloc (.cells #[.slice Ae n ce, .int .i64 0, .int .i64 0, .int .i64 0, .slice none 0 0] 27)
    have r0 := hN.cell 0
    have r1 := hN.cell 1
    have r2 := hN.cell 2
    have r3 := hN.cell 3
    have r4 := hN.cell 4
    simp only [List.getElem?_cons_zero, List.getElem?_cons_succ] at r0 r1 r2 r3 r4
    refine bodyPost_ret (v := .tuple #[frmV none 0 0 0 0 0 none 0 0, .int .i64 8]) (by simp [results, Try.results20, go_sem, r0, r1, r2, r3, r4]) rfl ?_
    have hkF := (Keeps.five hkw (Nat.le_refl _) (.slice none 0 0) (.int .i64 0) (.int .i64 0) (.int .i64 0) (.slice none 0 0)).trans' ((Below.refl _ _).alloc (Nat.le_refl _) (.cells #[.slice Ae n ce, .int .i64 0, .int .i64 0, .int .i64 0, .slice none 0 0] 27))
    rw [HRN.out]
    exact ⟨hkF, rfl⟩
  | some dd =>
    obtain ⟨es, W, H, m, l⟩ := dd
    obtain ⟨Ae, ce, Ap, cp, rfl, hE, hI⟩ := hm
    obtain ⟨hel, hes, hrc⟩ := decP_small hD hl
    obtain ⟨px, hpx⟩ : ∃ px, restI W m (ints l) = px := ⟨_, rfl⟩
    have hpl : px.length = l.length := by rw [← hpx]; unfold restI; rw [restU_length, ints_length]
    have hll : px.length ≤ 4096 := by
      obtain ⟨-, -, -, -, h5, -⟩ := restC_0 hrc
      rw [ints_length] at h5
      omega
    rw [hpx] at hI
    obtain ⟨w2, hw2⟩ : ∃ w2, w1.alloc (.cells #[.slice Ae es.length ce, .int .i64 (W : Nat), .int .i64 (H : Nat), .int .i64 (m : Nat), .slice Ap l.length cp] 27) = w2 := ⟨_, rfl⟩
    have hk2 : Keeps w1 w2 := hw2 ▸ (Below.refl _ _).alloc (Nat.le_refl _) _
    have hb2a := hb1.below hk2
    have h4 : Own w2 w1.heap.size 27 [.slice Ae es.length ce, .int .i64 (W : Nat), .int .i64 (H : Nat), .int .i64 (m : Nat), .slice Ap px.length cp] := by rw [hpl]; exact hw2 ▸ Own.new w1 _ _
    have l0 := h4.cell 0
    have l1 := h4.cell 1
    have l2 := h4.cell 2
    have l3 := h4.cell 3
    have l4 := h4.cell 4
    simp only [List.getElem?_cons_zero, List.getElem?_cons_succ, hpl] at l0 l1 l2 l3 l4
    have hE2' := hE.keeps hk2
    have hI2' := hI.keeps hk2
    have hE2 := EntR.of_own hE2'
    have hI2 := World.ownsRow.irow hI2' hpl.symm
    by_cases hc : frmC es W H m px = 0
    · have HE := Lib.hid (encode_yes (c := ce) (d := cp) hE2 hI2 hes W H m hc)
      rw [hpl] at HE
      go_wp2_with fail
      refine HE.out.mono ?_
      rintro e w3 ⟨V, rfl, hV, hk3⟩
      have hb3 := hb2a.below hk3
      have h43 := h4.below hk3
      have hE3 := hE2'.keeps hk3
      have hI3 := hI2'.keeps hk3
      have hk9 := (hkw.trans' hk2).trans' hk3
      obtain ⟨Av, cv, rfl, -⟩ := hV.sl
      have hbv := bytesIn (BRow.of_own hV rfl)
      have hba := bytesIn ((HB.out.below (((hk1.trans' hk2).trans' hk3).mono (Nat.le_refl _))).row)
      have HQ := Try.bytes_Equal_all A Av bs.length c (fileB es W H m px).length cv (ints bs) (ints (fileB es W H m px)) w3 (ints_length _) (ints_length _) hba hbv
      rw [bytesOf_ints, bytesOf_ints] at HQ
      have heq : (bs.map UInt8.ofNat == (fileB es W H m px).map UInt8.ofNat) = decide (fileB es W H m px = bs) := by
        rw [Bool.eq_iff_iff, beq_iff_eq, decide_eq_true_eq]
        exact ⟨fun h => (map_inj_oct ho (fileB_oct _ _ _ _ _) h).symm, fun h => by rw [h]⟩
      rw [heq] at HQ
      have HQ := Lib.hid HQ
      by_cases hf : fileB es W H m px = bs
      · have HRY : Hid (R = some (es, W, H, m, px)) := Lib.hid (by rw [← HR.out, decO, hD]; simp only [hpx]; rw [if_pos ⟨hc, hf⟩])
        rw [decide_eq_true hf] at HQ
        clear heq hba hbv hV hf
        generalize fileB es W H m px = fl at *
        go_wp2_with fail
        refine HQ.out.mono ?_
        rintro e w4 ⟨rfl, rfl⟩
        have hlt2 := hb3.lt
        have u0 := hb3.frozen 0
        have u1 := hb3.frozen 1
        have u2 := hb3.frozen 2
        have u3 := hb3.frozen 3
        have u4 := hb3.frozen 4
        have s0 := hb3.cell 0
        have s1 := hb3.cell 1
        have s2 := hb3.cell 2
        have s3 := hb3.cell 3
        have s4 := hb3.cell 4
        simp only [List.getElem?_cons_zero, List.getElem?_cons_succ] at s0 s1 s2 s3 s4
        have q0 := h43.cell 0
        have q1 := h43.cell 1
        have q2 := h43.cell 2
        have q3 := h43.cell 3
        have q4 := h43.cell 4
        simp only [List.getElem?_cons_zero, List.getElem?_cons_succ] at q0 q1 q2 q3 q4
        go_wp2
        have hN := hb3.five (.slice Ae es.length ce) (.int .i64 (W : Nat)) (.int .i64 (H : Nat)) (.int .i64 (m : Nat)) (.slice Ap l.length cp)
        have r0 := hN.cell 0
        have r1 := hN.cell 1
        have r2 := hN.cell 2
        have r3 := hN.cell 3
        have r4 := hN.cell 4
        simp only [List.getElem?_cons_zero, List.getElem?_cons_succ] at r0 r1 r2 r3 r4
        refine bodyPost_ret (v := .tuple #[.agg #[(.slice Ae es.length ce), (.int .i64 (W : Nat)), (.int .i64 (H : Nat)), (.int .i64 (m : Nat)), (.slice Ap l.length cp)], .int .i64 0]) (by simp [results, Try.results20, go_sem, r0, r1, r2, r3, r4]) rfl ?_
        have hkF := Keeps.five hk9 (Nat.le_refl _) (.slice Ae es.length ce) (.int .i64 (W : Nat)) (.int .i64 (H : Nat)) (.int .i64 (m : Nat)) (.slice Ap l.length cp)
        rw [HRY.out]
        have hT := ((((((Turn.refl w4).set (T := [w.heap.size]) (p := ⟨w.heap.size, 0, none⟩) (by simp) (.slice Ae es.length ce)).set (p := ⟨w.heap.size, 1, none⟩) (by simp) (.int .i64 (W : Nat))).set (p := ⟨w.heap.size, 2, none⟩) (by simp) (.int .i64 (H : Nat))).set (p := ⟨w.heap.size, 3, none⟩) (by simp) (.int .i64 (m : Nat))).set (p := ⟨w.heap.size, 4, none⟩) (by simp) (.slice Ap l.length cp))
        refine ⟨hkF, Ae, ce, Ap, cp, by rw [hpl], ?_, ?_⟩
        · exact EntR.of_own (hE3.turn hT (fun k hk => by
            have n1 := row_ne hE3 hb3 (by decide)
            simp only [List.mem_singleton]
            rintro rfl
            exact n1 (by simpa [blkOf, eq_comm] using hk)))
        · exact World.ownsRow.irow (hI3.turn hT (fun k hk => by
            have n1 := row_ne hI3 hb3 (by decide)
            simp only [List.mem_singleton]
            rintro rfl
            exact n1 (by simpa [blkOf, eq_comm] using hk))) hpl.symm
      · have HRN : Hid (R = none) := Lib.hid (by rw [← HR.out, decO, hD]; simp only [hpx]; rw [if_neg (by simp [hf])])
        rw [decide_eq_false hf] at HQ
        clear heq hba hbv hV hf
        generalize fileB es W H m px = fl at *
        go_wp2_with fail
        refine HQ.out.mono ?_
        rintro e w4 ⟨rfl, rfl⟩
        have hlt2 := hb3.lt
        have u0 := hb3.frozen 0
        have u1 := hb3.frozen 1
        have u2 := hb3.frozen 2
        have u3 := hb3.frozen 3
        have u4 := hb3.frozen 4
        have s0 := hb3.cell 0
        have s1 := hb3.cell 1
        have s2 := hb3.cell 2
        have s3 := hb3.cell 3
        have s4 := hb3.cell 4
        simp only [List.getElem?_cons_zero, List.getElem?_cons_succ] at s0 s1 s2 s3 s4
        go_wp2
        have hN := hb3.five (.slice none 0 0) (.int .i64 0) (.int .i64 0) (.int .i64 0) (.slice none 0 0)
        have r0 := hN.cell 0
        have r1 := hN.cell 1
        have r2 := hN.cell 2
        have r3 := hN.cell 3
        have r4 := hN.cell 4
        simp only [List.getElem?_cons_zero, List.getElem?_cons_succ] at r0 r1 r2 r3 r4
        refine bodyPost_ret (v := .tuple #[.agg #[(.slice none 0 0), (.int .i64 0), (.int .i64 0), (.int .i64 0), (.slice none 0 0)], .int .i64 8]) (by simp [results, Try.results20, go_sem, r0, r1, r2, r3, r4]) rfl ?_
        have hkF := Keeps.five hk9 (Nat.le_refl _) (.slice none 0 0) (.int .i64 0) (.int .i64 0) (.int .i64 0) (.slice none 0 0)
        rw [HRN.out]
        exact ⟨hkF, rfl⟩
    · have HE := Lib.hid (encode_no (c := ce) (d := cp) hE2 hI2 hes W H m (by simp only [maxLen]; omega) (by simp only [maxLen]; omega) hc)
      rw [hpl] at HE
      have HRN : Hid (R = none) := Lib.hid (by rw [← HR.out, decO, hD]; simp only [hpx]; rw [if_neg (by simp [hc])])
      go_wp2_with fail
      refine HE.out.mono ?_
      rintro e w3 ⟨rfl, hk3⟩
      have hb3 := hb2a.below hk3
      have hk9 := (hkw.trans' hk2).trans' hk3
      have hne : (frmC es W H m px != 0) = true := by simpa using hc
      generalize frmC es W H m px = code at *
      have hlt2 := hb3.lt
      have u0 := hb3.frozen 0
      have u1 := hb3.frozen 1
      have u2 := hb3.frozen 2
      have u3 := hb3.frozen 3
      have u4 := hb3.frozen 4
      have s0 := hb3.cell 0
      have s1 := hb3.cell 1
      have s2 := hb3.cell 2
      have s3 := hb3.cell 3
      have s4 := hb3.cell 4
      simp only [List.getElem?_cons_zero, List.getElem?_cons_succ] at s0 s1 s2 s3 s4
      go_wp2
      have hN := hb3.five (.slice none 0 0) (.int .i64 0) (.int .i64 0) (.int .i64 0) (.slice none 0 0)
      have r0 := hN.cell 0
      have r1 := hN.cell 1
      have r2 := hN.cell 2
      have r3 := hN.cell 3
      have r4 := hN.cell 4
      simp only [List.getElem?_cons_zero, List.getElem?_cons_succ] at r0 r1 r2 r3 r4
      refine bodyPost_ret (v := .tuple #[.agg #[(.slice none 0 0), (.int .i64 0), (.int .i64 0), (.int .i64 0), (.slice none 0 0)], .int .i64 8]) (by simp [results, Try.results20, go_sem, r0, r1, r2, r3, r4]) rfl ?_
      have hkF := Keeps.five hk9 (Nat.le_refl _) (.slice none 0 0) (.int .i64 0) (.int .i64 0) (.int .i64 0) (.slice none 0 0)
      rw [HRN.out]
      exact ⟨hkF, rfl⟩
end Go.Proofs.Ytbkcnhbdjllojaa
