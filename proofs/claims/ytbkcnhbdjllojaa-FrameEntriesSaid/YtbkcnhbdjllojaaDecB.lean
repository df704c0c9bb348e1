/- decoded: the walk. -/
import Derived.Test.YtbkcnhbdjllojaaDecL
namespace Go.Proofs.Ytbkcnhbdjllojaa
open Go.RowKit Go.Shelf

/-- what decoded hands back -/
def DecRes (w : World) (o : Option (List Ent × Nat × Nat × Nat × List Nat)) (e : Ending) (w' : World) : Prop :=
  Keeps w w' ∧ match o with
    | none => ∃ Ae n ce, e = .returned (.tuple #[.agg #[.slice Ae n ce, .int .i64 0, .int .i64 0, .int .i64 0, .slice none 0 0], .bool false])
    | some (es, W, H, m, l) => ∃ Ae ce Ap cp, e = .returned (.tuple #[frmV Ae es.length ce W H m Ap l.length cp, .bool true]) ∧ w'.ownsRow w.heap.size 57 2 (.slice Ae es.length ce) es.length (entVs es) ∧ IOwn w' w.heap.size (.slice Ap l.length cp) (restI W m (ints l))
theorem DecRes.no {w w' : World} {e : Ending} {n ce : Nat} (Ae : Option Addr) (hk : Keeps w w') (he : e = .returned (.tuple #[.agg #[.slice Ae n ce, .int .i64 0, .int .i64 0, .int .i64 0, .slice none 0 0], .bool false])) : DecRes w none e w' := ⟨hk, Ae, n, ce, he⟩
theorem map_inj_oct : ∀ {xs ys : List Nat}, Oct xs → Oct ys → xs.map UInt8.ofNat = ys.map UInt8.ofNat → xs = ys
  | [], [], _, _, _ => rfl
  | [], _ :: _, _, _, h => by simp at h
  | _ :: _, [], _, _, h => by simp at h
  | x :: xs, y :: ys, hx, hy, h => by
    simp only [List.map_cons, List.cons.injEq] at h
    have h1 := congrArg UInt8.toNat h.1
    have hx1 := hx x List.mem_cons_self
    have hy1 := hy y List.mem_cons_self
    simp [Nat.mod_eq_of_lt hx1, Nat.mod_eq_of_lt hy1] at h1
    rw [h1, map_inj_oct (fun z hz => hx z (List.mem_cons_of_mem _ hz)) (fun z hz => hy z (List.mem_cons_of_mem _ hz)) h.2]
theorem magic_pre {bs : List Nat} (ho : Oct bs) : Lib.hasPrefix (Lib.bytesOf (ints bs)) (Lib.bytesOf (ints magicB)) = decide (bs.take 7 = magicB) := by
  rw [bytesOf_ints, bytesOf_ints, Lib.hasPrefix, Bool.eq_iff_iff, List.isPrefixOf_iff_prefix, List.prefix_iff_eq_take, decide_eq_true_eq, List.length_map, ← List.map_take]
  show _ = (bs.take 7).map UInt8.ofNat ↔ _
  constructor
  · intro h
    exact (map_inj_oct (fun x hx => by simp [magicB] at hx; omega) (fun x hx => ho x (List.mem_of_mem_take hx)) h).symm
  · rintro h; rw [h]
theorem trim_yes {A : Option Addr} {c : Nat} {bs : List Nat} (hA : ∀ b o s, A = some ⟨b, o, s⟩ → s = none) (hn : A = none → c = 0) (hc : bs.length ≤ c) (h : Lib.hasPrefix (Lib.bytesOf (ints bs)) (Lib.bytesOf (ints magicB)) = true) (h7 : 7 ≤ bs.length) :
    Lib.trimPrefixV A bs.length c (ints bs) (ints magicB) = Lib.fromV A bs.length c 7 := by
  rcases A with _ | ⟨b, o, s⟩
  · have := hn rfl; omega
  · obtain rfl := hA b o s rfl
    show Lib.bytesTrimPrefix b o bs.length c (ints bs) (ints magicB) = _
    rw [Lib.bytesTrimPrefix, if_pos h]
    unfold Lib.sliceFrom Lib.fromV
    have e : (ints magicB).length = 7 := rfl
    rw [e]
    by_cases hc7 : c = 7 <;> simp [hc7, addp]
theorem cells_new (w : World) (vs : List Value) (t : TypeId) : ∀ (j : Nat) (u : Value), vs[j]? = some u → (w.alloc (.cells vs.toArray t)).cell? ((⟨w.heap.size, 0, none⟩ : Addr).add j) = some u := fun j u h => by
  rw [addr0, (Own.new w t vs).cell]
  exact h
theorem bytesN_strN {l : List Nat} (h : Oct l) : bytesN (strN l) = l := by
  unfold bytesN strN
  show (List.map UInt8.ofNat l).toArray.toList.map UInt8.toNat = l
  rw [List.map_map]
  conv => rhs; rw [← List.map_id l]
  exact List.map_congr_left fun x hx => by have := h x hx; simp; omega
theorem drop_get {l : List Nat} {i t : Nat} (h : t < (l.drop i).length) : (l.drop i)[t] = l.getD (i + t) 0 := by
  rw [List.getElem_drop]
  have : i + t < l.length := by rw [List.length_drop] at h; omega
  simp [List.getD, this]
theorem be4_snoc (l : List Nat) (x : Nat) : be4 (l ++ [x]) = 256 * be4 l + x := by simp [be4]
theorem be4_lt {l : List Nat} (h : Oct l) : ∀ t, t ≤ l.length → be4 (l.take t) < 256 ^ t
  | 0, _ => by simp [be4]
  | t + 1, ht => by
    have ih := be4_lt h t (by omega)
    have hx := h l[t] (List.getElem_mem _)
    rw [List.take_succ_eq_append_getElem (by omega), be4_snoc, Nat.pow_succ]
    omega
theorem shl8_or {v b : Nat} (hv : v < 16777216) (hb : b < 256) : bits .or .i64 ((v : Int) * 256) (b : Int) = ((256 * v + b : Nat) : Int) := by
  have h1 : (BitVec.ofInt 64 ((v : Int) * 256)).toNat = 256 * v := by rw [BitVec.toNat_ofInt]; omega
  have h2 : (BitVec.ofInt 64 (b : Int)).toNat = b := by rw [BitVec.toNat_ofInt]; omega
  show IntKind.i64.wrap ((BitVec.ofInt 64 ((v : Int) * 256) ||| BitVec.ofInt 64 (b : Int)).toNat : Int) = _
  rw [BitVec.toNat_or, h1, h2]
  have h3 : 256 * v ||| b = 256 * v + b := by
    have := Nat.two_pow_add_eq_or_of_lt (i := 8) (b := b) (by omega) v
    simpa using this.symm
  rw [h3]
  exact IntWalk.i64_in _ (by omega)
/-- the decoder ahead of a line -/
def MetaI (w : World) (base b2 b4 : Nat) (M : Option (List Ent × List Nat)) (n : Nat) (r o : Value) (wr : World) : Prop :=
  ∃ (ok : Bool) (acc : List Ent) (Am : Option Addr) (cm : Nat), o = .bool ok ∧ Own wr b2 27 z27 ∧ Own wr b4 27 [.slice Am acc.length cm, .int .i64 0, .int .i64 0, .int .i64 0, .slice none 0 0] ∧
    wr.ownsRow base 57 2 (.slice Am acc.length cm) acc.length (entVs acc) ∧ Keeps w wr ∧ (ok = false → M = none) ∧
    (ok = true → ∃ rest, BSl wr w.heap.size r rest ∧ Oct rest ∧ rest.length ≤ 1000000 ∧ acc.length + n = 33 ∧ acc.length ≤ 32 ∧ M = metaP n rest acc)
theorem Own.five {w : World} {b : Nat} {t : TypeId} {x y z u v : Value} (h : Own w b t [x, y, z, u, v]) (x' y' z' u' v' : Value) :
    Own (((((w.setCell ⟨b, 0, none⟩ x').setCell ⟨b, 1, none⟩ y').setCell ⟨b, 2, none⟩ z').setCell ⟨b, 3, none⟩ u').setCell ⟨b, 4, none⟩ v') b t [x', y', z', u', v'] := ((((h.set 0 x').set 1 y').set 2 z').set 3 u').set 4 v'
theorem Keeps.five {w w' : World} (h : Keeps w w') {b : Nat} (hb : w.heap.size ≤ b) (x' y' z' u' v' : Value) :
    Keeps w (((((w'.setCell ⟨b, 0, none⟩ x').setCell ⟨b, 1, none⟩ y').setCell ⟨b, 2, none⟩ z').setCell ⟨b, 3, none⟩ u').setCell ⟨b, 4, none⟩ v') := (Keeps.four h hb x' y' z' u').set (p := ⟨b, 4, none⟩) hb v'
/-- two boxes of the decoder's -/
theorem dec_turn {w : World} {b r : Nat} (a x y z p q u v t : Value) : Turn [b, r] w (((((((((w.setCell ⟨b, 1, none⟩ a).setCell ⟨b, 2, none⟩ x).setCell ⟨b, 3, none⟩ y).setCell ⟨b, 4, none⟩ z).setCell ⟨r, 0, none⟩ p).setCell ⟨r, 1, none⟩ q).setCell ⟨r, 2, none⟩ u).setCell ⟨r, 3, none⟩ v).setCell ⟨r, 4, none⟩ t) :=
  (((((((((Turn.refl w).set (p := ⟨b, 1, none⟩) (by simp) a).set (p := ⟨b, 2, none⟩) (by simp) x).set (p := ⟨b, 3, none⟩) (by simp) y).set (p := ⟨b, 4, none⟩) (by simp) z).set (p := ⟨r, 0, none⟩) (by simp) p).set (p := ⟨r, 1, none⟩) (by simp) q).set (p := ⟨r, 2, none⟩) (by simp) u).set (p := ⟨r, 3, none⟩) (by simp) v).set (p := ⟨r, 4, none⟩) (by simp) t
theorem own_ne' {a b : Nat} (h : a + 1 = b) : ¬ b = a ∧ ¬ a = b := by omega
set_option maxRecDepth 100000 in
set_option maxHeartbeats 4000000 in
theorem decoded_any {w : World} {A : Option Addr} {c : Nat} {bs : List Nat} (h : BSl w w.heap.size (.slice A bs.length c) bs) (ho : Oct bs) (hl : bs.length ≤ 1000000) :
    Calls Try.prog 58 #[.slice A bs.length c] w (DecRes w (decP bs)) := by
  obtain ⟨i0, hi, hz0, hz1, hz2⟩ := info_parts info_ent
  have hlI : (bs.length : Int) ≤ 1000000 := by omega
  obtain ⟨R, hR⟩ : ∃ R, decP bs = R := ⟨_, rfl⟩
  rw [hR]
  have HR := Lib.hid hR
  have HB := Lib.hid h
  clear hR h
  obtain ⟨Wb, hWb⟩ : ∃ Wb, (w.alloc (.cells z27.toArray 27)).alloc (.cells z27.toArray 27) = Wb := ⟨_, rfl⟩
  have hb2 : Own Wb w.heap.size 27 z27 := hWb ▸ (Own.new w _ _).alloc _
  have hb4 : Own Wb (w.heap.size + 1) 27 z27 := hWb ▸ own2 w _ _ _
  have hkb : Keeps w Wb := hWb ▸ keep2 w _ _
  have hcv := Lib.run_convert_bytes_const (P := Try.prog) Wb 32 5 #[.int .u8 70, .int .u8 82, .int .u8 65, .int .u8 77, .int .u8 69, .int .u8 49, .int .u8 10] 7 7 Try.underlying32 Try.underlying5
  go_enter Try.func58, Try.ntmps58
  go_wp2_with fail
  obtain ⟨Wc, hWc⟩ : ∃ Wc, Wb.alloc (.cells #[.int .u8 70, .int .u8 82, .int .u8 65, .int .u8 77, .int .u8 69, .int .u8 49, .int .u8 10] 5 (7, 8)) = Wc := ⟨_, rfl⟩
  have hkc : Keeps Wb Wc := hWc ▸ (Below.refl _ _).alloc (Nat.le_refl _) _
  have hmB : Lib.BytesIn Wc (some ⟨Wb.heap.size, 0, none⟩) 7 (ints magicB) := fun _ => ⟨Wb.heap.size, 0, rfl, fun i hi => by
    rw [← hWc, Nat.zero_add, World.cell?_alloc_mark]
    match i, hi with
    | 0, _ => rfl
    | 1, _ => rfl
    | 2, _ => rfl
    | 3, _ => rfl
    | 4, _ => rfl
    | 5, _ => rfl
    | 6, _ => rfl⟩
  rw [hWc]
  have hkw := hkb.trans' hkc
  obtain ⟨A', c', eA, hlc, hcm, hA0, hrow, hund, hspot⟩ := HB.out.below hkw
  cases eA
  have hsz : Wb.heap.size = w.heap.size + 2 := by rw [← hWb]; simp
  have HCP := Lib.hid (Try.bytes_CutPrefix_all A (some ⟨Wb.heap.size, 0, none⟩) bs.length c 7 7 (ints bs) (ints magicB) Wc (ints_length bs) rfl hlc (bytesIn hrow) hmB)
  have hdc : decP bs = match (if bs.take 7 = magicB then metaP 33 (bs.drop 7) [] else none) with | none => none | some (es, rest) => bodyP es rest := by
    unfold decP
    split <;> rfl
  rw [magic_pre ho] at HCP
  have hg2 := hb2.below hkc
  have hg4 := hb4.below hkc
  have HSZ := Lib.hid hsz
  have HWC := Lib.hid hWc
  clear hWb hb2 hb4 hcv hWc hmB hsz
  obtain ⟨M, hM⟩ : ∃ M, (if bs.take 7 = magicB then metaP 33 (bs.drop 7) [] else none) = M := ⟨_, rfl⟩
  rw [hM, HR.out] at hdc
  have HDC := Lib.hid hdc
  obtain ⟨b4, hb4⟩ : ∃ b4, w.heap.size + 1 = b4 := ⟨_, rfl⟩
  have HB4 := Lib.hid hb4
  rw [hb4] at hg4
  simp only [hb4]
  clear hdc hb4
  refine HCP.out.mono ?_
  rintro e w1 ⟨rfl, rfl⟩
  obtain ⟨tv, htv⟩ : ∃ tv, Lib.trimPrefixV A bs.length c (ints bs) (ints magicB) = tv := ⟨_, rfl⟩
  have hinit : MetaI w Wb.heap.size w.heap.size b4 M 33 tv (.bool (decide (bs.take 7 = magicB))) w1 := by
    refine ⟨_, [], none, 0, rfl, hg2, hg4, World.ownsRow_nil _ _ _ _, hkw, fun h => ?_, fun h => ?_⟩
    · rw [← hM, if_neg (of_decide_eq_false h)]
    · have h7 := of_decide_eq_true h
      have hl7 : 7 ≤ bs.length := by
        have := congrArg List.length h7
        rw [List.length_take] at this
        have e : magicB.length = 7 := rfl
        omega
      refine ⟨bs.drop 7, ?_, fun x hx => ho x (List.mem_of_mem_drop hx), by rw [List.length_drop]; omega, rfl, by simp, ?_⟩
      · rw [← htv, trim_yes (hspot (by omega)) hA0 hlc (by rw [magic_pre ho]; exact h) hl7]
        exact BSl.from ⟨A, c, rfl, hlc, hcm, hA0, hrow, hund, hspot⟩ hl7
      · rw [← hM, if_pos h7]
  have HI := Lib.hid hinit
  rw [htv]
  clear htv hM hinit hg2 hg4 hlc hcm hA0 hrow hund hspot hkc hkb HCP
  generalize decide (bs.take 7 = magicB) = okv at *
  go_wp2
  go_loopg [5, 6] 33 (fun n r o wr => MetaI w Wb.heap.size w.heap.size b4 M n r o wr)
  case atStart => exact HI.out
  case round =>
    obtain ⟨ok, acc, Am, cm, rfl, g2, g4, g5, hk, hno, hyes⟩ := hrel
    cases ok with
    | false =>
      have HRN : Hid (R = none) := Lib.hid (by rw [HDC.out, hno rfl])
      clear hno hyes
      have s0 := g2.cell 0
      have s1 := g2.cell 1
      have s2 := g2.cell 2
      have s3 := g2.cell 3
      have s4 := g2.cell 4
      have u0 := g2.frozen 0
      have u1 := g2.frozen 1
      have u2 := g2.frozen 2
      have u3 := g2.frozen 3
      have u4 := g2.frozen 4
      have q0 := g4.cell 0
      have q1 := g4.cell 1
      have q2 := g4.cell 2
      have q3 := g4.cell 3
      have q4 := g4.cell 4
      simp only [List.getElem?_cons_zero, List.getElem?_cons_succ] at s0 s1 s2 s3 s4 q0 q1 q2 q3 q4
      go_wp2
      have hN := g2.five (.slice Am acc.length cm) (.int .i64 0) (.int .i64 0) (.int .i64 0) (.slice none 0 0)
      have r0 := hN.cell 0
      have r1 := hN.cell 1
      have r2 := hN.cell 2
      have r3 := hN.cell 3
      have r4 := hN.cell 4
      simp only [List.getElem?_cons_zero, List.getElem?_cons_succ] at r0 r1 r2 r3 r4
      refine bodyPost_ret (v := .tuple #[.agg #[.slice Am acc.length cm, .int .i64 0, .int .i64 0, .int .i64 0, .slice none 0 0], .bool false]) (by simp [results, Try.results58, go_sem, r0, r1, r2, r3, r4]) rfl ?_
      rw [HRN.out]
      exact DecRes.no _ (Keeps.five hk (Nat.le_refl _) _ _ _ _ _) rfl
    | true =>
      obtain ⟨rest, hB, hoct, hrl, hn, hal, hM⟩ := hyes rfl
      obtain ⟨A1, c1, rfl, hB1, hB2, hB3, hB4, hB5, hB6⟩ := hB
      obtain ⟨W4, hW4⟩ : ∃ W4, wr.alloc (.cells #[.int .u8 10] 5) = W4 := ⟨_, rfl⟩
      have hk4 : Keeps wr W4 := hW4 ▸ (Below.refl _ _).alloc (Nat.le_refl _) _
      have hnl : W4.cell? ⟨wr.heap.size, 0, none⟩ = some (.int .u8 10) := hW4 ▸ (Own.new wr 5 [.int .u8 10]).cell 0
      have HBS : Hid (BSl W4 w.heap.size (.slice A1 rest.length c1) rest) := Lib.hid (BSl.below ⟨A1, c1, rfl, hB1, hB2, hB3, hB4, hB5, hB6⟩ (hk4.mono hk.size))
      have HCUT := Lib.hid (bcut_any HBS.out hoct (by omega) hnl)
      obtain ⟨n', rfl⟩ : ∃ n', gk = n' + 1 := ⟨gk - 1, by omega⟩
      have HM := Lib.hid hM
      have HOC := Lib.hid hoct
      have hgl := g4.lt
      replace g2 := g2.below hk4
      replace g4 := g4.below hk4
      replace g5 := g5.keeps hk4
      have hk0 := hk
      replace hk := hk.trans' hk4
      have hrI : (rest.length : Int) ≤ 1000000 := by omega
      have HW4 := Lib.hid hW4
      have HN := Lib.hid hn
      clear hM hoct hyes hno hB4 hB5 hB6 hW4 hnl hk4 hn
      cases hx : idx 10 rest with
      | none =>
        rw [hx] at HCUT
        have HRN : Hid (R = none) := Lib.hid (by rw [HDC.out, HM.out, metaP, hx])
        clear hx
        simp only [cutR] at HCUT
        have s0 := g2.cell 0
        have s1 := g2.cell 1
        have s2 := g2.cell 2
        have s3 := g2.cell 3
        have s4 := g2.cell 4
        have u0 := g2.frozen 0
        have u1 := g2.frozen 1
        have u2 := g2.frozen 2
        have u3 := g2.frozen 3
        have u4 := g2.frozen 4
        have q0 := g4.cell 0
        have q1 := g4.cell 1
        have q2 := g4.cell 2
        have q3 := g4.cell 3
        have q4 := g4.cell 4
        simp only [List.getElem?_cons_zero, List.getElem?_cons_succ] at s0 s1 s2 s3 s4 q0 q1 q2 q3 q4
        go_wp2_with fail
        rw [HW4.out]
        refine HCUT.out.mono ?_
        rintro e w5 ⟨rfl, q, rfl⟩
        replace g2 := g2.drewN q
        replace hk := below_drewN hk q
        go_wp2
        have hN := g2.five (.slice Am acc.length cm) (.int .i64 0) (.int .i64 0) (.int .i64 0) (.slice none 0 0)
        have r0 := hN.cell 0
        have r1 := hN.cell 1
        have r2 := hN.cell 2
        have r3 := hN.cell 3
        have r4 := hN.cell 4
        simp only [List.getElem?_cons_zero, List.getElem?_cons_succ] at r0 r1 r2 r3 r4
        refine bodyPost_ret (v := .tuple #[.agg #[.slice Am acc.length cm, .int .i64 0, .int .i64 0, .int .i64 0, .slice none 0 0], .bool false]) (by simp [results, Try.results58, go_sem, r0, r1, r2, r3, r4]) rfl ?_
        rw [HRN.out]
        exact DecRes.no _ (Keeps.five hk (Nat.le_refl _) _ _ _ _ _) rfl
      | some i =>
        rw [hx] at HCUT
        simp only [cutR] at HCUT
        have hil := idx_lt hx
        have hiI : (i : Int) < rest.length := by omega
        rcases Nat.eq_zero_or_pos i with rfl | hi0
        · have HM2 : Hid (M = some (acc, rest.drop 1)) := Lib.hid (by rw [HM.out, metaP, hx]; rfl)
          have HR2 : Hid (R = bodyP acc (rest.drop 1)) := Lib.hid (by rw [HDC.out, HM2.out])
          have HB2 : Hid (BSl W4 w.heap.size (Lib.fromV A1 rest.length c1 (0 + 1)) (rest.drop 1)) := Lib.hid (HBS.out.from (by omega))
          have hdl : (rest.drop 1).length ≤ 1000000 := by rw [List.length_drop]; omega
          have hdo : Oct (rest.drop 1) := fun x hx => HOC.out x (List.mem_of_mem_drop hx)
          generalize rest.drop 1 = rest2 at *
          have HDO := Lib.hid hdo
          clear hx HM HBS hdo hiI hil
          obtain ⟨A2, c2, eF, j1, j2, j3, j4, j5, j6⟩ := HB2.out
          have HJ4 := Lib.hid j4
          have HJ5 := Lib.hid j5
          have HJ6 := Lib.hid j6
          rw [eF] at HCUT HB2
          clear eF j4 j5 j6
          by_cases h12 : rest2.length < 12
          · have HRN : Hid (R = none) := Lib.hid (by rw [HR2.out, bodyP, if_pos h12])
            have s0 := g2.cell 0
            have s1 := g2.cell 1
            have s2 := g2.cell 2
            have s3 := g2.cell 3
            have s4 := g2.cell 4
            have u0 := g2.frozen 0
            have u1 := g2.frozen 1
            have u2 := g2.frozen 2
            have u3 := g2.frozen 3
            have u4 := g2.frozen 4
            have q0 := g4.cell 0
            have q1 := g4.cell 1
            have q2 := g4.cell 2
            have q3 := g4.cell 3
            have q4 := g4.cell 4
            simp only [List.getElem?_cons_zero, List.getElem?_cons_succ] at s0 s1 s2 s3 s4 q0 q1 q2 q3 q4
            go_wp2_with fail
            rw [HW4.out]
            refine HCUT.out.mono ?_
            rintro e w5 ⟨rfl, q, rfl⟩
            replace g2 := g2.drewN q
            replace hk := below_drewN hk q
            go_wp2
            have hN := g2.five (.slice Am acc.length cm) (.int .i64 0) (.int .i64 0) (.int .i64 0) (.slice none 0 0)
            have r0 := hN.cell 0
            have r1 := hN.cell 1
            have r2 := hN.cell 2
            have r3 := hN.cell 3
            have r4 := hN.cell 4
            simp only [List.getElem?_cons_zero, List.getElem?_cons_succ] at r0 r1 r2 r3 r4
            refine bodyPost_ret (v := .tuple #[.agg #[.slice Am acc.length cm, .int .i64 0, .int .i64 0, .int .i64 0, .slice none 0 0], .bool false]) (by simp [results, Try.results58, go_sem, r0, r1, r2, r3, r4]) rfl ?_
            rw [HRN.out]
            exact DecRes.no _ (Keeps.five hk (Nat.le_refl _) _ _ _ _ _) rfl
          · have hlI2 : (12 : Int) ≤ rest2.length ∧ (rest2.length : Int) ≤ 1000000 := by omega
            have HG5 := Lib.hid g5
            obtain ⟨bb, oo, hbb⟩ : ∃ b o, A2 = some ⟨b, o, none⟩ := by
              obtain ⟨b, o, e, -⟩ := HJ4.out (by omega)
              exact ⟨b, o, e⟩
            subst hbb
            have hc2I : (rest2.length : Int) ≤ c2 := by omega
            go_wp2_with fail
            rw [HW4.out]
            refine HCUT.out.mono ?_
            rintro e w5 ⟨rfl, q, rfl⟩
            obtain ⟨W5, hW5⟩ : ∃ W5, W4.drewN q = W5 := ⟨_, rfl⟩
            have f2 : Own W5 w.heap.size 27 z27 := hW5 ▸ g2
            have f4 : Own W5 b4 27 [.slice Am acc.length cm, .int .i64 0, .int .i64 0, .int .i64 0, .slice none 0 0] := hW5 ▸ g4
            have f5 : W5.ownsRow Wb.heap.size 57 2 (.slice Am acc.length cm) acc.length (entVs acc) := hW5 ▸ g5
            have fk : Keeps w W5 := hW5 ▸ below_drewN hk q
            have HBW : Hid (BSl W5 w.heap.size (.slice (some ⟨bb, oo, none⟩) rest2.length c2) rest2) := Lib.hid (hW5 ▸ HB2.out)
            rw [hW5]
            clear g2 g4 g5 hk HB2 HCUT hW5 HJ4 HG5
            go_wp2
            obtain ⟨W7, hW7⟩ : ∃ W7, W5.alloc (.cells #[.int .i64 0, .int .i64 0, .int .i64 0] 115) = W7 := ⟨_, rfl⟩
            have h11 : Own W7 W5.heap.size 115 [.int .i64 0, .int .i64 0, .int .i64 0] := hW7 ▸ Own.new W5 _ _
            have hk7 : Keeps W5 W7 := hW7 ▸ (Below.refl _ _).alloc (Nat.le_refl _) _
            rw [hW7]
            clear hW7
            have HBX : Hid (∀ u, Keeps W5 u → BRow u (some ⟨bb, oo, none⟩) rest2) := Lib.hid fun u hu => by
              obtain ⟨A', c', e, -, -, -, r4, -, -⟩ := HBW.out
              cases e
              exact r4.below hu
            go_loopw [67] (fun i wr => ∃ j : Nat, j ≤ 3 ∧ i = .int .i64 (j : Nat) ∧ Own wr W5.heap.size 115 [.int .i64 ((if 0 < j then szOf rest2 0 else 0 : Nat) : Int), .int .i64 ((if 1 < j then szOf rest2 1 else 0 : Nat) : Int), .int .i64 ((if 2 < j then szOf rest2 2 else 0 : Nat) : Int)] ∧ Keeps W5 wr) (fun i _ => 3 - (intOf i).toNat)
            case atStart => exact ⟨0, by omega, rfl, h11, hk7⟩
            case round =>
              clear h11 hk7
              obtain ⟨j, hj, rfl, f11, fk11⟩ := hrel
              rcases (show j = 0 ∨ j = 1 ∨ j = 2 ∨ j = 3 by omega) with rfl | rfl | rfl | rfl
              · skip
                go_wp2
                go_loopw [78] (fun i wr => ∃ t : Nat, t ≤ 4 ∧ i = .int .i64 (t : Nat) ∧ Own wr W5.heap.size 115 [.int .i64 (be4 ((rest2.drop (4 * 0)).take t) : Nat), .int .i64 0, .int .i64 0] ∧ Keeps W5 wr) (fun i _ => 4 - (intOf i).toNat)
                case atStart => exact ⟨0, by omega, rfl, f11, fk11⟩
                case round =>
                  clear f11 fk11
                  obtain ⟨t, ht, rfl, g11, gk11⟩ := hrel
                  have d0 := g11.cell 0
                  have d1 := g11.cell 1
                  have d2 := g11.cell 2
                  have e0 := g11.frozen 0
                  simp only [List.getElem?_cons_zero, List.getElem?_cons_succ] at d0 d1 d2
                  by_cases htl : t < 4
                  · have htI : (t : Int) < 4 := by omega
                    obtain ⟨b', o', e', cx⟩ := BRow.at (HBX.out wr gk11) (j := 4 * 0 + t) (by omega)
                    cases e'
                    have hx := HDO.out.get (4 * 0 + t)
                    have hv := be4_lt (l := (rest2.drop (4 * 0))) (fun x hx => HDO.out x (List.mem_of_mem_drop hx)) t (by rw [List.length_drop]; omega)
                    have hs : be4 ((rest2.drop (4 * 0)).take (t + 1)) = 256 * be4 ((rest2.drop (4 * 0)).take t) + rest2.getD (4 * 0 + t) 0 := by
                      rw [List.take_succ_eq_append_getElem (by rw [List.length_drop]; omega), be4_snoc, drop_get]
                    have hp : 256 ^ t ≤ 16777216 := Nat.le_trans (Nat.pow_le_pow_right (by omega) (show t ≤ 3 by omega)) (by omega)
                    generalize rest2.getD (4 * 0 + t) 0 = x at *
                    generalize be4 ((rest2.drop (4 * 0)).take t) = v at *
                    have hvI : (v : Int) < 16777216 := by omega
                    have hor := shl8_or (v := v) (b := x) (by omega) hx
                    have HS := Lib.hid hs
                    have hxI : (x : Int) < 256 := by omega
                    rw [← Nat.add_assoc] at cx
                    try simp only [Nat.mul_zero] at cx
                    try simp only [Nat.mul_one] at cx
                    try simp only [Nat.reduceMul] at cx
                    try simp only [Nat.add_zero] at cx
                    clear hs hp hv hx
                    go_wp2
                    go_roundw
                    case rel => exact ⟨t + 1, by omega, by go_num, by rw [HS.out]; exact g11.set 0 _, gk11.setCell (p := ⟨W5.heap.size, 0, none⟩) (Nat.le_refl _) _⟩
                    case measure => simp [intOf]; omega
                  · obtain rfl : t = 4 := by omega
                    go_wp2
                    go_roundw
                    case rel => exact ⟨0 + 1, by omega, by go_num, g11, gk11⟩
                    case measure => simp [intOf]
              · skip
                go_wp2
                go_loopw [78] (fun i wr => ∃ t : Nat, t ≤ 4 ∧ i = .int .i64 (t : Nat) ∧ Own wr W5.heap.size 115 [.int .i64 (szOf rest2 0 : Nat), .int .i64 (be4 ((rest2.drop (4 * 1)).take t) : Nat), .int .i64 0] ∧ Keeps W5 wr) (fun i _ => 4 - (intOf i).toNat)
                case atStart => exact ⟨0, by omega, rfl, f11, fk11⟩
                case round =>
                  clear f11 fk11
                  obtain ⟨t, ht, rfl, g11, gk11⟩ := hrel
                  have d0 := g11.cell 0
                  have d1 := g11.cell 1
                  have d2 := g11.cell 2
                  have e0 := g11.frozen 1
                  simp only [List.getElem?_cons_zero, List.getElem?_cons_succ] at d0 d1 d2
                  by_cases htl : t < 4
                  · have htI : (t : Int) < 4 := by omega
                    obtain ⟨b', o', e', cx⟩ := BRow.at (HBX.out wr gk11) (j := 4 * 1 + t) (by omega)
                    cases e'
                    have hx := HDO.out.get (4 * 1 + t)
                    have hv := be4_lt (l := (rest2.drop (4 * 1))) (fun x hx => HDO.out x (List.mem_of_mem_drop hx)) t (by rw [List.length_drop]; omega)
                    have hs : be4 ((rest2.drop (4 * 1)).take (t + 1)) = 256 * be4 ((rest2.drop (4 * 1)).take t) + rest2.getD (4 * 1 + t) 0 := by
                      rw [List.take_succ_eq_append_getElem (by rw [List.length_drop]; omega), be4_snoc, drop_get]
                    have hp : 256 ^ t ≤ 16777216 := Nat.le_trans (Nat.pow_le_pow_right (by omega) (show t ≤ 3 by omega)) (by omega)
                    generalize rest2.getD (4 * 1 + t) 0 = x at *
                    generalize be4 ((rest2.drop (4 * 1)).take t) = v at *
                    have hvI : (v : Int) < 16777216 := by omega
                    have hor := shl8_or (v := v) (b := x) (by omega) hx
                    have HS := Lib.hid hs
                    have hxI : (x : Int) < 256 := by omega
                    rw [← Nat.add_assoc] at cx
                    try simp only [Nat.mul_zero] at cx
                    try simp only [Nat.mul_one] at cx
                    try simp only [Nat.reduceMul] at cx
                    try simp only [Nat.add_zero] at cx
                    clear hs hp hv hx
                    go_wp2
                    go_roundw
                    case rel => exact ⟨t + 1, by omega, by go_num, by rw [HS.out]; exact g11.set 1 _, gk11.setCell (p := ⟨W5.heap.size, 1, none⟩) (Nat.le_refl _) _⟩
                    case measure => simp [intOf]; omega
                  · obtain rfl : t = 4 := by omega
                    go_wp2
                    go_roundw
                    case rel => exact ⟨1 + 1, by omega, by go_num, g11, gk11⟩
                    case measure => simp [intOf]
              · skip
                go_wp2
                go_loopw [78] (fun i wr => ∃ t : Nat, t ≤ 4 ∧ i = .int .i64 (t : Nat) ∧ Own wr W5.heap.size 115 [.int .i64 (szOf rest2 0 : Nat), .int .i64 (szOf rest2 1 : Nat), .int .i64 (be4 ((rest2.drop (4 * 2)).take t) : Nat)] ∧ Keeps W5 wr) (fun i _ => 4 - (intOf i).toNat)
                case atStart => exact ⟨0, by omega, rfl, f11, fk11⟩
                case round =>
                  clear f11 fk11
                  obtain ⟨t, ht, rfl, g11, gk11⟩ := hrel
                  have d0 := g11.cell 0
                  have d1 := g11.cell 1
                  have d2 := g11.cell 2
                  have e0 := g11.frozen 2
                  simp only [List.getElem?_cons_zero, List.getElem?_cons_succ] at d0 d1 d2
                  by_cases htl : t < 4
                  · have htI : (t : Int) < 4 := by omega
                    obtain ⟨b', o', e', cx⟩ := BRow.at (HBX.out wr gk11) (j := 4 * 2 + t) (by omega)
                    cases e'
                    have hx := HDO.out.get (4 * 2 + t)
                    have hv := be4_lt (l := (rest2.drop (4 * 2))) (fun x hx => HDO.out x (List.mem_of_mem_drop hx)) t (by rw [List.length_drop]; omega)
                    have hs : be4 ((rest2.drop (4 * 2)).take (t + 1)) = 256 * be4 ((rest2.drop (4 * 2)).take t) + rest2.getD (4 * 2 + t) 0 := by
                      rw [List.take_succ_eq_append_getElem (by rw [List.length_drop]; omega), be4_snoc, drop_get]
                    have hp : 256 ^ t ≤ 16777216 := Nat.le_trans (Nat.pow_le_pow_right (by omega) (show t ≤ 3 by omega)) (by omega)
                    generalize rest2.getD (4 * 2 + t) 0 = x at *
                    generalize be4 ((rest2.drop (4 * 2)).take t) = v at *
                    have hvI : (v : Int) < 16777216 := by omega
                    have hor := shl8_or (v := v) (b := x) (by omega) hx
                    have HS := Lib.hid hs
                    have hxI : (x : Int) < 256 := by omega
                    rw [← Nat.add_assoc] at cx
                    try simp only [Nat.mul_zero] at cx
                    try simp only [Nat.mul_one] at cx
                    try simp only [Nat.reduceMul] at cx
                    try simp only [Nat.add_zero] at cx
                    clear hs hp hv hx
                    go_wp2
                    go_roundw
                    case rel => exact ⟨t + 1, by omega, by go_num, by rw [HS.out]; exact g11.set 2 _, gk11.setCell (p := ⟨W5.heap.size, 2, none⟩) (Nat.le_refl _) _⟩
                    case measure => simp [intOf]; omega
                  · obtain rfl : t = 4 := by omega
                    go_wp2
                    go_roundw
                    case rel => exact ⟨2 + 1, by omega, by go_num, g11, gk11⟩
                    case measure => simp [intOf]
              · simp only [Nat.reduceLT, if_true] at f11
                obtain ⟨W0, hW0⟩ : ∃ x, szOf rest2 0 = x := ⟨_, rfl⟩
                obtain ⟨H0, hH0⟩ : ∃ x, szOf rest2 1 = x := ⟨_, rfl⟩
                obtain ⟨m0, hm0⟩ : ∃ x, szOf rest2 2 = x := ⟨_, rfl⟩
                rw [hW0, hH0, hm0] at f11
                have c0 := f11.cell 0
                have c1 := f11.cell 1
                have c2f := f11.cell 2
                simp only [List.getElem?_cons_zero, List.getElem?_cons_succ] at c0 c1 c2f
                have g2 : Own wr w.heap.size 27 z27 := f2.below fk11
                have g4 : Own wr b4 27 [.slice Am acc.length cm, .int .i64 0, .int .i64 0, .int .i64 0, .slice none 0 0] := f4.below fk11
                have g5 := f5.keeps fk11
                have hk := fk.trans' fk11
                clear f2 f4 f5
                by_cases t0 : W0 < 1
                · have HRN : Hid (R = none) := Lib.hid (by rw [HR2.out, bodyP, if_neg h12, if_pos (by rw [hW0, hH0]; omega)])
                  have s0 := g2.cell 0
                  have s1 := g2.cell 1
                  have s2 := g2.cell 2
                  have s3 := g2.cell 3
                  have s4 := g2.cell 4
                  have u0 := g2.frozen 0
                  have u1 := g2.frozen 1
                  have u2 := g2.frozen 2
                  have u3 := g2.frozen 3
                  have u4 := g2.frozen 4
                  have q0 := g4.cell 0
                  have q1 := g4.cell 1
                  have q2 := g4.cell 2
                  have q3 := g4.cell 3
                  have q4 := g4.cell 4
                  simp only [List.getElem?_cons_zero, List.getElem?_cons_succ] at s0 s1 s2 s3 s4 q0 q1 q2 q3 q4
                  have t0I : decide (((W0 < 1 : Prop))) = true := decide_eq_true t0
                  go_wp2
                  have hN := g2.five (.slice Am acc.length cm) (.int .i64 0) (.int .i64 0) (.int .i64 0) (.slice none 0 0)
                  have r0 := hN.cell 0
                  have r1 := hN.cell 1
                  have r2 := hN.cell 2
                  have r3 := hN.cell 3
                  have r4 := hN.cell 4
                  simp only [List.getElem?_cons_zero, List.getElem?_cons_succ] at r0 r1 r2 r3 r4
                  refine bodyPost_ret (v := .tuple #[.agg #[.slice Am acc.length cm, .int .i64 0, .int .i64 0, .int .i64 0, .slice none 0 0], .bool false]) (by simp [results, Try.results58, go_sem, r0, r1, r2, r3, r4]) rfl ?_
                  rw [HRN.out]
                  exact DecRes.no _ (Keeps.five hk (Nat.le_refl _) _ _ _ _ _) rfl
                by_cases t1 : 64 < W0
                · have HRN : Hid (R = none) := Lib.hid (by rw [HR2.out, bodyP, if_neg h12, if_pos (by rw [hW0, hH0]; omega)])
                  have s0 := g2.cell 0
                  have s1 := g2.cell 1
                  have s2 := g2.cell 2
                  have s3 := g2.cell 3
                  have s4 := g2.cell 4
                  have u0 := g2.frozen 0
                  have u1 := g2.frozen 1
                  have u2 := g2.frozen 2
                  have u3 := g2.frozen 3
                  have u4 := g2.frozen 4
                  have q0 := g4.cell 0
                  have q1 := g4.cell 1
                  have q2 := g4.cell 2
                  have q3 := g4.cell 3
                  have q4 := g4.cell 4
                  simp only [List.getElem?_cons_zero, List.getElem?_cons_succ] at s0 s1 s2 s3 s4 q0 q1 q2 q3 q4
                  have t1I : decide (((64 < W0 : Prop))) = true := decide_eq_true t1
                  go_wp2
                  have hN := g2.five (.slice Am acc.length cm) (.int .i64 0) (.int .i64 0) (.int .i64 0) (.slice none 0 0)
                  have r0 := hN.cell 0
                  have r1 := hN.cell 1
                  have r2 := hN.cell 2
                  have r3 := hN.cell 3
                  have r4 := hN.cell 4
                  simp only [List.getElem?_cons_zero, List.getElem?_cons_succ] at r0 r1 r2 r3 r4
                  refine bodyPost_ret (v := .tuple #[.agg #[.slice Am acc.length cm, .int .i64 0, .int .i64 0, .int .i64 0, .slice none 0 0], .bool false]) (by simp [results, Try.results58, go_sem, r0, r1, r2, r3, r4]) rfl ?_
                  rw [HRN.out]
                  exact DecRes.no _ (Keeps.five hk (Nat.le_refl _) _ _ _ _ _) rfl
                by_cases t2 : H0 < 1
                · have HRN : Hid (R = none) := Lib.hid (by rw [HR2.out, bodyP, if_neg h12, if_pos (by rw [hW0, hH0]; omega)])
                  have s0 := g2.cell 0
                  have s1 := g2.cell 1
                  have s2 := g2.cell 2
                  have s3 := g2.cell 3
                  have s4 := g2.cell 4
                  have u0 := g2.frozen 0
                  have u1 := g2.frozen 1
                  have u2 := g2.frozen 2
                  have u3 := g2.frozen 3
                  have u4 := g2.frozen 4
                  have q0 := g4.cell 0
                  have q1 := g4.cell 1
                  have q2 := g4.cell 2
                  have q3 := g4.cell 3
                  have q4 := g4.cell 4
                  simp only [List.getElem?_cons_zero, List.getElem?_cons_succ] at s0 s1 s2 s3 s4 q0 q1 q2 q3 q4
                  have t2I : decide (((H0 < 1 : Prop))) = true := decide_eq_true t2
                  go_wp2
                  have hN := g2.five (.slice Am acc.length cm) (.int .i64 0) (.int .i64 0) (.int .i64 0) (.slice none 0 0)
                  have r0 := hN.cell 0
                  have r1 := hN.cell 1
                  have r2 := hN.cell 2
                  have r3 := hN.cell 3
                  have r4 := hN.cell 4
                  simp only [List.getElem?_cons_zero, List.getElem?_cons_succ] at r0 r1 r2 r3 r4
                  refine bodyPost_ret (v := .tuple #[.agg #[.slice Am acc.length cm, .int .i64 0, .int .i64 0, .int .i64 0, .slice none 0 0], .bool false]) (by simp [results, Try.results58, go_sem, r0, r1, r2, r3, r4]) rfl ?_
                  rw [HRN.out]
                  exact DecRes.no _ (Keeps.five hk (Nat.le_refl _) _ _ _ _ _) rfl
                by_cases t3 : 64 < H0
                · have HRN : Hid (R = none) := Lib.hid (by rw [HR2.out, bodyP, if_neg h12, if_pos (by rw [hW0, hH0]; omega)])
                  have s0 := g2.cell 0
                  have s1 := g2.cell 1
                  have s2 := g2.cell 2
                  have s3 := g2.cell 3
                  have s4 := g2.cell 4
                  have u0 := g2.frozen 0
                  have u1 := g2.frozen 1
                  have u2 := g2.frozen 2
                  have u3 := g2.frozen 3
                  have u4 := g2.frozen 4
                  have q0 := g4.cell 0
                  have q1 := g4.cell 1
                  have q2 := g4.cell 2
                  have q3 := g4.cell 3
                  have q4 := g4.cell 4
                  simp only [List.getElem?_cons_zero, List.getElem?_cons_succ] at s0 s1 s2 s3 s4 q0 q1 q2 q3 q4
                  have t3I : decide (((64 < H0 : Prop))) = true := decide_eq_true t3
                  go_wp2
                  have hN := g2.five (.slice Am acc.length cm) (.int .i64 0) (.int .i64 0) (.int .i64 0) (.slice none 0 0)
                  have r0 := hN.cell 0
                  have r1 := hN.cell 1
                  have r2 := hN.cell 2
                  have r3 := hN.cell 3
                  have r4 := hN.cell 4
                  simp only [List.getElem?_cons_zero, List.getElem?_cons_succ] at r0 r1 r2 r3 r4
                  refine bodyPost_ret (v := .tuple #[.agg #[.slice Am acc.length cm, .int .i64 0, .int .i64 0, .int .i64 0, .slice none 0 0], .bool false]) (by simp [results, Try.results58, go_sem, r0, r1, r2, r3, r4]) rfl ?_
                  rw [HRN.out]
                  exact DecRes.no _ (Keeps.five hk (Nat.le_refl _) _ _ _ _ _) rfl
                have hF : DecF w wr Wb.heap.size b4 W5.heap.size Am cm acc W0 H0 m0 := ⟨g2, g4, f11, g5, hk⟩
                have HB12 : Hid (BSl wr w.heap.size (Lib.fromV (some ⟨bb, oo, none⟩) rest2.length c2 12) (rest2.drop 12)) := Lib.hid (BSl.from (HBW.out.kept fk hk) (by omega))
                have HRP : Hid (R = match rowsP W0 H0 (rest2.drop 12) [] with
                  | none => none
                  | some l => if restC W0 H0 m0 (ints l) = 0 then some (acc, W0, H0, m0, l) else none) := Lib.hid (by rw [HR2.out, bodyP, if_neg h12, hW0, hH0, hm0, if_neg (by omega)]; cases rowsP W0 H0 (rest2.drop 12) [] <;> rfl)
                have hdo12 : Oct (rest2.drop 12) := fun x hx => HDO.out x (List.mem_of_mem_drop hx)
                have hl12 : (rest2.drop 12).length ≤ 1000000 := by rw [List.length_drop]; omega
                have hfrom := fun u => run_from u (b := bb) (o := oo) (n := rest2.length) (c := c2) (j := 12) (z := 12) rfl (by omega)
                obtain ⟨v12, hv12⟩ : ∃ v, Lib.fromV (some ⟨bb, oo, none⟩) rest2.length c2 12 = v := ⟨_, rfl⟩
                rw [hv12] at HB12 hfrom
                generalize rest2.drop 12 = r12 at *
                have HDO12 := Lib.hid hdo12
                have HF0 := Lib.hid hF
                clear HBW HBX HR2 HDO hW0 hH0 hm0 f11 g2 g4 g5 hv12 hdo12 hF
                obtain ⟨Dw, hDw⟩ : ∃ d, wr.heap.size = d := ⟨_, rfl⟩
                have hwD : w.heap.size ≤ Dw := by have := HF0.out.keeps.size; omega
                have hWI : (W0 : Int) ≤ 64 := by omega
                have hHI : (H0 : Int) ≤ 64 := by omega
                go_wp2
                clear t0 t1 t2 t3 c0 c1 c2f h12
                go_loopw [116, 5, 15] (fun i r o wr => ∃ (y : Nat) (rst acc2 : List Nat), y ≤ H0 ∧ i = .int .i64 (y : Nat) ∧ BSl wr w.heap.size r rst ∧ Oct rst ∧ rst.length ≤ 1000000 ∧ wr.ownsRow Dw 3 1 o acc2.length (i64s (ints acc2)) ∧ acc2.length = y * W0 ∧ DecF w wr Wb.heap.size b4 W5.heap.size Am cm acc W0 H0 m0 ∧ Dw ≤ wr.heap.size ∧ Hid (rowsP W0 H0 r12 [] = rowsP W0 (H0 - y) rst acc2)) (fun i _ _ _ => H0 - (intOf i).toNat)
                case atStart => exact ⟨0, r12, [], Nat.zero_le _, rfl, HB12.out, HDO12.out, hl12, World.ownsRow_nil _ _ _ _, by simp, HF0.out, by omega, Lib.hid rfl⟩
                case round =>
                  clear hl12 hfrom
                  obtain ⟨y, rst, acc2, hy, rfl, hB, hoct, hrl2, hrow, hal2, hF, hD9, HRE⟩ := hrel
                  have HBr := Lib.hid hB
                  obtain ⟨W9, hW9⟩ : ∃ W, W = wr := ⟨_, rfl⟩
                  subst hW9
                  have g2 := hF.f2
                  have g4 := hF.f4
                  have g11 := hF.f11
                  have hk := hF.keeps
                  have c0 := g11.cell 0
                  have c1 := g11.cell 1
                  have c2f := g11.cell 2
                  simp only [List.getElem?_cons_zero, List.getElem?_cons_succ] at c0 c1 c2f
                  by_cases hyl : y < H0
                  · have hyI : (y : Int) < H0 := by omega
                    obtain ⟨h', hh'⟩ : ∃ h', H0 - y = h' + 1 := ⟨H0 - y - 1, by omega⟩
                    have hal : acc2.length + W0 ≤ 4096 := by
                      have h1 : (y + 1) * W0 ≤ 64 * 64 := Nat.mul_le_mul (by omega) (by omega)
                      rw [Nat.succ_mul] at h1
                      omega
                    rw [hh'] at HRE
                    obtain ⟨A3, c3, rfl, p1, p2, p3, p4, p5, p6⟩ := hB
                    rcases rst with _ | ⟨k, tl⟩
                    · have HRN : Hid (R = none) := Lib.hid (by rw [HRP.out, HRE.out, rowsP])
                      have s0 := g2.cell 0
                      have s1 := g2.cell 1
                      have s2 := g2.cell 2
                      have s3 := g2.cell 3
                      have s4 := g2.cell 4
                      have u0 := g2.frozen 0
                      have u1 := g2.frozen 1
                      have u2 := g2.frozen 2
                      have u3 := g2.frozen 3
                      have u4 := g2.frozen 4
                      have q0 := g4.cell 0
                      have q1 := g4.cell 1
                      have q2 := g4.cell 2
                      have q3 := g4.cell 3
                      have q4 := g4.cell 4
                      simp only [List.getElem?_cons_zero, List.getElem?_cons_succ] at s0 s1 s2 s3 s4 q0 q1 q2 q3 q4
                      simp only [List.length_nil]
                      go_wp2
                      have hN := g2.five (.slice Am acc.length cm) (.int .i64 0) (.int .i64 0) (.int .i64 0) (.slice none 0 0)
                      have r0 := hN.cell 0
                      have r1 := hN.cell 1
                      have r2 := hN.cell 2
                      have r3 := hN.cell 3
                      have r4 := hN.cell 4
                      simp only [List.getElem?_cons_zero, List.getElem?_cons_succ] at r0 r1 r2 r3 r4
                      refine bodyPost_ret (v := .tuple #[.agg #[.slice Am acc.length cm, .int .i64 0, .int .i64 0, .int .i64 0, .slice none 0 0], .bool false]) (by simp [results, Try.results58, go_sem, r0, r1, r2, r3, r4]) rfl ?_
                      rw [HRN.out]
                      exact DecRes.no _ (Keeps.five hk (Nat.le_refl _) _ _ _ _ _) rfl
                    · have hkb : k < 256 := hoct k List.mem_cons_self
                      have hot : Oct tl := fun x hx => hoct x (List.mem_cons_of_mem _ hx)
                      have htl : tl.length + 1 ≤ 1000000 := by simpa using hrl2
                      obtain ⟨b3, o3, e3, ck⟩ := p4.at (j := 0) (by simp)
                      subst e3
                      have ck : W9.cell? ⟨b3, o3, none⟩ = some (.int .u8 (k : Nat)) := by simpa using ck
                      obtain ⟨n, hn⟩ : ∃ n, tl.length + 1 = n := ⟨_, rfl⟩
                      have hn' : (k :: tl).length = n := hn
                      rw [hn'] at HBr
                      have hnI : (1 : Int) ≤ n ∧ (n : Int) ≤ 1000000 := by omega
                      have hkI : (k : Int) < 256 := by omega
                      rw [hn']
                      have HN := Lib.hid hn
                      clear hn hn' p1 p2 p3 p4 p5 p6 hoct hrl2
                      by_cases hk16 : 16 < k
                      · have HRN : Hid (R = none) := Lib.hid (by rw [HRP.out, HRE.out, rowsP, if_pos hk16])
                        have hkJ : (16 : Int) < k := by omega
                        have s0 := g2.cell 0
                        have s1 := g2.cell 1
                        have s2 := g2.cell 2
                        have s3 := g2.cell 3
                        have s4 := g2.cell 4
                        have u0 := g2.frozen 0
                        have u1 := g2.frozen 1
                        have u2 := g2.frozen 2
                        have u3 := g2.frozen 3
                        have u4 := g2.frozen 4
                        have q0 := g4.cell 0
                        have q1 := g4.cell 1
                        have q2 := g4.cell 2
                        have q3 := g4.cell 3
                        have q4 := g4.cell 4
                        simp only [List.getElem?_cons_zero, List.getElem?_cons_succ] at s0 s1 s2 s3 s4 q0 q1 q2 q3 q4
                        go_wp2
                        have hN := g2.five (.slice Am acc.length cm) (.int .i64 0) (.int .i64 0) (.int .i64 0) (.slice none 0 0)
                        have r0 := hN.cell 0
                        have r1 := hN.cell 1
                        have r2 := hN.cell 2
                        have r3 := hN.cell 3
                        have r4 := hN.cell 4
                        simp only [List.getElem?_cons_zero, List.getElem?_cons_succ] at r0 r1 r2 r3 r4
                        refine bodyPost_ret (v := .tuple #[.agg #[.slice Am acc.length cm, .int .i64 0, .int .i64 0, .int .i64 0, .slice none 0 0], .bool false]) (by simp [results, Try.results58, go_sem, r0, r1, r2, r3, r4]) rfl ?_
                        rw [HRN.out]
                        exact DecRes.no _ (Keeps.five hk (Nat.le_refl _) _ _ _ _ _) rfl
                      · have hkJ : (k : Int) ≤ 16 := by omega
                        have HRE2 : Hid (rowsP W0 H0 r12 [] = if (rvals tl k W0 (0, false) acc2).2.2 then none else rowsP W0 h' (tl.drop (((rvals tl k W0 (0, false) acc2).2.1 + 7) / 8)) (rvals tl k W0 (0, false) acc2).1) := Lib.hid (by rw [HRE.out, rowsP, if_neg hk16])
                        have hB1 : BSl W9 w.heap.size (Lib.fromV (some ⟨b3, o3, none⟩) n c3 1) tl := by
                          have h1 : (k :: tl).length = n := HN.out
                          have := HBr.out
                          rw [← h1] at this
                          have := BSl.from this (j := 1) (by simp)
                          rw [h1] at this
                          simpa using this
                        have hfrom1 := fun u => run_from u (b := b3) (o := o3) (n := n) (c := c3) (j := 1) (z := 1) rfl (by omega)
                        have HB1 := Lib.hid hB1
                        obtain ⟨A4, c4, e4, p1, p2, p3, p4, p5, p6⟩ := hB1
                        rw [e4] at hfrom1 HB1
                        clear p1 p2 p3 p4 p6 e4 HRE
                        have HU4 := Lib.hid p5
                        have HOT := Lib.hid hot
                        clear p5 hot
                        have hl11 := g11.lt
                        go_wp2
                        obtain ⟨i1, hi', hz0', hz1', hz2'⟩ := info_parts info_i64
                        go_loopw [134, 15] (fun i o wr2 => ∃ (x : Nat) (s : Nat × Bool) (acc3 : List Nat), x ≤ W0 ∧ i = .int .i64 (x : Nat) ∧ RdSt wr2 W9.heap.size A4 c4 tl s.1 s.2 ∧ s.1 ≤ 8 * tl.length ∧ wr2.ownsRow Dw 3 1 o acc3.length (i64s (ints acc3)) ∧ acc3.length = acc2.length + x ∧ DecF w wr2 Wb.heap.size b4 W5.heap.size Am cm acc W0 H0 m0 ∧ Hid (rvals tl k W0 (0, false) acc2 = rvals tl k (W0 - x) s acc3)) (fun i _ _ => W0 - (intOf i).toNat)
                        case atStart => exact ⟨0, (0, false), acc2, Nat.zero_le _, rfl, Own.new _ _ _, Nat.zero_le _, hrow.alloc _, rfl, hF.keep ((Below.refl _ _).alloc (Nat.le_refl _) _), Lib.hid rfl⟩
                        case round =>
                          clear c0 c1 c2f g2 g4 g11 ck hfrom1
                          obtain ⟨x, s, acc3, hx, rfl, hst, hs, hrow3, hal3, hF3, HV⟩ := hrel
                          obtain ⟨W10, hW10⟩ : ∃ W, W = wr := ⟨_, rfl⟩
                          subst hW10
                          have q4 := (HBr.out.kept hk hF3.keeps).row
                          have r4 := (HB1.out.kept hk hF3.keeps).row
                          have hk9 : w.heap.size ≤ W9.heap.size := hk.size
                          have hk0' := hk
                          obtain ⟨b', o', e', ck⟩ := q4.at (j := 0) (by simp)
                          cases e'
                          have ck : W10.cell? ⟨b3, o3, none⟩ = some (.int .u8 (k : Nat)) := by simpa using ck
                          clear q4
                          obtain ⟨A5, c5, rfl, -⟩ := hrow3.sl
                          by_cases hxl : x < W0
                          · have hxI : (x : Int) < W0 := by omega
                            have hUb : 0 < tl.length → Under W9.heap.size A4 := fun hp b o e => Nat.lt_of_lt_of_le (HU4.out hp b o e) hk9
                            have HC := Lib.hid (rcode_any hst r4 hUb HOT.out (by omega) hs k (by omega))
                            have HS2 := Lib.hid (rcode_le (k := k) hs)
                            have hV : rvals tl k (W0 - x) s acc3 = rvals tl k (W0 - (x + 1)) (rcode tl k s).2 (acc3 ++ [(rcode tl k s).1]) := by
                              rw [show W0 - x = (W0 - (x + 1)) + 1 by omega, rvals]
                            have HV2 : Hid (rvals tl k W0 (0, false) acc2 = rvals tl k (W0 - (x + 1)) (rcode tl k s).2 (acc3 ++ [(rcode tl k s).1])) := Lib.hid (by rw [HV.out, hV])
                            have hss : (s.1, s.2) = s := rfl
                            rw [hss] at HC
                            generalize (rcode tl k s).1 = cv at *
                            generalize (rcode tl k s).2 = s2 at *
                            have h3I : (acc3.length : Int) ≤ 4096 := by omega
                            have HA3 := Lib.hid hal3
                            clear hV hss HV hs r4 hal3
                            go_wp2_with fail
                            refine HC.out.mono ?_
                            rintro e w2 ⟨rfl, hst2, ht2⟩
                            have hrow4 := hrow3.turn ht2 (fun kk hkk => by
                              have := row_ne hrow3 hst (by decide)
                              simp only [List.mem_singleton]
                              rintro rfl
                              exact this (by simpa [blkOf, eq_comm] using hkk))
                            have hF4 := hF3.turn hst hk9 ht2
                            have hrow5 := hrow4.alloc (.cells #[.int .i64 (cv : Nat)] 3)
                            have hst5 := hst2.alloc (.cells #[.int .i64 (cv : Nat)] 3)
                            have hF5 := hF4.keep (wr' := w2.alloc (.cells #[.int .i64 (cv : Nat)] 3)) ((Below.refl _ _).alloc (Nat.le_refl _) _)
                            have hDw9 : Dw ≤ w2.heap.size := by have := hst.lt; have := ht2.size; omega
                            go_wp2_with (at_builtin; refine wpList_append_own _ rfl _ _ 23 rfl Dw 3 i1 (.int .i64 0) 1 8 Try.underlying23 hi' hz0' hz1' hz2' rfl (by decide) _ _ _ rfl hrow5 ⟨w2.heap.size, 0, none⟩ 1 1 [.int .i64 (cv : Nat)] rfl rfl (cell_one_new _ _ _) (by simp [Value.oneCell']) (by simp only [maxLen]; omega) (by omega) (by simp; omega) ?_; intro v' w3 hown3 hgrow hnil; obtain ⟨A6, c6, rfl, -⟩ := hown3.sl)
                            go_wp2
                            go_roundw
                            case rel => exact ⟨x + 1, s2, acc3 ++ [cv], by omega, by go_num, hst5.grown hgrow (row_ne hrow5 hst5 (by decide)), HS2.out, by rw [ints_snoc, i64s_snoc, List.length_append]; exact hown3, by have := HA3.out; simp; omega, hF5.grown hrow5 hwD hgrow, HV2⟩
                            case measure => simp [intOf]; omega
                          · obtain rfl : x = W0 := by omega
                            rw [Nat.sub_self, rvals] at HV
                            obtain ⟨at_, fl⟩ := s
                            have hrv := HV.out
                            have g2 := hF3.f2
                            have g4 := hF3.f4
                            replace hk := hF3.keeps
                            have k1 := hst.cell 1
                            have k2 := hst.cell 2
                            simp only [List.getElem?_cons_zero, List.getElem?_cons_succ] at k1 k2 hs hrv
                            rw [hrv] at HRE2
                            simp only at HRE2
                            clear hrv HV r4
                            cases fl with
                            | true =>
                              have HRN : Hid (R = none) := Lib.hid (by rw [HRP.out, HRE2.out, if_pos rfl])
                              have s0 := g2.cell 0
                              have s1 := g2.cell 1
                              have s2 := g2.cell 2
                              have s3 := g2.cell 3
                              have s4 := g2.cell 4
                              have u0 := g2.frozen 0
                              have u1 := g2.frozen 1
                              have u2 := g2.frozen 2
                              have u3 := g2.frozen 3
                              have u4 := g2.frozen 4
                              have q0 := g4.cell 0
                              have q1 := g4.cell 1
                              have q2 := g4.cell 2
                              have q3 := g4.cell 3
                              have q4 := g4.cell 4
                              simp only [List.getElem?_cons_zero, List.getElem?_cons_succ] at s0 s1 s2 s3 s4 q0 q1 q2 q3 q4
                              go_wp2
                              have hN := g2.five (.slice Am acc.length cm) (.int .i64 0) (.int .i64 0) (.int .i64 0) (.slice none 0 0)
                              have r0 := hN.cell 0
                              have r1 := hN.cell 1
                              have r2 := hN.cell 2
                              have r3 := hN.cell 3
                              have r4 := hN.cell 4
                              simp only [List.getElem?_cons_zero, List.getElem?_cons_succ] at r0 r1 r2 r3 r4
                              refine bodyPost_ret (v := .tuple #[.agg #[.slice Am acc.length cm, .int .i64 0, .int .i64 0, .int .i64 0, .slice none 0 0], .bool false]) (by simp [results, Try.results58, go_sem, r0, r1, r2, r3, r4]) rfl ?_
                              rw [HRN.out]
                              exact DecRes.no _ (Keeps.five hk (Nat.le_refl _) _ _ _ _ _) rfl
                            | false =>
                              obtain ⟨q, hq⟩ : ∃ q, (at_ + 7) / 8 = q := ⟨_, rfl⟩
                              have hq1 : q ≤ tl.length := by omega
                              have htd : ((at_ : Int) + 7).tdiv 8 = (q : Int) := by rw [Int.tdiv_eq_ediv_of_nonneg (by omega)]; omega
                              have hatI : (at_ : Int) ≤ 8000000 := by omega
                              have hqI : (q : Int) ≤ 1000000 := by omega
                              rw [hq] at HRE2
                              have HNq : 1 + q ≤ n := by have := HN.out; omega
                              have hfrom2 := fun u => run_from u (b := b3) (o := o3) (n := n) (c := c3) (j := 1 + q) (z := 1 + (q : Int)) (by omega) HNq
                              have HB2 : Hid (BSl W10 w.heap.size (Lib.fromV (some ⟨b3, o3, none⟩) n c3 (1 + q)) (tl.drop q)) := Lib.hid (by
                                have h1 : (k :: tl).length = n := HN.out
                                have := HBr.out.kept hk0' hF3.keeps
                                rw [← h1] at this
                                have := BSl.from this (j := 1 + q) (by simp; omega)
                                rw [h1, Nat.add_comm 1 q, List.drop_succ_cons, Nat.add_comm q 1] at this
                                exact this)
                              clear hq hq1 HNq
                              go_wp2
                              go_roundw
                              case rel => exact ⟨y + 1, tl.drop q, acc3, by omega, by go_num, HB2.out, fun x hx => HOT.out x (List.mem_of_mem_drop hx), by rw [List.length_drop]; omega, hrow3, by rw [Nat.succ_mul]; omega, hF3, by have := hst.lt; omega, Lib.hid (by rw [HRE2.out, if_neg (by simp)]; congr 1; omega)⟩
                              case measure => simp [intOf]; omega
                  · obtain rfl : y = H0 := by omega
                    rw [Nat.sub_self, rowsP] at HRE
                    have HR9 : Hid (R = if restC W0 y m0 (ints acc2) = 0 then some (acc, W0, y, m0, acc2) else none) := Lib.hid (by rw [HRP.out, HRE.out])
                    clear HRE HRP HBr hB
                    obtain ⟨A7, c7, rfl, -⟩ := hrow.sl
                    have hI : IRow W9 A7 (ints acc2) := IRow.of_own hrow (ints_length _).symm
                    have hl64 : acc2.length ≤ 4096 := by rw [hal2]; exact Nat.le_trans (Nat.mul_le_mul (show y ≤ 64 by omega) (show W0 ≤ 64 by omega)) (by omega)
                    clear hal2
                    by_cases hrc : restC W0 y m0 (ints acc2) = 0
                    · have HRS := Lib.hid (restore_yes (c := c7) hI W0 y m0 hrc)
                      have HRY : Hid (R = some (acc, W0, y, m0, acc2)) := Lib.hid (by rw [HR9.out, if_pos hrc])
                      rw [ints_length] at HRS
                      clear HR9 hrc hI
                      have hb4l := g4.lt
                      go_wp2_with fail
                      refine HRS.out.mono ?_
                      rintro e w3 ⟨V, rfl, hV, hk3⟩
                      obtain ⟨A8, c8, rfl, -⟩ := hV.sl
                      replace g2 := g2.below hk3
                      replace g4 := g4.below hk3
                      have hE3 := hF.ents.keeps hk3
                      have hk3' := hk.trans' hk3
                      have s0 := g2.cell 0
                      have s1 := g2.cell 1
                      have s2 := g2.cell 2
                      have s3 := g2.cell 3
                      have s4 := g2.cell 4
                      have u0 := g2.frozen 0
                      have u1 := g2.frozen 1
                      have u2 := g2.frozen 2
                      have u3 := g2.frozen 3
                      have u4 := g2.frozen 4
                      have q0 := g4.cell 0
                      have q1 := g4.cell 1
                      have q2 := g4.cell 2
                      have q3 := g4.cell 3
                      have q4 := g4.cell 4
                      simp only [List.getElem?_cons_zero, List.getElem?_cons_succ] at s0 s1 s2 s3 s4 q0 q1 q2 q3 q4
                      have q1f := g4.frozen 1
                      have q2f := g4.frozen 2
                      have q3f := g4.frozen 3
                      have q4f := g4.frozen 4
                      have hb42 := own_ne' HB4.out
                      go_wp2
                      have hg2 := (((g2.far (p := ⟨b4, 1, none⟩) hb42.2 (.int .i64 (W0 : Nat))).far (p := ⟨b4, 2, none⟩) hb42.2 (.int .i64 (y : Nat))).far (p := ⟨b4, 3, none⟩) hb42.2 (.int .i64 (m0 : Nat))).far (p := ⟨b4, 4, none⟩) hb42.2 (.slice A8 (restI W0 (m0 : Nat) (ints acc2)).length c8)
                      have hN := hg2.five (.slice Am acc.length cm) (.int .i64 (W0 : Nat)) (.int .i64 (y : Nat)) (.int .i64 (m0 : Nat)) (.slice A8 (restI W0 (m0 : Nat) (ints acc2)).length c8)
                      have r0 := hN.cell 0
                      have r1 := hN.cell 1
                      have r2 := hN.cell 2
                      have r3 := hN.cell 3
                      have r4 := hN.cell 4
                      simp only [List.getElem?_cons_zero, List.getElem?_cons_succ] at r0 r1 r2 r3 r4
                      refine bodyPost_ret (v := .tuple #[.agg #[.slice Am acc.length cm, (.int .i64 (W0 : Nat)), (.int .i64 (y : Nat)), (.int .i64 (m0 : Nat)), (.slice A8 (restI W0 (m0 : Nat) (ints acc2)).length c8)], .bool true]) (by simp [results, Try.results58, go_sem, r0, r1, r2, r3, r4]) rfl ?_
                      have hT := dec_turn (w := w3) (b := b4) (r := w.heap.size) (.int .i64 (W0 : Nat)) (.int .i64 (y : Nat)) (.int .i64 (m0 : Nat)) (.slice A8 (restI W0 (m0 : Nat) (ints acc2)).length c8) (.slice Am acc.length cm) (.int .i64 (W0 : Nat)) (.int .i64 (y : Nat)) (.int .i64 (m0 : Nat)) (.slice A8 (restI W0 (m0 : Nat) (ints acc2)).length c8)
                      have hlen : (restI W0 (m0 : Nat) (ints acc2)).length = acc2.length := by unfold restI; rw [restU_length, ints_length]
                      rw [HRY.out]
                      refine ⟨Below.trans hk3' (hT.below (fun k hk => by have := HB4.out; simp at hk; omega) hk3'.size), Am, cm, A8, c8, ?_, ?_, ?_⟩
                      · rw [hlen]
                      · exact (hE3.turn hT (fun k hk => by
                          have n1 := row_ne hE3 g4 (by decide)
                          have n2 := row_ne hE3 g2 (by decide)
                          simp only [List.mem_cons, List.not_mem_nil, or_false]
                          rintro (rfl | rfl)
                          · exact n1 (by simpa [blkOf, eq_comm] using hk)
                          · exact n2 (by simpa [blkOf, eq_comm] using hk))).down (by have := HSZ.out; omega)
                      · rw [← hlen]; exact (hV.turn hT (fun k hk => by
                          have := (hV.lo k hk).1
                          simp only [List.mem_cons, List.not_mem_nil, or_false]
                          have := hF.f2.lt
                          have := hF.f4.lt
                          omega)).down (by have := hF.f2.lt; omega)
                    · have HRS := Lib.hid (restore_no (c := c7) hI W0 y m0 (by rw [ints_length]; simp only [maxLen]; omega) hrc)
                      have HRN : Hid (R = none) := Lib.hid (by rw [HR9.out, if_neg hrc])
                      rw [ints_length] at HRS
                      have hcc : (restC W0 y m0 (ints acc2) == 0) = false := by simpa using hrc
                      generalize restC W0 y m0 (ints acc2) = code at *
                      clear HR9 hI
                      go_wp2_with fail
                      refine HRS.out.mono ?_
                      rintro e w3 ⟨rfl, hk3⟩
                      replace g2 := g2.below hk3
                      replace g4 := g4.below hk3
                      replace hk := hk.trans' hk3
                      have s0 := g2.cell 0
                      have s1 := g2.cell 1
                      have s2 := g2.cell 2
                      have s3 := g2.cell 3
                      have s4 := g2.cell 4
                      have u0 := g2.frozen 0
                      have u1 := g2.frozen 1
                      have u2 := g2.frozen 2
                      have u3 := g2.frozen 3
                      have u4 := g2.frozen 4
                      have q0 := g4.cell 0
                      have q1 := g4.cell 1
                      have q2 := g4.cell 2
                      have q3 := g4.cell 3
                      have q4 := g4.cell 4
                      simp only [List.getElem?_cons_zero, List.getElem?_cons_succ] at s0 s1 s2 s3 s4 q0 q1 q2 q3 q4
                      have q1f := g4.frozen 1
                      have q2f := g4.frozen 2
                      have q3f := g4.frozen 3
                      have q4f := g4.frozen 4
                      have hb42 := own_ne' HB4.out
                      go_wp2
                      have hg2 := (((g2.far (p := ⟨b4, 1, none⟩) hb42.2 (.int .i64 0)).far (p := ⟨b4, 2, none⟩) hb42.2 (.int .i64 0)).far (p := ⟨b4, 3, none⟩) hb42.2 (.int .i64 0)).far (p := ⟨b4, 4, none⟩) hb42.2 (.slice none 0 0)
                      have hN := hg2.five (.slice Am acc.length cm) (.int .i64 0) (.int .i64 0) (.int .i64 0) (.slice none 0 0)
                      have r0 := hN.cell 0
                      have r1 := hN.cell 1
                      have r2 := hN.cell 2
                      have r3 := hN.cell 3
                      have r4 := hN.cell 4
                      simp only [List.getElem?_cons_zero, List.getElem?_cons_succ] at r0 r1 r2 r3 r4
                      refine bodyPost_ret (v := .tuple #[.agg #[.slice Am acc.length cm, (.int .i64 0), (.int .i64 0), (.int .i64 0), (.slice none 0 0)], .bool false]) (by simp [results, Try.results58, go_sem, r0, r1, r2, r3, r4]) rfl ?_
                      have hT := dec_turn (w := w3) (b := b4) (r := w.heap.size) (.int .i64 0) (.int .i64 0) (.int .i64 0) (.slice none 0 0) (.slice Am acc.length cm) (.int .i64 0) (.int .i64 0) (.int .i64 0) (.slice none 0 0)
                      rw [HRN.out]
                      exact DecRes.no _ (Below.trans hk (hT.below (fun k hk => by have := HB4.out; simp at hk; omega) hk.size)) rfl
        · obtain ⟨st, hst⟩ : ∃ st, strN (rest.take i) = st := ⟨_, rfl⟩
          have hto : Oct (rest.take i) := fun x hx => HOC.out x (List.mem_of_mem_take hx)
          have htl : (rest.take i).length = i := by rw [List.length_take]; omega
          have hsN : bytesN st = rest.take i := by rw [← hst, bytesN_strN hto]
          have hssz : st.size ≤ 2000000 := by rw [← bytesN_length, hsN, htl]; omega
          obtain ⟨At, ct, eT, -, -, -, k4, -, -⟩ := HBS.out.take (show i ≤ rest.length by omega)
          rw [htl] at eT
          have hconv : ∀ q, (convert 32 9 (.slice A1 i c1)).run Try.prog (W4.drewN q) = .ok (.string st) (W4.drewN q) := fun q => by
            cases eT
            have hb : Lib.BytesIn (W4.drewN q) A1 (rest.take i).length (ints (rest.take i)) := bytesIn (w := W4.drewN q) k4
            rw [htl] at hb
            have := hb.convert (P := Try.prog) (by rw [ints_length, htl]) c1 32 5 9 Try.underlying32 Try.underlying5 Try.underlying9
            rw [this, strOfNums_ints, hst]
          have HSC := fun u => Lib.hid (scut_any st u hssz)
          rw [hsN] at HSC
          obtain ⟨ek, ev, hce⟩ : ∃ k v, cutS (rest.take i) = (k, v) := ⟨_, _, rfl⟩
          rw [hce] at HSC
          have hi1 : ((i : Int) == 0) = false := by simp; omega
          have HB2 : Hid (BSl W4 w.heap.size (Lib.fromV A1 rest.length c1 (i + 1)) (rest.drop (i + 1))) := Lib.hid (HBS.out.from (by omega))
          have hdl : (rest.drop (i + 1)).length ≤ 1000000 := by rw [List.length_drop]; omega
          have HDO : Hid (Oct (rest.drop (i + 1))) := Lib.hid fun x hx => HOC.out x (List.mem_of_mem_drop hx)
          have HMS : Hid (M = if acc.length + 1 ≤ 32 then metaP n' (rest.drop (i + 1)) (acc ++ [(ek, ev)]) else none) := Lib.hid (by rw [HM.out, metaP, hx, ← hce]; simp only; rw [if_neg (by omega)])
          have hacI : (acc.length : Int) ≤ 32 := by omega
          clear hx eT k4 hst hsN hce hto htl
          have HG2 := Lib.hid g2
          have q0 := g4.cell 0
          have q0f := g4.frozen 0
          simp only [List.getElem?_cons_zero] at q0
          go_wp2_with fail
          rw [HW4.out]
          refine HCUT.out.mono ?_
          rintro e w5 ⟨rfl, q, rfl⟩
          have hcq := hconv q
          clear hconv
          go_wp2_with fail
          refine (HSC _).out.mono ?_
          rintro e w6 ⟨bf, rfl, q2, rfl⟩
          obtain ⟨W6, hW6⟩ : ∃ W6, (W4.drewN q).drewN q2 = W6 := ⟨_, rfl⟩
          have h2 : Own W6 w.heap.size 27 z27 := hW6 ▸ HG2.out
          have h4 : Own W6 b4 27 [.slice Am acc.length cm, .int .i64 0, .int .i64 0, .int .i64 0, .slice none 0 0] := hW6 ▸ g4
          have h5 : W6.ownsRow Wb.heap.size 57 2 (.slice Am acc.length cm) acc.length (entVs acc) := hW6 ▸ g5
          have hk6 : Keeps w W6 := hW6 ▸ below_drewN (below_drewN hk q) q2
          have HB6 : Hid (BSl W6 w.heap.size (Lib.fromV A1 rest.length c1 (i + 1)) (rest.drop (i + 1))) := Lib.hid (hW6 ▸ HB2.out)
          rw [hW6]
          clear hcq q0 q0f g2 g4 g5 hk HG2 HB2 HBS HCUT hW6
          have h4a := h4.alloc (.cells #[.string ek, .string ev] 57)
          have h2a := h2.alloc (.cells #[.string ek, .string ev] 57)
          have h5a := h5.alloc (.cells #[.string ek, .string ev] 57)
          have hk6a : Keeps W6 (W6.alloc (.cells #[.string ek, .string ev] 57)) := (Below.refl _ _).alloc (Nat.le_refl _) _
          have hkwa := hk6.trans' hk6a
          have hbW : Wb.heap.size ≤ W6.heap.size := by have := h4.lt; have := HB4.out; have := HSZ.out; omega
          have q0 := h4.cell 0
          have q0f := h4.frozen 0
          have hb4l := h4.lt
          simp only [List.getElem?_cons_zero] at q0
          go_wp2_with (at_builtin; refine wpList_append_own _ rfl _ _ 22 rfl Wb.heap.size 57 i0 (.agg #[.string ⟨#[]⟩, .string ⟨#[]⟩]) 2 32 Try.underlying22 hi hz0 hz1 hz2 rfl (by decide) _ _ _ rfl h5a ⟨W6.heap.size, 0, none⟩ 1 1 [.string ek, .string ev] rfl rfl (cells_new _ _ _) (by simp [Value.oneCell']) (by simp only [maxLen]; omega) (by omega) (by simp; omega) ?_; intro v' w8 hown8 hgrow hnil; obtain ⟨A8, c8, rfl, -⟩ := hown8.sl; have h48 := h4a.grown hgrow (row_ne h5a h4a (by decide)); have h28 := h2a.grown hgrow (row_ne h5a h2a (by decide)); have x0 := h48.cell 0; have xf := h48.frozen 0; simp only [List.getElem?_cons_zero] at x0)
          have hb4w : w.heap.size < b4 := by have := HB4.out; omega
          have h49 := h48.set 0 (.slice A8 (acc.length + 1) c8)
          have h29 := h28.far (p := ⟨b4, 0, none⟩) (by show w.heap.size ≠ b4; omega) (.slice A8 (acc.length + 1) c8)
          have h59 := ownsRow_far_ne hown8 (p := ⟨b4, 0, none⟩) (row_ne hown8 h48 (by decide)).symm (.slice A8 (acc.length + 1) c8)
          have hbel : Below w.heap.size W6 (w8.setCell ⟨b4, 0, none⟩ (.slice A8 (acc.length + 1) c8)) :=
            ((hk6a.mono hk6.size).grown hgrow (by have := hkwa.size; omega) (fun b e => by have := (h5a.lt b e).1; have := HSZ.out; omega)).setCell (p := ⟨b4, 0, none⟩) (by show w.heap.size ≤ b4; omega) _
          have hkF : Keeps w (w8.setCell ⟨b4, 0, none⟩ (.slice A8 (acc.length + 1) c8)) := Below.trans hk6 hbel
          have HF : Hid (MetaI w Wb.heap.size w.heap.size b4 M n' (Lib.fromV A1 rest.length c1 (i + 1)) (.bool (decide ((acc.length : Int) + 1 ≤ 32))) (w8.setCell ⟨b4, 0, none⟩ (.slice A8 (acc.length + 1) c8))) := Lib.hid (by
            refine ⟨_, acc ++ [(ek, ev)], A8, c8, rfl, h29, by rw [List.length_append]; exact h49, by rw [List.length_append, entVs_snoc]; exact h59, hkF, fun h => ?_, fun h => ?_⟩
            · rw [HMS.out, if_neg (by have := of_decide_eq_false h; omega)]
            · have h32 := of_decide_eq_true h
              refine ⟨rest.drop (i + 1), HB6.out.below hbel, HDO.out, hdl, by rw [List.length_append]; have := HN.out; simp; omega, by rw [List.length_append]; simp; omega, ?_⟩
              rw [HMS.out, if_pos (by omega)])
          go_roundg n'
          case measure => omega
          case rel => exact HF.out
end Go.Proofs.Ytbkcnhbdjllojaa
