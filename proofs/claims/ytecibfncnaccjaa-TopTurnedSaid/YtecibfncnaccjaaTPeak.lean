/- corner.Find's peak: the walk. -/
import Derived.Test.YtecibfncnaccjaaTOff
namespace Go.Proofs.Ytecibfncnaccjaa
open Go.RowKit Go.Shelf
theorem keeps_drewN (w : World) (n : Nat) : Keeps w (w.drewN n) := ⟨rfl, rfl, rfl, Nat.le_refl _, fun _ _ => rfl⟩
def dl (W : Nat) : List Int := [-(W : Int) - 1, -(W : Int), -(W : Int) + 1, -1]
def vI (s : List Int) (k : Int) : Int := s.getD k.toNat 0
/-- is it above its neighbours? -/
def dirB (s : List Int) (i d : Int) : Bool := !(decide (vI s i ≤ vI s (i + d))) && !(decide (vI s i < vI s (i - d)))
def peakP (s : List Int) (W : Nat) (thr : Int) (i : Nat) : Bool := decide (thr < vI s i) && (dl W).all (dirB s i)
theorem dl_bd {W : Nat} (hW : 1 ≤ W) : ∀ k, k < 4 → -(W : Int) - 1 ≤ (dl W).getD k 0 ∧ (dl W).getD k 0 ≤ 1 := by
  intro k hk
  match k, hk with
  | 0, _ => simp [dl]; omega
  | 1, _ => simp [dl]; omega
  | 2, _ => simp [dl]; omega
  | 3, _ => simp [dl]; omega
theorem all_take_succ {p : Int → Bool} {l : List Int} {k : Nat} (hk : k < l.length) : (l.take (k + 1)).all p = ((l.take k).all p && p (l.getD k 0)) := by
  rw [List.take_succ_eq_append_getElem hk, List.all_append]
  simp [List.getD, hk]
theorem all_of_not {p : Int → Bool} {l : List Int} {k : Nat} (hk : k < l.length) (h : p (l.getD k 0) = false) : l.all p = false := by
  cases hq : l.all p with
  | false => rfl
  | true =>
    have := List.all_eq_true.1 hq _ (List.getElem_mem hk)
    rw [List.getD, List.getElem?_eq_getElem hk, Option.getD_some] at h
    rw [this] at h
    cases h
set_option maxRecDepth 100000 in
set_option maxHeartbeats 4000000 in
theorem peak_any {w : World} {b d e : Nat} {A : Option Addr} {n c : Nat} {s : List Int} {W : Nat} {thr : Int} (qs : Own w b 22 [.slice A n c]) (qt : Own w d 3 [.int .i64 thr]) (qw : Own w e 3 [.int .i64 (W : Nat)]) (hr : IRow w A s) (hn : n = s.length) (hl : n ≤ 4096) (hW : 1 ≤ W ∧ W ≤ 64) {i : Nat} (hi1 : W + 1 ≤ i) (hi2 : i + W + 1 < n) :
    Calls Try.prog 16 #[.int .i64 (i : Nat), .pointer (some ⟨b, 0, none⟩), .pointer (some ⟨d, 0, none⟩), .pointer (some ⟨e, 0, none⟩)] w fun e' w' => e' = .returned (.bool (peakP s W thr i)) ∧ Keeps w w' := by
  subst hn
  have HPK : Hid (peakP s W thr i = (decide (thr < vI s i) && (dl W).all (dirB s i))) := Lib.hid rfl
  have hiI : (i : Int) < s.length := by omega
  have hnI : (s.length : Int) ≤ 4096 := by omega
  have hW1 : (1 : Int) ≤ W := by omega
  have hW2 : (W : Int) ≤ 64 := by omega
  obtain ⟨bk, o, rfl, c0⟩ := IRow.at hr (j := i) (by omega)
  have hv0 : s.getD i 0 = vI s i := by simp [vI]
  rw [hv0] at c0
  clear hv0
  obtain ⟨v0, hv0⟩ : ∃ v, vI s i = v := ⟨_, rfl⟩
  have HV0 := Lib.hid hv0
  rw [hv0] at c0 HPK
  have s0 := qs.cell 0
  have t0 := qt.cell 0
  have w0 := qw.cell 0
  simp only [List.getElem?_cons_zero, List.getElem?_cons_succ] at s0 t0 w0
  have HI := Lib.hid (And.intro hi1 hi2)
  have HR := Lib.hid hr
  have HQS := Lib.hid qs
  clear hi1 hi2 hv0 hr qs qt qw
  by_cases ht : v0 ≤ thr
  · have t1 : decide (v0 ≤ thr) = true := decide_eq_true ht
    have HF : Hid (peakP s W thr i = false) := Lib.hid (by rw [HPK.out, decide_eq_false (by omega)]; rfl)
    clear ht
    go_enter Try.func16, Try.ntmps16
    go_wp2
    go_quiet (fail)
    go_wp2
    go_ret
    exact ⟨by rw [HF.out]; first | done | rfl, keeps_drewN _ _⟩
  · have t1 : decide (v0 ≤ thr) = false := decide_eq_false ht
    have HPK2 : Hid (peakP s W thr i = (dl W).all (dirB s i)) := Lib.hid (by rw [HPK.out, decide_eq_true (by omega)]; rfl)
    clear ht HPK
    go_enter Try.func16, Try.ntmps16
    go_wp2
    go_quiet (fail)
    go_upto_region 4 with fail
    obtain ⟨w2, hw2⟩ : ∃ w2, w.drewN nq = w2 := ⟨_, rfl⟩
    rw [hw2]
    have hk2 : Keeps w w2 := hw2 ▸ keeps_drewN w nq
    have hsz : w2.heap.size = w.heap.size := hw2 ▸ rfl
    clear hw2
    obtain ⟨W3, hW3⟩ : ∃ W3, w2.alloc (.cells #[.int .i64 (-(W : Int) - 1), .int .i64 (-(W : Int)), .int .i64 (-(W : Int) + 1), .int .i64 (-1)] 3) = W3 := ⟨_, rfl⟩
    rw [hW3]
    have hk3 : Keeps w2 W3 := hW3 ▸ box2 w2 _
    have hd3 : Own W3 w2.heap.size 3 (i64s (dl W)) := hW3 ▸ Own.new w2 _ _
    have HD := Lib.hid hd3
    have hk23 := hk2.trans' hk3
    rw [hsz] at HD
    clear hd3 hW3 hk3 hk2 hsz t0 w0 s0
    go_wp2
    go_loopw [24] (fun iv wr => ∃ k : Nat, k ≤ 4 ∧ iv = .int .i64 (k : Nat) ∧ Hid (((dl W).take k).all (dirB s i) = true) ∧ Keeps W3 wr) (fun i _ => 4 - (intOf i).toNat)
    case atStart => exact ⟨0, Nat.zero_le _, rfl, Lib.hid (by simp), Below.refl _ _⟩
    case round =>
      obtain ⟨k, hk4, rfl, HA, hkr⟩ := hrel
      by_cases hlt : k < 4
      · have hkI : (k : Int) < 4 := by omega
        have hb := dl_bd (W := W) (by omega) k hlt
        have hdc := (HD.out.below hkr).cell k
        rw [show (i64s (dl W))[k]? = some (.int .i64 ((dl W).getD k 0)) by simp [i64s, List.getD, show k < (dl W).length from hlt]] at hdc
        have hst := all_take_succ (p := dirB s i) (l := dl W) (k := k) hlt
        have hno := all_of_not (p := dirB s i) (l := dl W) (k := k) hlt
        obtain ⟨d', hd'⟩ : ∃ d', (dl W).getD k 0 = d' := ⟨_, rfl⟩
        rw [hd'] at hb hdc hst hno
        clear hd'
        obtain ⟨hi1, hi2⟩ := HI.out
        obtain ⟨k1, hk1⟩ : ∃ k1 : Nat, (i : Int) + d' = (k1 : Int) := ⟨((i : Int) + d').toNat, by omega⟩
        obtain ⟨k2, hk2⟩ : ∃ k2 : Nat, (i : Int) - d' = (k2 : Int) := ⟨((i : Int) - d').toNat, by omega⟩
        have hkr2 := hk23.trans' hkr
        obtain ⟨bk', o', e1, c1⟩ := IRow.at (HR.out.below hkr2) (j := k1) (by omega)
        cases e1
        obtain ⟨bk', o', e2, c2⟩ := IRow.at (HR.out.below hkr2) (j := k2) (by omega)
        cases e2
        obtain ⟨bk', o', e3, c3⟩ := IRow.at (HR.out.below hkr2) (j := i) (by omega)
        cases e3
        have hx1 : s.getD k1 0 = vI s ((i : Int) + d') := by rw [hk1]; simp [vI]
        have hx2 : s.getD k2 0 = vI s ((i : Int) - d') := by rw [hk2]; simp [vI]
        have hx3 : s.getD i 0 = v0 := by rw [← HV0.out]; simp [vI]
        have hdir : dirB s i d' = (!(decide (v0 ≤ vI s ((i : Int) + d'))) && !(decide (v0 < vI s ((i : Int) - d')))) := by unfold dirB; rw [HV0.out]
        rw [hx1] at c1
        rw [hx2] at c2
        rw [hx3] at c3
        clear hx1 hx2 hx3
        obtain ⟨v1, hv1⟩ : ∃ v, vI s ((i : Int) + d') = v := ⟨_, rfl⟩
        obtain ⟨v2, hv2⟩ : ∃ v, vI s ((i : Int) - d') = v := ⟨_, rfl⟩
        rw [hv1] at c1 hdir
        rw [hv2] at c2 hdir
        have s0 := (HQS.out.below hkr2).cell 0
        simp only [List.getElem?_cons_zero, List.getElem?_cons_succ] at s0
        have hk1I : (k1 : Int) < s.length := by omega
        have hk2I : (k2 : Int) < s.length := by omega
        obtain ⟨hb1, hb2⟩ := hb
        have HST := Lib.hid hst
        have HNO := Lib.hid hno
        have HDIR := Lib.hid hdir
        clear hv1 hv2 hst hno hdir hi1 hi2 c0
        by_cases t1 : v0 ≤ v1
        · have t2 : decide (v0 ≤ v1) = true := decide_eq_true t1
          have HF : Hid (peakP s W thr i = false) := Lib.hid (by rw [HPK2.out]; exact HNO.out (by rw [HDIR.out, t2]; rfl))
          clear t1
          go_wp2
          go_quiet (fail)
          go_wp2
          go_ret
          exact ⟨by rw [HF.out]; first | done | rfl, hkr2.trans' (keeps_drewN _ _)⟩
        · have t2 : decide (v0 ≤ v1) = false := decide_eq_false t1
          by_cases t3 : v0 < v2
          · have t4 : decide (v0 < v2) = true := decide_eq_true t3
            have HF : Hid (peakP s W thr i = false) := Lib.hid (by rw [HPK2.out]; exact HNO.out (by rw [HDIR.out, t2, t4]; rfl))
            clear t1 t3
            go_wp2
            go_quiet (fail)
            go_wp2
            go_ret
            exact ⟨by rw [HF.out]; first | done | rfl, hkr2.trans' (keeps_drewN _ _)⟩
          · have t4 : decide (v0 < v2) = false := decide_eq_false t3
            have HT : Hid (((dl W).take (k + 1)).all (dirB s i) = true) := Lib.hid (by rw [HST.out, HA.out, HDIR.out, t2, t4]; rfl)
            clear t1 t3
            go_wp2
            go_quiet (fail)
            go_wp2
            go_roundw
            case rel => exact ⟨k + 1, by omega, by go_num, HT, hkr.trans' (keeps_drewN _ _)⟩
            case measure => simp [intOf]; omega
      · obtain rfl : k = 4 := by omega
        have HT : Hid (peakP s W thr i = true) := Lib.hid (by
          rw [HPK2.out]
          exact HA.out)
        clear hlt
        go_wp2
        go_ret
        exact ⟨by rw [HT.out]; first | done | rfl, hk23.trans' hkr⟩
end Go.Proofs.Ytecibfncnaccjaa
