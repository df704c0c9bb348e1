/- The walks of plus and minus. -/
import Derived.Test.YthgbgoidnnfapaaDoorIntA
namespace Go.Proofs.YthgbgoidnnfapaaDoor
open Go.RowKit

theorem info_u32 : (Tryd.prog.info? 48).map (fun i => (i.zero, i.size, i.bytes)) = some (some (.int .u32 0), 1, 4) := by kernel_rfl
theorem make_u32 (k : Int) (n : Nat) (e : k = (n : Int)) (h : n ≤ 4000000) : ∀ u : World, (Instr.makeSlice 22 (.int .i64 k) (.int .i64 k)).run Tryd.prog u =
    .ok (.slice (some ⟨u.heap.size, 0, none⟩) n n) (u.alloc (.cells (u32s (List.replicate n 0)).toArray 48)) := fun u => by
  subst e
  obtain ⟨i0, hi, hz0, hz1, hz2⟩ := info_parts info_u32
  have h := run_make (P := Tryd.prog) u 22 48 i0 (.int .u32 0) Tryd.underlying22 hi hz0 .i64 .i64 (n : Int) (n : Int) (by omega) (Int.le_refl _) (by rw [hz2]; omega) (by omega)
  rw [← madeCells_u32]
  simpa [hz1, Value.cells] using h

set_option maxRecDepth 100000 in
set_option maxHeartbeats 400000 in
theorem plus_any (A D : Option Addr) (c1 c2 : Nat) (xs ys : List Nat) (w : World) (h1 : Row w A xs.length (u32 xs)) (h2 : Row w D ys.length (u32 ys))
    (ha : AllB xs) (hb : AllB ys) (hm1 : xs.length ≤ 1000000) (hm2 : ys.length ≤ 1000000) :
    Calls Tryd.prog 74 #[.slice A xs.length c1, .slice D ys.length c2] w fun e w' => ∃ v, e = .returned v ∧ U32 w' v (dig (val xs + val ys)) ∧ Keeps w w' := by
  obtain ⟨N, hN⟩ : ∃ N, N = max xs.length ys.length + 1 := ⟨_, rfl⟩
  have hN1 : N ≤ 4000000 := by omega
  have hN2 : xs.length + 1 ≤ N := by omega
  have hN3 : ys.length + 1 ≤ N := by omega
  rcases Nat.lt_or_ge xs.length ys.length with hle | hle
  all_goals
    first
    | have hmk := make_u32 (xs.length + 1) N (by omega) hN1
    | have hmk := make_u32 (ys.length + 1) N (by omega) hN1
    have HN := Lib.hid hN
    clear hN
    go_enter Tryd.func74, Tryd.ntmps74
    go_wp2
    have hown := Own.new w 48 (u32s (List.replicate N 0))
    have hk : Keeps w (w.alloc (.cells (u32s (List.replicate N 0)).toArray 48)) := (Below.refl _ _).alloc (Nat.le_refl _) _
    go_loopw [6, 18] (fun c i wr => ∃ (k cc : Nat) (out : List Nat), k ≤ N ∧ i = .int .i64 (k : Nat) ∧ c = .int .u32 (cc : Nat) ∧ cc ≤ 1 ∧ out.length = N ∧ AllB out ∧
        val (out.take k) + cc * 1000000000 ^ k = val (xs.take k) + val (ys.take k) ∧ Own wr w.heap.size 48 (u32s out) ∧ Keeps w wr)
      (fun _ i _ => N - (intOf i).toNat)
    case atStart => exact ⟨0, 0, List.replicate N 0, by omega, rfl, rfl, by omega, by simp, AllB.replicate N, by simp [val], hown, hk⟩
    case round =>
      obtain ⟨k, cc, out, hkN, rfl, rfl, hcc, hol, hob, hval, hown1, hk1⟩ := hrel
      have HV := Lib.hid hval
      have HL := Lib.hid hol
      clear hval hol
      by_cases hlt : k < N
      · have hc0 := hown1.u32cell (i := k) (by rw [HL.out]; exact hlt)
        have hf0 := hown1.frozen k
        have hx : (ix xs k : Int) < 1000000000 := by have := ha.ix k; omega
        have hy : (ix ys k : Int) < 1000000000 := by have := hb.ix k; omega
        rcases Int.lt_or_le ((ix xs k : Int) + ix ys k + cc) 1000000000 with hs | hs
        · go_wp2_with fail
          refine (at_any A c1 xs k wr (h1.below hk1) (by omega) (by omega)).mono ?_
          rintro e w1 ⟨rfl, rfl⟩
          go_wp2_with fail
          refine (at_any D c2 ys k wr (h2.below hk1) (by omega) (by omega)).mono ?_
          rintro e w1 ⟨rfl, rfl⟩
          have HD : decide ((1000000000 : Int) ≤ (ix xs k : Int) + ix ys k + cc) = false := decide_eq_false (by omega)
          go_wp2
          go_roundw
          case rel => exact ⟨k + 1, 0, out.set k (ix xs k + ix ys k + cc), by omega, by go_num, rfl, by omega, by rw [List.length_set]; exact HL.out,
            hob.set _ _ (by omega), plus_step xs ys out k cc _ 0 (by rw [HL.out]; exact hlt) HV.out (by omega), hown1.put k _ (by omega), hk1.setCell (Nat.le_refl _) _⟩
          case measure => simp [intOf]; omega
        · go_wp2_with fail
          refine (at_any A c1 xs k wr (h1.below hk1) (by omega) (by omega)).mono ?_
          rintro e w1 ⟨rfl, rfl⟩
          go_wp2_with fail
          refine (at_any D c2 ys k wr (h2.below hk1) (by omega) (by omega)).mono ?_
          rintro e w1 ⟨rfl, rfl⟩
          go_wp2
          go_roundw
          case rel => exact ⟨k + 1, 1, out.set k (ix xs k + ix ys k + cc - 1000000000), by omega, by go_num, rfl, by omega, by rw [List.length_set]; exact HL.out,
            hob.set _ _ (by omega), plus_step xs ys out k cc _ 1 (by rw [HL.out]; exact hlt) HV.out (by omega), hown1.put k _ (by omega), hk1.setCell (Nat.le_refl _) _⟩
          case measure => simp [intOf]; omega
      · obtain rfl : k = N := by omega
        go_wp2_with fail
        refine (trim_n _ _ _ out wr HL.out (by rw [← HL.out]; exact hown1.row) (Nat.le_refl _) (by simp only [maxLen]; omega)).mono ?_
        rintro e w1 ⟨rfl, rfl⟩
        go_wp2
        go_ret
        refine ⟨_, rfl, ?_, hk1⟩
        rw [← plus_done xs ys out k cc HL.out hN2 hN3 ha hb HV.out, ← trimL_eq hob]
        exact U32.trim hown1.row (by rw [HL.out]; exact Nat.le_refl _) (by simp only [maxLen]; omega) (by intro h; cases h)

set_option maxRecDepth 100000 in
set_option maxHeartbeats 400000 in
theorem minus_any (A D : Option Addr) (n1 n2 c1 c2 : Nat) (xs ys : List Nat) (w : World) (e1 : xs.length = n1) (e2 : ys.length = n2) (h1 : Row w A n1 (u32 xs)) (h2 : Row w D n2 (u32 ys))
    (ha : AllB xs) (hb : AllB ys) (hm1 : n1 ≤ 1000000) (hl : n2 ≤ n1) (hle : val ys ≤ val xs) :
    Calls Tryd.prog 75 #[.slice A n1 c1, .slice D n2 c2] w fun e w' => ∃ v, e = .returned v ∧ U32 w' v (dig (val xs - val ys)) ∧ Keeps w w' := by
  have hmk := make_u32 n1 n1 rfl (by omega)
  have HE1 := Lib.hid e1
  have HE2 := Lib.hid e2
  clear e1 e2
  go_enter Tryd.func75, Tryd.ntmps75
  go_wp2
  have hown := Own.new w 48 (u32s (List.replicate n1 0))
  have hk : Keeps w (w.alloc (.cells (u32s (List.replicate n1 0)).toArray 48)) := (Below.refl _ _).alloc (Nat.le_refl _) _
  go_loopw [6, 14] (fun c i wr => ∃ (k cc : Nat) (out : List Nat), k ≤ n1 ∧ i = .int .i64 (k : Nat) ∧ c = .int .u32 (cc : Nat) ∧ cc ≤ 1 ∧ out.length = n1 ∧ AllB out ∧
      val (out.take k) + val (ys.take k) = val (xs.take k) + cc * 1000000000 ^ k ∧ Own wr w.heap.size 48 (u32s out) ∧ Keeps w wr)
    (fun _ i _ => n1 - (intOf i).toNat)
  case atStart => exact ⟨0, 0, List.replicate n1 0, by omega, rfl, rfl, by omega, by simp, AllB.replicate n1, by simp [val], hown, hk⟩
  case round =>
    obtain ⟨k, cc, out, hkN, rfl, rfl, hcc, hol, hob, hval, hown1, hk1⟩ := hrel
    have HV := Lib.hid hval
    have HL := Lib.hid hol
    clear hval hol
    by_cases hlt : k < n1
    · have hc0 := hown1.u32cell (i := k) (by rw [HL.out]; exact hlt)
      have hf0 := hown1.frozen k
      have hx : (ix xs k : Int) < 1000000000 := by have := ha.ix k; omega
      have hy : (ix ys k : Int) < 1000000000 := by have := hb.ix k; omega
      obtain ⟨b, o, hA, hbl, hcell⟩ := (h1.below hk1) (by omega)
      have hxc : wr.cell? ⟨b, o + k, none⟩ = some (.int .u32 (ix xs k : Nat)) := hcell k hlt
      subst hA
      clear hcell
      by_cases hs : ix xs k < ix ys k + cc
      · have HD : decide ((ix xs k : Int) < (ix ys k : Int) + cc) = true := decide_eq_true (by omega)
        go_wp2_with fail
        refine (at_n D n2 c2 ys k wr HE2.out (h2.below hk1) (by omega) (by omega)).mono ?_
        rintro e w1 ⟨rfl, rfl⟩
        go_wp2
        go_roundw
        case rel => exact ⟨k + 1, 1, out.set k (ix xs k + 1000000000 - (ix ys k + cc)), by omega, by go_num, rfl, by omega, by rw [List.length_set]; exact HL.out,
          hob.set _ _ (by omega), minus_step xs ys out k cc _ 1 (by rw [HL.out]; exact hlt) HV.out (by omega), hown1.put k _ (by omega), hk1.setCell (Nat.le_refl _) _⟩
        case measure => simp [intOf]; omega
      · have HD : decide ((ix xs k : Int) < (ix ys k : Int) + cc) = false := decide_eq_false (by omega)
        go_wp2_with fail
        refine (at_n D n2 c2 ys k wr HE2.out (h2.below hk1) (by omega) (by omega)).mono ?_
        rintro e w1 ⟨rfl, rfl⟩
        go_wp2
        go_roundw
        case rel => exact ⟨k + 1, 0, out.set k (ix xs k - (ix ys k + cc)), by omega, by go_num, rfl, by omega, by rw [List.length_set]; exact HL.out,
          hob.set _ _ (by omega), minus_step xs ys out k cc _ 0 (by rw [HL.out]; exact hlt) HV.out (by omega), hown1.put k _ (by omega), hk1.setCell (Nat.le_refl _) _⟩
        case measure => simp [intOf]; omega
    · obtain rfl : k = n1 := by omega
      go_wp2_with fail
      refine (trim_n _ _ _ out wr HL.out (by rw [← HL.out]; exact hown1.row) (Nat.le_refl _) (by simp only [maxLen]; omega)).mono ?_
      rintro e w1 ⟨rfl, rfl⟩
      go_wp2
      go_ret
      refine ⟨_, rfl, ?_, hk1⟩
      have HE := HE1.out
      subst HE
      have HF := HE2.out
      subst HF
      rw [← minus_done xs ys out cc HL.out hob ha hcc hl hle HV.out, ← trimL_eq hob]
      exact U32.trim hown1.row (by rw [HL.out]; exact Nat.le_refl _) (by simp only [maxLen]; omega) (by intro h; cases h)
end Go.Proofs.YthgbgoidnnfapaaDoor
