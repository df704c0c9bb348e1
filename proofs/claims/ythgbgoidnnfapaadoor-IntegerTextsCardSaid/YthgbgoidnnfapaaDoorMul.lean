/- The walks of times and short. -/
import Derived.Test.YthgbgoidnnfapaaDoorCmp
namespace Go.Proofs.YthgbgoidnnfapaaDoor
open Go.RowKit Go.Shelf

theorem cast_div (o p q c : Nat) : ((o : Int) + p * q + c) / 1000000000 = (((o + p * q + c) / 1000000000 : Nat) : Int) := by
  have : ((p * q : Nat) : Int) = (p : Int) * q := Int.natCast_mul _ _
  omega
theorem cast_mod (o p q c : Nat) : ((o : Int) + p * q + c) % 1000000000 = (((o + p * q + c) % 1000000000 : Nat) : Int) := by
  have : ((p * q : Nat) : Int) = (p : Int) * q := Int.natCast_mul _ _
  omega
set_option maxRecDepth 100000 in
set_option maxHeartbeats 1000000 in
theorem times_core (A D : Option Addr) (n1 n2 c1 c2 : Nat) (xs ys : List Nat) (w : World) (e1 : xs.length = n1) (e2 : ys.length = n2) (h1 : Row w A n1 (u32 xs)) (h2 : Row w D n2 (u32 ys))
    (ha : AllB xs) (hb : AllB ys) (hm1 : n1 ≤ 1000000) (hm2 : n2 ≤ 1000000) :
    Calls Tryd.prog 57 #[.slice A n1 c1, .slice D n2 c2] w fun e w' => ∃ v, e = .returned v ∧ w'.ownsRow w.heap.size 48 1 v (dig (val xs * val ys)).length (u32s (dig (val xs * val ys))) ∧ Keeps w w' := by
  obtain ⟨N, hN⟩ : ∃ N, N = n1 + n2 := ⟨_, rfl⟩
  have hN1 : N ≤ 4000000 := by omega
  have hmk := make_u32 ((n1 : Int) + n2) N (by omega) hN1
  have HE1 := Lib.hid e1
  have HE2 := Lib.hid e2
  have HN := Lib.hid hN
  clear e1 e2 hN
  go_enter Tryd.func57, Tryd.ntmps57
  go_wp2
  have hown := Own.new w 48 (u32s (List.replicate N 0))
  have hk : Keeps w (w.alloc (.cells (u32s (List.replicate N 0)).toArray 48)) := (Below.refl _ _).alloc (Nat.le_refl _) _
  go_loopw [20] (fun i wr => ∃ (k : Nat) (out : List Nat), k ≤ n1 ∧ i = .int .i64 (k : Nat) ∧ out.length = N ∧ AllB out ∧
      val out = val (xs.take k) * val ys ∧ (∀ j, k + n2 ≤ j → ix out j = 0) ∧ Own wr w.heap.size 48 (u32s out) ∧ Keeps w wr)
    (fun i _ => n1 - (intOf i).toNat)
  case atStart => exact ⟨0, List.replicate N 0, by omega, rfl, by simp, AllB.replicate N, by simp [val, val_replicate], fun j _ => by simp [ix, List.getElem?_replicate]; split <;> rfl, hown, hk⟩
  case round =>
    obtain ⟨k, out, hkN, rfl, hol, hob, hval, hz, hown1, hk1⟩ := hrel
    obtain ⟨wo, rfl⟩ : ∃ wo : World, wo = wr := ⟨_, rfl⟩
    have HV := Lib.hid hval
    have HL := Lib.hid hol
    have HZ := Lib.hid hz
    clear hval hol hz
    by_cases hlt : k < n1
    · obtain ⟨b, o, rfl, hbl, hcell⟩ := (h1.below hk1) (by omega)
      have hxc : wo.cell? ⟨b, o + k, none⟩ = some (.int .u32 (ix xs k : Nat)) := hcell k hlt
      clear hcell
      go_wp2
      go_loopw [8, 27] (fun c i wi => ∃ (j cc : Nat) (out' : List Nat), j ≤ n2 ∧ i = .int .i64 (j : Nat) ∧ c = .int .u64 (cc : Nat) ∧ cc < 1000000000 ∧ out'.length = N ∧ AllB out' ∧
          val out' + cc * 1000000000 ^ (k + j) = val (xs.take k) * val ys + ix xs k * val (ys.take j) * 1000000000 ^ k ∧ (∀ j, k + n2 ≤ j → ix out' j = 0) ∧ Own wi w.heap.size 48 (u32s out') ∧ Keeps w wi)
        (fun _ i _ => n2 - (intOf i).toNat)
      case atStart => exact ⟨0, 0, out, by omega, rfl, rfl, by omega, HL.out, hob, by rw [HV.out]; simp [val], HZ.out, hown1, hk1⟩
      case round =>
        obtain ⟨j, cc, out', hj, rfl, rfl, hcc, hol', hob', hval', hz', hown2, hk2⟩ := hrel
        have HV' := Lib.hid hval'
        have HL' := Lib.hid hol'
        have HZ' := Lib.hid hz'
        clear hval' hol' hz'
        have hccI : (cc : Int) < 1000000000 := by omega
        have HC := Lib.hid hcc
        clear hcc
        have hkN : k + n2 < N := by have := HN.out; omega
        by_cases hltj : j < n2
        · obtain ⟨b2, o2, rfl, hbl2, hcell2⟩ := (h2.below hk2) (by omega)
          have hyc : wr.cell? ⟨b2, o2 + j, none⟩ = some (.int .u32 (ix ys j : Nat)) := hcell2 j hltj
          clear hcell2
          have hc0 := hown2.u32cell (i := k + j) (by rw [HL'.out]; omega)
          have hf0 := hown2.frozen (k + j)
          have hob1 : (ix out' (k + j) : Int) < 1000000000 := by have := hob'.ix (k + j); omega
          have hx1 : (ix xs k : Int) < 1000000000 := by have := ha.ix k; omega
          have hy1 : (ix ys j : Int) < 1000000000 := by have := hb.ix j; omega
          have hpq : ((ix xs k : Nat) : Int) * ((ix ys j : Nat) : Int) ≤ 999999998000000001 := by
            have := mul_lt_base _ _ (ha.ix k) (hb.ix j)
            rw [← Int.natCast_mul]; omega
          have hpq0 : (0 : Int) ≤ ((ix xs k : Nat) : Int) * ((ix ys j : Nat) : Int) := by rw [← Int.natCast_mul]; omega
          go_wp2
          go_roundw
          case rel => exact ⟨j + 1, (ix out' (k + j) + ix xs k * ix ys j + cc) / 1000000000, out'.set (k + j) ((ix out' (k + j) + ix xs k * ix ys j + cc) % 1000000000), by omega, by go_num,
            by rw [cast_div], by have := mul_lt_base _ _ (ha.ix k) (hb.ix j); have := hob'.ix (k + j); omega, by rw [List.length_set]; exact HL'.out, hob'.set _ _ (by omega),
            times_in xs ys out' k j cc _ _ (by rw [HL'.out]; omega) HV'.out (by omega), fun i hi => by rw [ix_set _ _ _ _ (by rw [HL'.out]; omega), if_neg (by omega)]; exact HZ'.out i hi,
            hown2.put _ _ (cast_mod _ _ _ _), hk2.set (Nat.le_refl _) _⟩
          case measure => simp [intOf]; omega
        · obtain rfl : j = n2 := by omega
          have hc0 := hown2.u32cell (i := k + j) (by rw [HL'.out]; omega)
          have hf0 := hown2.frozen (k + j)
          go_wp2
          go_roundw
          case rel =>
            refine ⟨k + 1, out'.set (k + j) cc, by omega, by go_num, by rw [List.length_set]; exact HL'.out, hob'.set _ _ HC.out, ?_, fun i hi => ?_, hown2.put _ _ rfl, hk2.set (Nat.le_refl _) _⟩
            · have he := HE2.out
              subst he
              exact times_out xs ys out' k cc (by rw [HL'.out]; omega) (HZ'.out _ (Nat.le_refl _)) HV'.out
            · rw [ix_set _ _ _ _ (by rw [HL'.out]; omega), if_neg (by omega)]
              exact HZ'.out i (by omega)
          case measure => simp [intOf]; omega
    · obtain rfl : k = n1 := by omega
      go_wp2_with fail
      refine (trim_n _ _ _ out wo HL.out (by rw [← HL.out]; exact hown1.row) (Nat.le_refl _) (by simp only [maxLen]; omega)).mono ?_
      rintro e w1 ⟨rfl, rfl⟩
      go_wp2
      go_ret
      refine ⟨_, rfl, ?_, hk1⟩
      have hv := HV.out
      rw [List.take_of_length_le (by rw [HE1.out]; exact Nat.le_refl _)] at hv
      rw [← hv, ← trimL_eq hob]
      exact owns_trim hown1 HL.out (Nat.le_refl _) (by simp only [maxLen]; omega)
/-- times, of magnitudes: a row of the call's own -/
theorem times_any (v1 v2 : Value) (a b : Nat) (w : World) (h1 : U32 w v1 (dig a)) (h2 : U32 w v2 (dig b)) (hm1 : (dig a).length ≤ 1000000) (hm2 : (dig b).length ≤ 1000000) :
    Calls Tryd.prog 57 #[v1, v2] w fun e w' => ∃ v, e = .returned v ∧ w'.ownsRow w.heap.size 48 1 v (dig (a * b)).length (u32s (dig (a * b))) ∧ Keeps w w' := by
  obtain ⟨A, n, c, rfl, e1, -, -, -, r1⟩ := h1.open_
  obtain ⟨D, m, d, rfl, e2, -, -, -, r2⟩ := h2.open_
  have := times_core A D n m c d _ _ w e1 e2 r1 r2 (AllB.dig a) (AllB.dig b) (by omega) (by omega)
  rwa [val_dig, val_dig] at this
end Go.Proofs.YthgbgoidnnfapaaDoor
