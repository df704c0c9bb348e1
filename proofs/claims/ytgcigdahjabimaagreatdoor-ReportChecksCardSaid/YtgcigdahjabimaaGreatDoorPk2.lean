/- The walks of plus and minus. The walks of made, split, Of, Valid, groups. -/
import Derived.Test.YtgcigdahjabimaaGreatDoorPk1
import Derived.WalkSpells
namespace Go.Proofs.YtgcigdahjabimaaGreatDoor
open Go.RowKit

theorem info_u32 : (Tryz.prog.info? 109).map (fun i => (i.zero, i.size, i.bytes)) = some (some (.int .u32 0), 1, 4) := by kernel_rfl
theorem make_u32 (k : Int) (n : Nat) (e : k = (n : Int)) (h : n ≤ 4000000) : ∀ u : World, (Instr.makeSlice 27 (.int .i64 k) (.int .i64 k)).run Tryz.prog u =
 .ok (.slice (some ⟨u.heap.size, 0, none⟩) n n) (u.alloc (.cells (u32s (List.replicate n 0)).toArray 109)) := fun u => by
 subst e
 obtain ⟨i0, hi, hz0, hz1, hz2⟩ := info_parts info_u32
 have h := run_make (P := Tryz.prog) u 27 109 i0 (.int .u32 0) Tryz.underlying27 hi hz0 .i64 .i64 (n : Int) (n : Int) (by omega) (Int.le_refl _) (by rw [hz2]; omega) (by omega)
 rw [← madeCells_u32]
 simpa [hz1, Value.cells] using h

set_option maxRecDepth 100000 in
set_option maxHeartbeats 400000 in
theorem plus_any (A D : Option Addr) (c1 c2 : Nat) (xs ys : List Nat) (w : World) (h1 : Row w A xs.length (u32 xs)) (h2 : Row w D ys.length (u32 ys))
 (ha : AllB xs) (hb : AllB ys) (hm1 : xs.length ≤ 1000000) (hm2 : ys.length ≤ 1000000) :
 Calls Tryz.prog 171 #[.slice A xs.length c1, .slice D ys.length c2] w fun e w' => ∃ v, e = .returned v ∧ U32 w' v (dig (val xs + val ys)) ∧ Keeps w w' := by
 obtain ⟨N, hN⟩ : ∃ N, N = max xs.length ys.length + 1 := ⟨_, rfl⟩
 have hN1 : N ≤ 4000000 := by omega
 have hN2 : xs.length + 1 ≤ N := by omega
 have hN3 : ys.length + 1 ≤ N := by omega
 rcases Nat.lt_or_ge xs.length ys.length with hle | hle
 all_goals
  first
  | have hmk := make_u32 (xs.length + 1) N (by omega) hN1
  | have hmk := make_u32 (ys.length + 1) N (by omega) hN1
  have HN := Lib.hid hN
  clear hN
  go_enter Tryz.func171, Tryz.ntmps171
  go_wp2
  have hown := Own.new w 109 (u32s (List.replicate N 0))
  have hk : Keeps w (w.alloc (.cells (u32s (List.replicate N 0)).toArray 109)) := bl.alloc (Nat.le_refl _) _
  go_loopw [6, 18] (fun c i wr => ∃ (k cc : Nat) (out : List Nat), k ≤ N ∧ i = .int .i64 (k : Nat) ∧ c = .int .u32 (cc : Nat) ∧ cc ≤ 1 ∧ out.length = N ∧ AllB out ∧
   val (out.take k) + cc * 1000000000 ^ k = val (xs.take k) + val (ys.take k) ∧ Own wr w.heap.size 109 (u32s out) ∧ Keeps w wr)
   (fun _ i _ => N - (intOf i).toNat)
  case atStart => exact ⟨0, 0, List.replicate N 0, by omega, rfl, rfl, by omega, by simp, AllB.replicate N, by simp [val], hown, hk⟩
  case round =>
   obtain ⟨k, cc, out, hkN, rfl, rfl, hcc, hol, hob, hval, hown1, hk1⟩ := hrel
   have HV := Lib.hid hval
   have HL := Lib.hid hol
   clear hval hol
   by_cases hlt : k < N
   ·have hc0 := hown1.u32cell (i := k) (by rw [HL.out]; exact hlt)
    have hf0 := hown1.frozen k
    have hx : (ix xs k : Int) < 1000000000 := by have := ha.ix k; omega
    have hy : (ix ys k : Int) < 1000000000 := by have := hb.ix k; omega
    rcases Int.lt_or_le ((ix xs k : Int) + ix ys k + cc) 1000000000 with hs | hs
    ·go_wp2_with fail
     refine (at_any A c1 xs k wr (h1.below hk1) (by omega) (by omega)).mono ?_
     rintro e w1 ⟨rfl, rfl⟩
     go_wp2_with fail
     refine (at_any D c2 ys k wr (h2.below hk1) (by omega) (by omega)).mono ?_
     rintro e w1 ⟨rfl, rfl⟩
     have HD : decide ((1000000000 : Int) ≤ (ix xs k : Int) + ix ys k + cc) = false := decide_eq_false (by omega)
     go_wp2
     go_roundw
     case rel => exact ⟨k + 1, 0, out.set k (ix xs k + ix ys k + cc), by omega, by go_num, rfl, by omega, by rw [List.length_set]; exact HL.out,
      hob.set _ _ (by omega), plus_step xs ys out k cc _ 0 (by rw [HL.out]; exact hlt) HV.out (by omega), hown1.put k _ (by omega), hk1.setCell (Nat.le_refl _) _⟩
     case measure => simp [intOf]; omega
    ·go_wp2_with fail
     refine (at_any A c1 xs k wr (h1.below hk1) (by omega) (by omega)).mono ?_
     rintro e w1 ⟨rfl, rfl⟩
     go_wp2_with fail
     refine (at_any D c2 ys k wr (h2.below hk1) (by omega) (by omega)).mono ?_
     rintro e w1 ⟨rfl, rfl⟩
     go_wp2
     go_roundw
     case rel => exact ⟨k + 1, 1, out.set k (ix xs k + ix ys k + cc - 1000000000), by omega, by go_num, rfl, by omega, by rw [List.length_set]; exact HL.out,
      hob.set _ _ (by omega), plus_step xs ys out k cc _ 1 (by rw [HL.out]; exact hlt) HV.out (by omega), hown1.put k _ (by omega), hk1.setCell (Nat.le_refl _) _⟩
     case measure => simp [intOf]; omega
   ·obtain rfl : k = N := by omega
    go_wp2_with fail
    refine (trim_n _ _ _ out wr HL.out (by rw [← HL.out]; exact hown1.row) (Nat.le_refl _) (by simp only [maxLen]; omega)).mono ?_
    rintro e w1 ⟨rfl, rfl⟩
    go_wp2
    go_ret
    refine ⟨_, rfl, ?_, hk1⟩
    rw [← plus_done xs ys out k cc HL.out hN2 hN3 ha hb HV.out, ← trimL_eq hob]
    exact U32.trim hown1.row (by rw [HL.out]; exact Nat.le_refl _) (by simp only [maxLen]; omega) (by intro h; cases h)

set_option maxRecDepth 100000 in
set_option maxHeartbeats 400000 in
theorem minus_any (A D : Option Addr) (n1 n2 c1 c2 : Nat) (xs ys : List Nat) (w : World) (e1 : xs.length = n1) (e2 : ys.length = n2) (h1 : Row w A n1 (u32 xs)) (h2 : Row w D n2 (u32 ys))
 (ha : AllB xs) (hb : AllB ys) (hm1 : n1 ≤ 1000000) (hl : n2 ≤ n1) (hle : val ys ≤ val xs) :
 Calls Tryz.prog 172 #[.slice A n1 c1, .slice D n2 c2] w fun e w' => ∃ v, e = .returned v ∧ U32 w' v (dig (val xs - val ys)) ∧ Keeps w w' := by
 have hmk := make_u32 n1 n1 rfl (by omega)
 have HE1 := Lib.hid e1
 have HE2 := Lib.hid e2
 clear e1 e2
 go_enter Tryz.func172, Tryz.ntmps172
 go_wp2
 have hown := Own.new w 109 (u32s (List.replicate n1 0))
 have hk : Keeps w (w.alloc (.cells (u32s (List.replicate n1 0)).toArray 109)) := bl.alloc (Nat.le_refl _) _
 go_loopw [6, 14] (fun c i wr => ∃ (k cc : Nat) (out : List Nat), k ≤ n1 ∧ i = .int .i64 (k : Nat) ∧ c = .int .u32 (cc : Nat) ∧ cc ≤ 1 ∧ out.length = n1 ∧ AllB out ∧
  val (out.take k) + val (ys.take k) = val (xs.take k) + cc * 1000000000 ^ k ∧ Own wr w.heap.size 109 (u32s out) ∧ Keeps w wr)
  (fun _ i _ => n1 - (intOf i).toNat)
 case atStart => exact ⟨0, 0, List.replicate n1 0, by omega, rfl, rfl, by omega, by simp, AllB.replicate n1, by simp [val], hown, hk⟩
 case round =>
  obtain ⟨k, cc, out, hkN, rfl, rfl, hcc, hol, hob, hval, hown1, hk1⟩ := hrel
  have HV := Lib.hid hval
  have HL := Lib.hid hol
  clear hval hol
  by_cases hlt : k < n1
  ·have hc0 := hown1.u32cell (i := k) (by rw [HL.out]; exact hlt)
   have hf0 := hown1.frozen k
   have hx : (ix xs k : Int) < 1000000000 := by have := ha.ix k; omega
   have hy : (ix ys k : Int) < 1000000000 := by have := hb.ix k; omega
   obtain ⟨b, o, hA, hbl, hcell⟩ := (h1.below hk1) (by omega)
   have hxc : wr.cell? ⟨b, o + k, none⟩ = some (.int .u32 (ix xs k : Nat)) := hcell k hlt
   subst hA
   clear hcell
   by_cases hs : ix xs k < ix ys k + cc
   ·have HD : decide ((ix xs k : Int) < (ix ys k : Int) + cc) = true := decide_eq_true (by omega)
    go_wp2_with fail
    refine (at_n D n2 c2 ys k wr HE2.out (h2.below hk1) (by omega) (by omega)).mono ?_
    rintro e w1 ⟨rfl, rfl⟩
    go_wp2
    go_roundw
    case rel => exact ⟨k + 1, 1, out.set k (ix xs k + 1000000000 - (ix ys k + cc)), by omega, by go_num, rfl, by omega, by rw [List.length_set]; exact HL.out,
     hob.set _ _ (by omega), minus_step xs ys out k cc _ 1 (by rw [HL.out]; exact hlt) HV.out (by omega), hown1.put k _ (by omega), hk1.setCell (Nat.le_refl _) _⟩
    case measure => simp [intOf]; omega
   ·have HD : decide ((ix xs k : Int) < (ix ys k : Int) + cc) = false := decide_eq_false (by omega)
    go_wp2_with fail
    refine (at_n D n2 c2 ys k wr HE2.out (h2.below hk1) (by omega) (by omega)).mono ?_
    rintro e w1 ⟨rfl, rfl⟩
    go_wp2
    go_roundw
    case rel => exact ⟨k + 1, 0, out.set k (ix xs k - (ix ys k + cc)), by omega, by go_num, rfl, by omega, by rw [List.length_set]; exact HL.out,
     hob.set _ _ (by omega), minus_step xs ys out k cc _ 0 (by rw [HL.out]; exact hlt) HV.out (by omega), hown1.put k _ (by omega), hk1.setCell (Nat.le_refl _) _⟩
    case measure => simp [intOf]; omega
  ·obtain rfl : k = n1 := by omega
   go_wp2_with fail
   refine (trim_n _ _ _ out wr HL.out (by rw [← HL.out]; exact hown1.row) (Nat.le_refl _) (by simp only [maxLen]; omega)).mono ?_
   rintro e w1 ⟨rfl, rfl⟩
   go_wp2
   go_ret
   refine ⟨_, rfl, ?_, hk1⟩
   have HE := HE1.out
   subst HE
   have HF := HE2.out
   subst HF
   rw [← minus_done xs ys out cc HL.out hob ha hcc hl hle HV.out, ← trimL_eq hob]
   exact U32.trim hown1.row (by rw [HL.out]; exact Nat.le_refl _) (by simp only [maxLen]; omega) (by intro h; cases h)
def sgn (neg : Bool) (m : Nat) : Int := if neg then -(m : Int) else m
def IntRep (w : World) (V : Value) (z : Int) : Prop := ∃ v, V = .agg #[.bool (decide (z < 0)), v] ∧ U32 w v (dig z.natAbs)
theorem IntRep.below {w w' : World} {V : Value} {z : Int} (h : IntRep w V z) (hb : Below w.heap.size w w') : IntRep w' V z := by
 obtain ⟨v, rfl, hv⟩ := h
 exact ⟨v, rfl, hv.below hb⟩

theorem IntRep.zero (w : World) : IntRep w (.agg #[.bool false, .slice none 0 0]) 0 := ⟨.slice none 0 0, by simp, by simpa [dig_zero] using U32.nil⟩
theorem IntRep.mk {w : World} {v : Value} {neg : Bool} {m : Nat} (h : U32 w v (dig m)) (hm : m ≠ 0) : IntRep w (.agg #[.bool neg, v]) (sgn neg m) := by
 cases neg
 ·exact ⟨v, by simp [sgn], by simpa [sgn] using h⟩
 ·exact ⟨v, by simp [sgn]; omega, by simpa [sgn] using h⟩

set_option maxRecDepth 100000 in
set_option maxHeartbeats 400000 in
theorem made_any (neg : Bool) (A : Option Addr) (n c : Nat) (xs : List Nat) (w : World) (e : xs.length = n) (h : Row w A n (u32 xs)) (ha : AllB xs) (hc : n ≤ c) (hm : c ≤ maxLen) (h0 : A = none → c = 0) :
 Calls Tryz.prog 90 #[.bool neg, .slice A n c] w fun e w' => ∃ V, e = .returned V ∧ IntRep w' V (sgn neg (val xs)) ∧ Keeps w w' := by
 have HT := Lib.hid (trim_n A n c xs (w.alloc (.cells #[.bool false, .slice none 0 0] 29)) e (h.below (bl.alloc (Nat.le_refl _) _)) hc hm)
 have HL := Lib.hid (trimL_eq ha)
 go_enter Tryz.func90, Tryz.ntmps90
 go_wp2_with fail
 refine HT.out.mono ?_
 rintro e w1 ⟨rfl, rfl⟩
 go_wp2
 ·refine bodyPost_ret (v := .agg #[.bool false, .slice none 0 0]) (by simp [results, Tryz.results90, go_sem]) rfl ?_
  have h0 : val xs = 0 := by
   rw [← dig_length_zero, ← HL.out]
   have : (((trimL xs).length : Int) == 0) = true := by assumption
   simpa using this
  rw [h0]
  exact ⟨_, rfl, by simpa [sgn] using IntRep.zero _, bl.alloc (Nat.le_refl _) _⟩
 ·refine bodyPost_ret (v := .agg #[.bool neg, .slice A (trimL xs).length c]) (by simp [results, Tryz.results90, go_sem]) rfl ?_
  have h1 : val xs ≠ 0 := by
   have : (((trimL xs).length : Int) == 0) = false := by assumption
   rw [← Nat.pos_iff_ne_zero, Nat.pos_iff_ne_zero, ← dig_length_pos, ← HL.out]
   simp at this
   exact List.length_pos_iff.2 this
  exact ⟨_, rfl, IntRep.mk (by rw [← HL.out]; exact (U32.trim (by rw [e]; exact h) (by omega) hm h0).below (bl.alloc (Nat.le_refl _) _)) h1, bl.alloc (Nat.le_refl _) _⟩

set_option maxRecDepth 100000 in
set_option maxHeartbeats 400000 in
theorem split_any (m : Nat) (w : World) (hm : (m : Int) ≤ 18446744073709551615) :
 Calls Tryz.prog 91 #[.int .u64 (m : Nat)] w fun e w' => ∃ v, e = .returned v ∧ U32 w' v (dig m) ∧ Keeps w w' := by
 obtain ⟨i0, hi, hz0, hz1, hz2⟩ := info_parts info_u32
 have hd3 : (dig m).length ≤ 3 := dig_length_le (by omega)
 go_enter Tryz.func91, Tryz.ntmps91
 go_wp2
 go_loopw [0, 3] (fun x g wr => ∃ (k : Nat) (out : List Nat), k ≤ m ∧ x = .int .u64 (k : Nat) ∧ out ++ dig k = dig m ∧ wr.ownsRow w.heap.size 109 1 g out.length (u32s out) ∧ Keeps w wr)
  (fun x _ _ => (intOf x).toNat)
 case atStart => exact ⟨m, [], Nat.le_refl _, rfl, rfl, World.ownsRow_nil _ _ _ _, Below.refl _ _⟩
 case round =>
  obtain ⟨k, out, hk, rfl, hd, hown, hk1⟩ := hrel
  by_cases hpos : 0 < k
  ·have hol : out.length ≤ 2 := by
    have := congrArg List.length hd
    rw [List.length_append] at this
    have := dig_length_pos.2 (show k ≠ 0 by omega)
    omega
   rw [dig_pos (by omega)] at hd
   have HD := Lib.hid hd
   clear hd
   go_wp2_with (at_builtin; refine wpList_append_own _ rfl _ _ 27 rfl w.heap.size 109 i0 (.int .u32 0) 1 4 Tryz.underlying27 hi hz0 hz1 hz2 rfl (by decide) _ _ _ rfl (hown.alloc _) ⟨wr.heap.size, 0, none⟩ 1 1 [.int .u32 ((k : Int) % 1000000000)] rfl rfl (newcell _ _ _) (by simp [Value.oneCell']) (by simp only [maxLen]; omega) (by omega) (by have := hk1.size; simp; omega) ?_; intro v' w1 hown' hgrow _)
   rw [u32s_snoc out (k % 1000000000) (by omega)] at hown'
   have hk2 : Keeps w w1 := (hk1.alloc hk1.size _).grown hgrow (by have := hk1.size; simp; omega) (fun b e => (hown.lt b e).1)
   go_roundw
   case rel => exact ⟨k / 1000000000, out ++ [k % 1000000000], by omega, by go_num, by rw [List.append_assoc]; exact HD.out, by simpa using hown', hk2⟩
   case measure => simp [intOf]; omega
  ·obtain rfl : k = 0 := by omega
   rw [dig_zero, List.append_nil] at hd
   have HD := Lib.hid hd
   clear hd
   go_wp2
   go_ret
   exact ⟨_, rfl, by rw [← HD.out]; exact U32.of_own hown, hk1⟩

set_option maxRecDepth 100000 in
set_option maxHeartbeats 400000 in
theorem clone_any (A : Option Addr) (n c : Nat) (xs : List Nat) (w : World) (e : xs.length = n) (h : Row w A n (u32 xs)) (hc : n ≤ c) (hm : n ≤ 1000000) (h0 : A = none → c = 0) :
 Calls Tryz.prog 132 #[.slice A n c] w fun e w' => ∃ v, e = .returned v ∧ U32 w' v xs ∧ Keeps w w' := by
 obtain ⟨i0, hi, hz0, hz1, hz2⟩ := info_parts info_u32
 have HE := Lib.hid e
 clear e
 cases A with
 | none =>
  obtain rfl := h0 rfl
  obtain rfl : n = 0 := by omega
  have hx := Lib.run_eql_slice_nil (P := Tryz.prog) w 27 109 none 0 0 0 0 Tryz.underlying27
  go_enter Tryz.func132, Tryz.ntmps132
  go_wp2
  go_ret
  exact ⟨_, rfl, by rw [List.eq_nil_of_length_eq_zero HE.out]; exact U32.nil, Below.refl _ _⟩
 | some ad =>
  have hx := Lib.run_eql_slice_nil (P := Tryz.prog) w 27 109 (some ad) n c 0 0 Tryz.underlying27
  go_enter Tryz.func132, Tryz.ntmps132
  go_wp2_with (at_builtin; refine wpList_append_row rfl _ _ 27 rfl w.heap.size 109 i0 (.int .u32 0) 4 Tryz.underlying27 hi hz0 hz1 hz2 rfl _ 0 [] rfl (World.ownsRow_made w #[] 0 (Nat.le_refl _) (by simp [maxLen]) rfl) _ _ _ (u32 xs) rfl h0 hc (h.below (bl.alloc (Nat.le_refl _) _)) (fun j => rfl) (by simp only [maxLen]; omega) (by omega) (by simp) ?_; intro v' w1 hown' hgrow)
  go_ret
  refine ⟨_, rfl, ?_, (bl.alloc (Nat.le_refl _) _).grown hgrow (by simp) (fun b e => by cases e; exact Nat.le_refl _)⟩
  have he := HE.out
  subst he
  rw [List.nil_append, u32s_range] at hown'
  exact U32.of_own hown'

end Go.Proofs.YtgcigdahjabimaaGreatDoor
