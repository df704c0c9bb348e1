/- CodecDigests: the walk. -/
import Derived.Test.YtomjnjpehokjbaaDoorMgBytes
import Derived.Test.YtomjnjpehokjbaaDoorKnoW
import Derived.ChangeKeysEq
namespace Go.Proofs.YtomjnjpehokjbaaDoor
open Go.RowKit Go.Shelf

set_option maxRecDepth 100000 in
theorem eq_items (w : World) (d : Nat) (l : List Nat) : ∀ (is : List Nat), (∀ j ∈ is, j < l.length) → (Op.eqItems (d + 1) 5 1 (l.map fun (x : Nat) => Value.int .u8 x).toArray (l.map fun (x : Nat) => Value.int .u8 x).toArray is).run Tryd.prog w = .ok true w := by
  intro is
  induction is with
  | nil => intro _; simp [Op.eqItems]
  | cons j r ih =>
    intro h
    have hj := h j List.mem_cons_self
    have ih' := ih (fun x hx => h x (List.mem_cons_of_mem _ hx))
    simp only [Op.eqItems]
    have hp : (part 5 (l.map fun (x : Nat) => Value.int .u8 x).toArray (j * 1)).run Tryd.prog w = .ok (.int .u8 (l[j] : Nat)) w := by
      go_simp
    go_simp
set_option maxRecDepth 100000 in
theorem eq_dig' (w : World) (d : Nat) (l : List Nat) (h : l.length = 16) : (Op.equalIn (d + 1 + 1) 42 (.agg (l.map fun (x : Nat) => Value.int .u8 x).toArray) (.agg (l.map fun (x : Nat) => Value.int .u8 x).toArray)).run Tryd.prog w = .ok true w := by
  obtain ⟨i0, hi, hz0, hz1, hz2⟩ := info_parts info_u8
  rw [run_equalIn_array w (d + 1) _ _ Tryd.underlying42 hi]
  exact eq_items w d l _ (fun j hj => by rw [h]; exact List.mem_range.1 hj)
set_option maxRecDepth 100000 in
theorem eq_dig (w : World) (l : List Nat) (h : l.length = 16) (n : Nat) (hn : n = 10000) : (Op.equalIn n 42 (.agg (l.map fun (x : Nat) => Value.int .u8 x).toArray) (.agg (l.map fun (x : Nat) => Value.int .u8 x).toArray)).run Tryd.prog w = .ok true w := by
  obtain ⟨d, rfl⟩ : ∃ d, n = d + 1 + 1 := ⟨n - 2, by omega⟩
  exact eq_dig' w d l h
set_option maxRecDepth 100000 in
set_option maxHeartbeats 4000000 in
theorem codecDigests_any {w : World} {A : Option Addr} {c : Nat} {xs : List UInt8} (hr : Row w A xs.length (b8 xs)) (hl : xs.length ≤ 9223372036854775807) (s : ByteArray) (hs : s.size ≤ 9223372036854775807) (he : EnvB w.heap.size w) :
    Calls Tryd.prog 5 #[.slice A xs.length c, .string s] w fun e w' => e = .returned (.bool true) ∧ Keeps w w' := by
  have hlI : (xs.length : Int) ≤ 9223372036854775807 := by omega
  have hsI : (s.size : Int) ≤ 9223372036854775807 := by omega
  have HK := Lib.hid (known_any he)
  have HR := Lib.hid hr
  clear he hr
  go_enter Tryd.func5, Tryd.ntmps5
  go_wp2_with fail
  refine HK.out.mono ?_
  rintro e w1 ⟨rfl, hk1⟩
  have HR1 := Lib.hid (HR.out.below hk1)
  clear HR HK
  by_cases h1 : 600 < xs.length
  · have a1 : decide ((600 : Int) < (xs.length : Int)) = true := decide_eq_true (by omega)
    clear h1
    go_wp2
    go_ret
    exact ⟨rfl, hk1⟩
  · have a1 : decide ((600 : Int) < (xs.length : Int)) = false := decide_eq_false (by omega)
    by_cases h2 : 100 < s.size
    · have a2 : decide ((100 : Int) < (s.size : Int)) = true := decide_eq_true (by omega)
      clear h1 h2
      go_wp2
      go_ret
      exact ⟨rfl, hk1⟩
    · have a2 : decide ((100 : Int) < (s.size : Int)) = false := decide_eq_false (by omega)
      clear h1 h2
      obtain ⟨ds, hds⟩ : ∃ ds, digN xs = ds := ⟨_, rfl⟩
      have h16 := digN_length xs
      have hdp := digP_digN xs
      rw [hds] at h16 hdp
      have HED := Lib.hid (fun w => eq_dig w ds h16 10000 rfl)
      obtain ⟨d0, d1, d2, d3, d4, d5, d6, d7, d8, d9, d10, d11, d12, d13, d14, d15, rfl⟩ := list16 h16
      have HN := Lib.hid (nameP_isNm xs)
      have hnsz : (⟨(nameP xs).toArray⟩ : ByteArray).size ≤ 9223372036854775807 := by
        show (nameP xs).toArray.size ≤ _
        rw [List.size_toArray, nameP, nameL_length, digN_length]
        decide
      simp only [List.map_cons, List.map_nil] at hdp HED
      clear hds h16
      have HNS := Lib.hid hnsz
      obtain ⟨N, hN⟩ : ∃ N : ByteArray, (⟨(nameP xs).toArray⟩ : ByteArray) = N := ⟨_, rfl⟩
      have HNL : Hid (isNm N.data.toList = true) := Lib.hid (by rw [← hN]; simpa using HN.out)
      have HN1 := Lib.hid (name_any (c := c) HR1.out hl)
      rw [hN] at HN1 HNS
      go_wp2_with fail
      refine HN1.out.mono ?_
      rintro e w2 ⟨rfl, hk2⟩
      have HR2 := Lib.hid (HR1.out.below hk2)
      have HS2 := Lib.hid (dsum_any (c := c) HR2.out hl)
      rw [hdp] at HS2
      clear HR1 HN1
      go_wp2_with fail
      refine HS2.out.mono ?_
      rintro e w3 ⟨rfl, hk3⟩
      have HR3 := Lib.hid (HR2.out.below hk3)
      have HS3 := Lib.hid (rsum_any (c := c) HR3.out hl)
      rw [hdp] at HS3
      clear HR2 HS2
      go_wp2_with fail
      refine HS3.out.mono ?_
      rintro e w4 ⟨rfl, hk4⟩
      have HR4 := Lib.hid (HR3.out.below hk4)
      have heq := HED.out w4
      have HN4 := Lib.hid (rname_any (c := c) HR4.out hl)
      rw [hN] at HN4
      clear HR3 HS3 HR4
      go_wp2_with fail
      refine HN4.out.mono ?_
      rintro e w5 ⟨rfl, hk5⟩
      have HI := Lib.hid (isName_any N w5 HNS.out)
      rw [HNL.out] at HI
      go_wp2_with fail
      refine HI.out.mono ?_
      rintro e w6 ⟨rfl, rfl⟩
      go_wp2_with fail
      refine (isName_any s _ hs).mono ?_
      rintro e w6 ⟨rfl, rfl⟩
      go_wp2_with fail
      refine (risName_any s _ hs).mono ?_
      rintro e w6 ⟨rfl, rfl⟩
      go_wp2
      go_ret
      exact ⟨by first | done | rfl | simp, ((((hk1.trans' hk2).trans' hk3).trans' hk4).trans' hk5)⟩
end Go.Proofs.YtomjnjpehokjbaaDoor
