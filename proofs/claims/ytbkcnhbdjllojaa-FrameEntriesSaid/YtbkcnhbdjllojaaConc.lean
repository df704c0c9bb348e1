/- slices.Concat of rows of bytes, slices.Grow, four: the walks. -/
import Derived.Test.YtbkcnhbdjllojaaRd
import Derived.Lib.AppendZeros
namespace Go.Proofs.Ytbkcnhbdjllojaa
open Go.RowKit Go.Shelf

/-- a number as four bytes -/
def fourB (n : Nat) : List Nat := [n / 16777216 % 256, n / 65536 % 256, n / 256 % 256, n % 256]
set_option maxRecDepth 100000 in
theorem four_any (n : Nat) (w : World) (hn : n ≤ 65535) :
    Calls Try.prog 52 #[.int .i64 (n : Nat)] w fun e w' => e = .returned (.slice (some ⟨w.heap.size, 0, none⟩) 4 4) ∧ w' = w.alloc (.cells (u8s (fourB n)).toArray 5) := by
  have hnI : (n : Int) ≤ 65535 := by omega
  have HF : Hid ((u8s (fourB n)).toArray = #[.int .u8 0, .int .u8 0, .int .u8 ((n / 256 : Nat) : Int), .int .u8 ((n % 256 : Nat) : Int)]) := Lib.hid (by
    have h1 : n / 16777216 % 256 = 0 := by omega
    have h2 : n / 65536 % 256 = 0 := by omega
    have h3 : n / 256 % 256 = n / 256 := by omega
    simp only [fourB, u8s, h1, h2, h3]
    rfl)
  have e1 : (n : Int) / 16777216 = 0 := by omega
  have e2 : (n : Int) / 65536 = 0 := by omega
  have e3 : IntKind.u8.wrap ((n : Int) / 256) = (n : Int) / 256 := IntWalk.u8_in _ (by omega)
  have e4 : IntKind.u8.wrap (n : Int) = (n : Int) % 256 := IntKind.wrap_u8 _
  go_enter Try.func52, Try.ntmps52
  go_wp2
  go_ret
  exact ⟨rfl, by rw [HF.out]; rfl⟩
set_option maxRecDepth 100000 in
theorem grow_any (n : Nat) (w : World) (h0 : 0 < n) (hn : n ≤ 100000000) :
    Calls Try.prog 71 #[.slice none 0 0, .int .i64 (n : Nat)] w fun e w' => ∃ V, e = .returned V ∧ w'.ownsRow w.heap.size 5 1 V 0 [] ∧ Keeps w w' := by
  obtain ⟨i0, hi, hz0, hz1, hz2⟩ := info_parts info_u8
  have hnI : (n : Int) ≤ 100000000 := by omega
  have h0I : (0 : Int) < n := by omega
  go_enter Try.func71, Try.ntmps71
  go_wp2_with (at_builtin; refine Lib.wpList_append_run w rfl _ _ 32 3 rfl (.slice none 0 0) (.int .i64 (n : Nat)) rfl rfl _ _ (Lib.run_append_nil_zeros w 32 3 _ 5 i0 (.int .u8 0) .i64 .i64 Try.underlying32 Try.underlying3 hi hz0 n h0 (by omega) (by omega) (by rw [hz2]; omega)) ?_)
  go_ret
  have hge := grownCap_ge w n 0 5
  have hcm := grownCap_le_maxLen w n 0 5 (by simp only [maxLen]; omega)
  refine ⟨_, rfl, ⟨rfl, .inr ⟨w.heap.size, _, _, rfl, Nat.le_refl _, heap_alloc_new w _, Nat.zero_le _, hcm, ?_, ?_⟩⟩, Below.drew ((Below.refl _ _).alloc (Nat.le_refl _) _)⟩
  · simp only [Array.size_append, size_zeroCells]
    show n * 1 + (grownCap w n 0 5 - n) * 1 = grownCap w n 0 5 * 1
    omega
  · simp
/-- rows of bytes that lie as the elements of a slice -/
def RowsAt (w : World) (b : Nat) (rows : List (List Nat)) : Prop :=
  ∀ j xs, rows[j]? = some xs → ∃ A c, w.cell? ⟨b, j, none⟩ = some (.slice A xs.length c) ∧ BRow w A xs ∧ (A = none → c = 0) ∧ xs.length ≤ c
theorem RowsAt.below {w w' : World} {b : Nat} {rows : List (List Nat)} (h : RowsAt w b rows) (hb : b < w.heap.size) (hk : Keeps w w') : RowsAt w' b rows := fun j xs hj => by
  obtain ⟨A, c, h1, h2, h3, h4⟩ := h j xs hj
  exact ⟨A, c, (hk.cell (p := ⟨b, j, none⟩) hb).trans h1, h2.below hk, h3, h4⟩
theorem flatten_take_succ {rows : List (List Nat)} {k : Nat} {xs : List Nat} (h : rows[k]? = some xs) : (rows.take (k + 1)).flatten = (rows.take k).flatten ++ xs := by
  obtain ⟨hlt, rfl⟩ := List.getElem?_eq_some_iff.1 h
  rw [List.take_succ_eq_append_getElem hlt, List.flatten_append]
  simp
theorem flatten_take_le (rows : List (List Nat)) (k : Nat) : (rows.take k).flatten.length ≤ rows.flatten.length := by
  conv => rhs; rw [← List.take_append_drop k rows, List.flatten_append, List.length_append]
  omega
set_option maxRecDepth 100000 in
set_option maxHeartbeats 1000000 in
theorem concat_any {w : World} {b c : Nat} {rows : List (List Nat)} (h : RowsAt w b rows) (hb : b < w.heap.size) (hl : rows.length ≤ 1000) (h0 : 0 < rows.flatten.length) (hs : rows.flatten.length ≤ 10000000) :
    Calls Try.prog 51 #[.slice (some ⟨b, 0, none⟩) rows.length c] w fun e w' => ∃ V, e = .returned V ∧ BOwn w' w.heap.size V rows.flatten ∧ Keeps w w' := by
  obtain ⟨i0, hi, hz0, hz1, hz2⟩ := info_parts info_u8
  have hlI : (rows.length : Int) ≤ 1000 := by omega
  have HA := Lib.hid h
  have HFL := fun k => Lib.hid (flatten_take_le rows k)
  have HALL : Hid ((rows.take rows.length).flatten = rows.flatten) := Lib.hid (by rw [List.take_length])
  clear h
  go_enter Try.func51, Try.ntmps51
  go_wp2
  go_loop [11, 3] (fun i s => ∃ k : Nat, k ≤ rows.length ∧ i = .int .i64 (k : Nat) ∧ s = .int .i64 ((rows.take k).flatten.length : Nat)) (fun i _ => rows.length - (intOf i).toNat)
  case atStart => exact ⟨0, Nat.zero_le _, rfl, by simp⟩
  case round =>
    obtain ⟨k, hk, rfl, rfl⟩ := hrel
    by_cases hlt : k < rows.length
    · have hkI : (k : Int) < rows.length := by omega
      obtain ⟨A, cc, c1, -, -, -⟩ := HA.out k rows[k] (List.getElem?_eq_getElem hlt)
      have HS : Hid ((rows.take (k + 1)).flatten.length = (rows.take k).flatten.length + rows[k].length) := Lib.hid (by rw [flatten_take_succ (List.getElem?_eq_getElem hlt), List.length_append])
      have h1 := (HFL k).out
      have h2 := (HFL (k + 1)).out
      rw [HS.out] at h2
      generalize rows[k].length = m at *
      generalize (rows.take k).flatten.length = n at *
      have hnI : (n : Int) ≤ 10000000 := by omega
      have hmI : (n : Int) + m ≤ 10000000 := by omega
      clear h1 h2
      go_wp2
      go_round
      case rel => exact ⟨k + 1, by omega, by go_num, by rw [HS.out]; go_num⟩
      case measure => simp [intOf]; omega
    · obtain rfl : k = rows.length := by omega
      rw [HALL.out]
      have HLEN := Lib.hid (rfl : rows.flatten.length = rows.flatten.length)
      obtain ⟨n, hn⟩ : ∃ n, rows.flatten.length = n := ⟨_, rfl⟩
      rw [hn] at h0 hs ⊢
      have HG := Lib.hid (grow_any n w h0 (by omega))
      have HN := Lib.hid hn
      clear hn
      go_wp2_with fail
      refine HG.out.mono ?_
      rintro e w1 ⟨V, rfl, hown, hk1⟩
      have hbw := hk1.size
      have hownV := hown
      clear hown
      go_wp2
      go_loopw [27, 6] (fun i v wr => ∃ k V, k ≤ rows.length ∧ i = .int .i64 (k : Nat) ∧ v = V ∧ wr.ownsRow w.heap.size 5 1 V (rows.take k).flatten.length (u8s (rows.take k).flatten) ∧ Keeps w wr) (fun i _ _ => rows.length - (intOf i).toNat)
      case atStart => exact ⟨0, V, Nat.zero_le _, rfl, rfl, hownV, hk1⟩
      case round =>
        obtain ⟨k, V, hk, rfl, rfl, hown, hkw⟩ := hrel
        by_cases hlt : k < rows.length
        · have hkI : (k : Int) < rows.length := by omega
          obtain ⟨A, cc, c1, hrow, hA, hcc⟩ := (HA.out.below hb hkw) k rows[k] (List.getElem?_eq_getElem hlt)
          have HS : Hid ((rows.take (k + 1)).flatten = (rows.take k).flatten ++ rows[k]) := Lib.hid (by rw [flatten_take_succ (List.getElem?_eq_getElem hlt)])
          have h1 := (HFL k).out
          have h2 := (HFL (k + 1)).out
          rw [HS.out, List.length_append] at h2
          have hnn := HN.out
          generalize rows[k] = ys at *
          generalize (rows.take k).flatten = out at *
          have HR := Lib.hid hrow
          have HOWN := Lib.hid hown
          have hl63 : out.length + ys.length ≤ 10000000 := by omega
          clear hrow h1 h2 hown hnn
          go_wp2_with (at_builtin; refine wpList_append_row rfl _ _ 32 rfl w.heap.size 5 i0 (.int .u8 0) 1 Try.underlying32 hi hz0 hz1 hz2 rfl _ _ _ rfl HOWN.out A ys.length cc (bv ys) rfl hA hcc HR.out (fun _ => rfl) (by simp only [maxLen]; omega) (by omega) hkw.size ?_; intro v' w3 hown3 hgrow)
          have hk3 : Keeps w w3 := hkw.grown hgrow hkw.size (fun b e => (HOWN.out.lt b e).1)
          have hu : u8s out ++ (List.range ys.length).map (bv ys) = u8s (out ++ ys) := by
            rw [u8s_append]
            congr 1
            apply List.ext_getElem
            · simp [u8s]
            · intro i h1 h2
              have h3 : i < ys.length := by simpa [u8s] using h2
              simp [u8s, bv, List.getD, h3]
          have HU := Lib.hid hu
          clear hu
          go_roundw
          case rel => exact ⟨k + 1, _, by omega, by go_num, rfl, by rw [HS.out, List.length_append, ← HU.out]; exact hown3, hk3⟩
          case measure => simp [intOf]; omega
        · obtain rfl : k = rows.length := by omega
          go_wp2
          go_ret
          rw [HALL.out] at hown
          exact ⟨_, rfl, hown, hkw⟩
end Go.Proofs.Ytbkcnhbdjllojaa
