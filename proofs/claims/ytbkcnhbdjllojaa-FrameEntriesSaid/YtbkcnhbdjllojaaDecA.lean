/- Slices of given bytes; bytes.Cut, bytes.CutPrefix, strings.Cut as the decoder uses them. -/
import Derived.Test.YtbkcnhbdjllojaaPDec
import Derived.Test.YtbkcnhbdjllojaaShelf
namespace Go.Proofs.Ytbkcnhbdjllojaa
open Go.RowKit Go.Shelf

/-- a slice of bytes that lies below B0 -/
def BSl (w : World) (B0 : Nat) (v : Value) (xs : List Nat) : Prop :=
  ∃ A c, v = .slice A xs.length c ∧ xs.length ≤ c ∧ c ≤ maxLen ∧ (A = none → c = 0) ∧ BRow w A xs ∧ (0 < xs.length → Under B0 A) ∧ (0 < xs.length → ∀ b o s, A = some ⟨b, o, s⟩ → s = none)
theorem BSl.below {w w' : World} {B0 : Nat} {v : Value} {xs : List Nat} (h : BSl w B0 v xs) (hk : Below B0 w w') : BSl w' B0 v xs := by
  obtain ⟨A, c, e, h1, h2, h3, h4, h5, h6⟩ := h
  exact ⟨A, c, e, h1, h2, h3, h4.under h5 hk, h5, h6⟩
theorem bytesIn {w : World} {A : Option Addr} {xs : List Nat} (h : BRow w A xs) : Lib.BytesIn w A xs.length (ints xs) := fun hn => by
  obtain ⟨b, o, e, -, hc⟩ := h hn
  exact ⟨b, o, e, fun i hi => by rw [hc i hi]; simp [bv, ints, List.getD, hi]⟩
theorem ints_length (xs : List Nat) : (ints xs).length = xs.length := by simp [ints]
theorem bytesOf_ints (xs : List Nat) : Lib.bytesOf (ints xs) = xs.map UInt8.ofNat := by simp [Lib.bytesOf, ints]
theorem strOfNums_ints (xs : List Nat) : strOfNums (ints xs) = strN xs := by simp [strOfNums, ints, strN]
theorem indexByte_idx {c : Nat} (hc : c < 256) : ∀ (xs : List Nat), Oct xs → Lib.indexByte (xs.map UInt8.ofNat) (UInt8.ofNat c) = match idx c xs with | some i => (i : Int) | none => -1
  | [], _ => rfl
  | x :: xs, h => by
    have ih := indexByte_idx hc xs fun y hy => h y (List.mem_cons_of_mem _ hy)
    have hx := h x List.mem_cons_self
    have e : (UInt8.ofNat x == UInt8.ofNat c) = decide (x = c) := by
      rw [Bool.eq_iff_iff]
      simp only [beq_iff_eq, decide_eq_true_eq]
      constructor
      · intro h
        have := congrArg UInt8.toNat h
        simpa [Nat.mod_eq_of_lt hx, Nat.mod_eq_of_lt hc] using this
      · rintro rfl; rfl
    rw [List.map_cons, Lib.indexByte, e]
    by_cases hxc : x = c
    · simp [hxc, idx]
    · simp only [hxc, decide_false, Bool.false_eq_true, if_false, idx]
      rw [ih]
      cases idx c xs with
      | none => simp
      | some i => simp <;> omega
theorem idx_lt {c : Nat} : ∀ {xs : List Nat} {i : Nat}, idx c xs = some i → i < xs.length
  | [], _, h => by cases h
  | x :: xs, i, h => by
    rw [idx] at h
    split at h
    · cases h; simp
    · cases hx : idx c xs with
      | none => simp [hx] at h
      | some j =>
        have := idx_lt hx
        simp [hx] at h
        simp
        omega
theorem addp (b o j : Nat) : (⟨b, o, none⟩ : Addr).add j = ⟨b, o + j, none⟩ := by unfold Addr.add; split <;> simp_all
/-- a tail of such a slice -/
theorem BSl.from {w : World} {B0 : Nat} {A : Option Addr} {c : Nat} {xs : List Nat} (h : BSl w B0 (.slice A xs.length c) xs) {j : Nat} (hj : j ≤ xs.length) : BSl w B0 (Lib.fromV A xs.length c j) (xs.drop j) := by
  obtain ⟨A', c', e, h1, h2, h3, h4, h5, h6⟩ := h
  cases e
  unfold Lib.fromV
  by_cases hcj : c = j
  · subst hcj
    have hl : xs.length = c := by omega
    rw [if_pos rfl]
    have hd : xs.drop c = [] := List.drop_eq_nil_of_le (by omega)
    exact ⟨A, c - c, by rw [hd, hl]; simp, by rw [hd]; simp, by omega, fun _ => by omega, by rw [hd]; exact fun hp => absurd hp (by simp), by rw [hd]; exact fun hp => absurd hp (by simp), by rw [hd]; exact fun hp => absurd hp (by simp)⟩
  · rw [if_neg hcj]
    rcases A with _ | ⟨b, o, s⟩
    · have := h3 rfl
      omega
    · by_cases hx0 : xs.length = 0
      · obtain rfl : xs = [] := List.eq_nil_of_length_eq_zero hx0
        simp only [List.drop_nil, List.length_nil]
        exact ⟨some ((⟨b, o, s⟩ : Addr).add j), c - j, by simp, Nat.zero_le _, by omega, by simp, fun hp => absurd hp (by simp), fun hp => absurd hp (by simp), fun hp => absurd hp (by simp)⟩
      obtain rfl := h6 (by omega) b o s rfl
      refine ⟨some ⟨b, o + j, none⟩, c - j, ?_, by rw [List.length_drop]; omega, by omega, by simp, fun hp => ?_, fun _ b' o' e => ?_, fun _ b' o' s' e => by cases e; rfl⟩
      · simp only [Option.map_some, addp, List.length_drop]
      · rw [List.length_drop] at hp
        obtain ⟨b', o', e, hlt, hc⟩ := h4 (by omega)
        cases e
        refine ⟨b, o + j, rfl, hlt, fun i hi => ?_⟩
        rw [List.length_drop] at hi
        have := hc (j + i) (by omega)
        rw [← Nat.add_assoc] at this
        rw [this]
        simp [bv, List.getD]
      · cases e
        exact h5 (by omega) b o rfl
theorem BSl.take {w : World} {B0 : Nat} {A : Option Addr} {c : Nat} {xs : List Nat} (h : BSl w B0 (.slice A xs.length c) xs) {j : Nat} (hj : j ≤ xs.length) : BSl w B0 (.slice A j c) (xs.take j) := by
  obtain ⟨A', c', e, h1, h2, h3, h4, h5, h6⟩ := h
  cases e
  have hl : (xs.take j).length = j := by rw [List.length_take]; omega
  refine ⟨A, c, by rw [hl], by omega, h2, h3, fun hp => ?_, fun hp => h5 (by omega), fun hp => h6 (by omega)⟩
  obtain ⟨b, o, e, hlt, hc⟩ := h4 (by omega)
  exact ⟨b, o, e, hlt, fun i hi => by rw [hc i (by omega)]; simp [bv, List.getD, show i < j by omega]⟩
def cutR (A : Option Addr) (n c : Nat) : Option Nat → Value
  | some i => .tuple #[.slice A i c, Lib.fromV A n c (i + 1), .bool true]
  | none => .tuple #[.slice A n c, .slice none 0 0, .bool false]
theorem bcut_any {w : World} {B0 : Nat} {A : Option Addr} {c b2 : Nat} {xs : List Nat} (h : BSl w B0 (.slice A xs.length c) xs) (ho : Oct xs) (hl : xs.length ≤ 2000000) (hc2 : w.cell? ⟨b2, 0, none⟩ = some (.int .u8 10)) :
    Calls Try.prog 76 #[.slice A xs.length c, .slice (some ⟨b2, 0, none⟩) 1 1] w fun e w' => e = .returned (cutR A xs.length c (idx 10 xs)) ∧ ∃ q, w' = w.drewN q := by
  obtain ⟨A', c', e, h1, h2, h3, h4, h5, h6⟩ := h
  cases e
  have hi := indexByte_idx (c := 10) (by omega) xs ho
  have hidx : Calls Try.prog 84 #[.slice A xs.length c, .slice (some ⟨b2, 0, none⟩) 1 1] w fun e w' => e = .returned (.int .i64 (match idx 10 xs with | some i => (i : Int) | none => -1)) ∧ ∃ q, w' = w.drewN q := by
    rcases A with _ | a
    · obtain rfl := h3 rfl
      have hx : xs = [] := List.eq_nil_of_length_eq_zero (by omega)
      subst hx
      exact (Try.bytes_Index_one_nil b2 0 1 10 w hc2).mono fun _ _ ⟨a, b⟩ => ⟨a, 0, b⟩
    · have hcell : ∀ i, i < xs.length → w.cell? (a.add i) = some (.int .u8 ((ints xs).getD i 0)) := fun i hi => by
        obtain ⟨b, o, e, -, hc⟩ := h4 (by omega)
        cases e
        rw [addp, hc i hi]
        simp [bv, ints, List.getD, hi]
      refine (Try.bytes_Index_one_at a xs.length c b2 0 1 (ints xs) 10 w (ints_length xs) hcell hc2).mono fun _ _ ⟨he, hw⟩ => ⟨?_, 0, hw⟩
      rw [he, bytesOf_ints]
      congr 2
  have hlt : ∀ i, idx 10 xs = some i → i < xs.length := fun i => idx_lt
  have := Try.bytes_Cut_of A (some ⟨b2, 0, none⟩) xs.length c 1 1 (match idx 10 xs with | some i => (i : Int) | none => -1) w h1 (by cases idx 10 xs <;> simp <;> omega) (fun h => by
    cases hx : idx 10 xs with
    | none => rw [hx] at h; simp at h
    | some i => have := hlt i hx; simp; omega) (by omega) hidx
  refine this.mono fun e w' ⟨he, hq⟩ => ⟨?_, hq⟩
  rw [he]
  cases hx : idx 10 xs with
  | none => simp [Lib.cutV, cutR]
  | some i => simp [Lib.cutV, cutR]
theorem extract_take (s : ByteArray) (i : Nat) : s.extract 0 i = strN ((bytesN s).take i) := by
  apply ByteArray.ext
  apply Array.ext'
  rw [strN, bytesN, ← List.map_take, List.map_map, show UInt8.ofNat ∘ UInt8.toNat = id by funext x; simp, List.map_id]
  simp [ByteArray.data_extract]
theorem extract_drop (s : ByteArray) (i : Nat) : s.extract i s.size = strN ((bytesN s).drop i) := by
  apply ByteArray.ext
  apply Array.ext'
  rw [strN, bytesN, ← List.map_drop, List.map_map, show UInt8.ofNat ∘ UInt8.toNat = id by funext x; simp, List.map_id]
  simp [ByteArray.data_extract]
  exact List.take_of_length_le (by rw [List.length_drop, Array.length_toList]; exact Nat.le_refl _)
set_option maxRecDepth 100000 in
theorem slcut_any (s : ByteArray) (w : World) (hs : s.size ≤ 2000000) :
    Calls Try.prog 85 #[.string s, .string ⟨#[32]⟩] w fun e w' => ∃ b, e = .returned (.tuple #[.string (cutS (bytesN s)).1, .string (cutS (bytesN s)).2, .bool b]) ∧ ∃ q, w' = w.drewN q := by
  have hsI : (s.size : Int) ≤ 2000000 := by omega
  have hi := Try.stringslite_Index_one s 32 w
  have e1 : Lib.indexByte s.data.toList 32 = match idx 32 (bytesN s) with | some i => (i : Int) | none => -1 := by
    have := indexByte_idx (c := 32) (by omega) (bytesN s) (bytesN_oct s)
    rw [bytesN, List.map_map, show UInt8.ofNat ∘ UInt8.toNat = id by funext x; simp, List.map_id] at this
    exact this
  rw [e1] at hi
  cases hx : idx 32 (bytesN s) with
  | none =>
    rw [hx] at hi
    have HC : Hid (cutS (bytesN s) = (s, ⟨#[]⟩)) := Lib.hid (by rw [cutS, hx]; simp only [strN_bytesN])
    have HI := Lib.hid hi
    clear hi e1 hx
    go_enter Try.func85, Try.ntmps85
    go_wp2_with fail
    refine HI.out.mono ?_
    rintro e w1 ⟨rfl, rfl⟩
    go_wp2
    go_ret3
    exact ⟨_, by rw [HC.out]; rfl, 0, rfl⟩
  | some i =>
    rw [hx] at hi
    have hlt := idx_lt hx
    rw [bytesN_length] at hlt
    have HC : Hid (cutS (bytesN s) = (strN ((bytesN s).take i), strN ((bytesN s).drop (i + 1)))) := Lib.hid (by rw [cutS, hx])
    have hiI : (i : Int) < s.size := by omega
    have HI := Lib.hid hi
    have hw1 : IntKind.i64.wrap ((i : Int) + 1) = (i : Int) + 1 := IntWalk.i64_in _ (by omega)
    clear hi e1 hx
    go_enter Try.func85, Try.ntmps85
    go_wp2_with fail
    refine HI.out.mono ?_
    rintro e w1 ⟨rfl, rfl⟩
    go_wp2
    go_quiet (fail)
    go_wp2
    go_ret3
    exact ⟨_, by rw [HC.out, ← extract_take, ← extract_drop]; rfl, _, rfl⟩
set_option maxRecDepth 100000 in
theorem scut_any (s : ByteArray) (w : World) (hs : s.size ≤ 2000000) :
    Calls Try.prog 77 #[.string s, .string ⟨#[32]⟩] w fun e w' => ∃ b, e = .returned (.tuple #[.string (cutS (bytesN s)).1, .string (cutS (bytesN s)).2, .bool b]) ∧ ∃ q, w' = w.drewN q := by
  have HI := Lib.hid (slcut_any s w hs)
  generalize cutS (bytesN s) = kv at *
  obtain ⟨k, v⟩ := kv
  go_enter Try.func77, Try.ntmps77
  go_wp2_with fail
  refine HI.out.mono ?_
  rintro e w1 ⟨b, rfl, q, rfl⟩
  go_wp2
  go_ret3
  exact ⟨_, rfl, _, rfl⟩
end Go.Proofs.Ytbkcnhbdjllojaa
