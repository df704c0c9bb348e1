/- Rows of bytes as lists of bytes. codec.IsName, codec.Name: the walks. codec.Name: the walk. fiducialref12.isDigit, IsName, Name: the walks. fiducialref12.Name: the walk. -/
import Derived.Test.YtomjnjpehokjbaaDoorMgTr
import Derived.Test.YtomjnjpehokjbaaDoorShelf
import Derived.Lib.Bytes
import Derived.Lib.UnsafeStr
import Derived.Test.YtomjnjpehokjbaaDoorMgDig
import Derived.Deep.AppendLies
import Derived.Laws.IdiomStrings
import Derived.Lib.BufferRead
namespace Go.Proofs.YtomjnjpehokjbaaDoor
open Go.RowKit Go.Shelf

theorem info_u8 : (Tryd.prog.info? 5).map (fun i => (i.zero, i.size, i.bytes)) = some (some (.int .u8 0), 1, 1) := by kernel_rfl
def n8 (l : List UInt8) : List Int := l.map fun c => ((c.toNat : Nat) : Int)
theorem n8_length (l : List UInt8) : (n8 l).length = l.length := by simp [n8]
theorem n8_get (l : List UInt8) (j : Nat) (h : j < l.length) : (n8 l).getD j 0 = ((l.getD j 0).toNat : Nat) := by
  simp [n8, List.getD, h]
theorem n8_take (l : List UInt8) (k : Nat) : (n8 l).take k = n8 (l.take k) := by simp [n8, List.map_take]
theorem n8_drop (l : List UInt8) (k : Nat) : (n8 l).drop k = n8 (l.drop k) := by simp [n8, List.map_drop]
theorem bytesOf_n8 (l : List UInt8) : Lib.bytesOf (n8 l) = l := by
  unfold Lib.bytesOf n8
  rw [List.map_map]
  conv => rhs; rw [← List.map_id l]
  apply List.map_congr_left
  intro x _
  simp
theorem str_n8 (l : List UInt8) : strOfNums (n8 l) = ⟨l.toArray⟩ := by
  have := bytesOf_n8 l
  unfold Lib.bytesOf at this
  unfold strOfNums
  rw [this]
theorem n8_cells (l : List UInt8) : (n8 l).map (Value.int .u8) = Lib.byteCells l := by simp [n8, Lib.byteCells]
theorem b8_cells (l : List UInt8) (j : Nat) (v : Value) (h : (Lib.byteCells l)[j]? = some v) : v = b8 l j ∧ j < l.length := by
  obtain ⟨h1, h2⟩ := List.getElem?_eq_some_iff.1 h
  have hl : j < l.length := by simpa [Lib.byteCells] using h1
  refine ⟨?_, hl⟩
  rw [← h2]
  simp [Lib.byteCells, b8, List.getD, hl]
theorem b8_get (l : List UInt8) (j : Nat) (h : j < l.length) : (Lib.byteCells l)[j]? = some (b8 l j) := by
  simp [Lib.byteCells, b8, List.getD, h]
theorem b8_n8 (l : List UInt8) (j : Nat) (h : j < l.length) : b8 l j = .int .u8 ((n8 l).getD j 0) := by rw [b8, n8_get l j h]
section
variable {w : World} {A : Option Addr} {n : Nat} {l : List UInt8}
theorem bytesIn8 (h : Row w A n (b8 l)) (hn : l.length = n) : Lib.BytesIn w A n (n8 l) := fun hp => by
  obtain ⟨b, o, e, -, hc⟩ := h hp
  exact ⟨b, o, e, fun i hi => by rw [hc i hi, b8_n8 l i (by omega)]⟩
theorem b8_take (l : List UInt8) (k j : Nat) (h : j < k) : b8 (l.take k) j = b8 l j := by
  simp [b8, h]
theorem b8_drop (l : List UInt8) (k j : Nat) : b8 (l.drop k) j = b8 l (k + j) := by simp [b8]
theorem Row.take8 (h : Row w A n (b8 l)) {k : Nat} (hk : k ≤ n) : Row w A k (b8 (l.take k)) := (h.take hk).congr fun j hj => (b8_take l k j hj).symm
theorem Row.drop8 {b o : Nat} (h : Row w (some ⟨b, o, none⟩) n (b8 l)) {k : Nat} : Row w (some ⟨b, o + k, none⟩) (n - k) (b8 (l.drop k)) := fun hp => by
  obtain ⟨b', o', e, hlt, hc⟩ := h (by omega)
  cases e
  exact ⟨b, o + k, rfl, hlt, fun j hj => by rw [b8_drop, Nat.add_assoc]; exact hc (k + j) (by omega)⟩
theorem bEqual_any {B : Option Addr} {m c d : Nat} {r : List UInt8} (h : Row w A n (b8 l)) (h' : Row w B m (b8 r)) (hn : l.length = n) (hm : r.length = m) :
    Calls Tryd.prog 12 #[.slice A n c, .slice B m d] w fun e w' => e = .returned (.bool (decide (l = r))) ∧ w' = w := by
  refine (Tryd.bytes_Equal_all A B n c m d (n8 l) (n8 r) w (by rw [n8_length]; exact hn) (by rw [n8_length]; exact hm) (bytesIn8 h hn) (bytesIn8 h' hm)).mono ?_
  rintro e w' ⟨rfl, rfl⟩
  refine ⟨?_, rfl⟩
  rw [bytesOf_n8, bytesOf_n8]
  congr 2
  by_cases hh : l = r
  · subst hh; simp
  · simp [hh]
/-- a row of one's own of bytes, as a slice -/
theorem own8 {base : Nat} {t : TypeId} {v : Value} (h : w.ownsRow base t 1 v n (Lib.byteCells l)) (hn : l.length = n) : SlK (newB base) w v n (b8 l) := by
  obtain ⟨hl, ⟨rfl, rfl⟩ | ⟨g, cap, cur, rfl, hb, hg, h1, h2, h3, h4⟩⟩ := h
  · exact SlK.nil
  · refine ⟨_, cap, rfl, h1, h2, (fun e => by cases e), fun hp => ⟨g, 0, rfl, (Array.getElem?_eq_some_iff.1 hg).1, fun j hj => ?_⟩, fun b o _ e => by cases e; exact hb⟩
    rw [Nat.zero_add, cell_of_row w g j cur t (0, 0) hg]
    have := b8_get l j (by omega)
    rw [← h4, List.getElem?_take] at this
    split at this
    · simpa using this
    · cases this
end
end Go.Proofs.YtomjnjpehokjbaaDoor

namespace Go.Proofs.YtomjnjpehokjbaaDoor
open Go.RowKit Go.Shelf

def hexS : List UInt8 := [48, 49, 50, 51, 52, 53, 54, 55, 56, 57, 97, 98, 99, 100, 101, 102]
/-- a hexadecimal digit -/
def isHx (c : UInt8) : Bool := decide (48 ≤ c.toNat ∧ c.toNat ≤ 57) || decide (97 ≤ c.toNat ∧ c.toNat ≤ 102)
def isNm (l : List UInt8) : Bool := decide (l.length = 32) && l.all isHx
/-- the digest's bytes as numbers -/
def digN (xs : List UInt8) : List Nat := (List.range 16).map fun i => (IntKind.u8.wrap ((if i < 8 then (sumP xs).1 else (sumP xs).2) / 2 ^ (56 - 8 * (i % 8)))).toNat
theorem wrap8 (x : Int) : 0 ≤ IntKind.u8.wrap x ∧ IntKind.u8.wrap x < 256 := by
  rw [IntKind.wrap_u8]
  omega
theorem digP_digN (xs : List UInt8) : digP xs = (digN xs).map fun d => Value.int .u8 (d : Nat) := by
  have h : ∀ x : Int, (((IntKind.u8.wrap x).toNat : Nat) : Int) = IntKind.u8.wrap x := fun x => by have := wrap8 x; omega
  unfold digP digN dgL
  rw [List.map_map]
  apply List.map_congr_left
  intro i hi
  have hi2 : i < 16 := List.mem_range.1 hi
  simp only [Function.comp, h]
  by_cases h8 : i < 8
  · rw [if_pos h8, if_pos h8, if_pos h8, Nat.mod_eq_of_lt h8, wb]
  · have e : i % 8 = i - 8 := by omega
    rw [if_neg h8, if_pos (by omega), if_neg h8, e, wb]
theorem digN_length (xs : List UInt8) : (digN xs).length = 16 := by simp [digN]
theorem digN_lt (xs : List UInt8) : ∀ d ∈ digN xs, d < 256 := fun d hd => by
  simp only [digN, List.mem_map] at hd
  obtain ⟨i, -, rfl⟩ := hd
  have := wrap8 ((if i < 8 then (sumP xs).1 else (sumP xs).2) / 2 ^ (56 - 8 * (i % 8)))
  omega
def hx (n : Nat) : UInt8 := hexS.getD n 0
def nameL (l : List Nat) : List UInt8 := l.flatMap fun d => [hx (d / 16), hx (d % 16)]
/-- the name of a digest -/
def nameP (xs : List UInt8) : List UInt8 := nameL (digN xs)
theorem nameL_length (l : List Nat) : (nameL l).length = 2 * l.length := by
  induction l with
  | nil => rfl
  | cons a r ih => simp only [nameL, List.flatMap_cons, List.length_append, List.length_cons, List.length_nil] at ih ⊢; omega
theorem hx_hex (n : Nat) (h : n < 16) : isHx (hx n) = true := by
  have : ∀ n : Fin 16, isHx (hx n.val) = true := by decide
  exact this ⟨n, h⟩
theorem nameP_isNm (xs : List UInt8) : isNm (nameP xs) = true := by
  unfold isNm nameP
  rw [nameL_length, digN_length]
  simp only [decide_true, Bool.true_and, List.all_eq_true]
  intro c hc
  simp only [nameL, List.mem_flatMap, List.mem_cons, List.not_mem_nil, or_false] at hc
  obtain ⟨d, hd, rfl | rfl⟩ := hc
  · exact hx_hex _ (by have := digN_lt xs d hd; omega)
  · exact hx_hex _ (by omega)
theorem all_take_byte {p : UInt8 → Bool} {l : List UInt8} {k : Nat} (h : k < l.length) : (l.take (k + 1)).all p = ((l.take k).all p && p (l.getD k 0)) := by
  rw [List.take_succ_eq_append_getElem h, List.all_append]
  simp [List.getD, h]
set_option maxRecDepth 100000 in
set_option maxHeartbeats 1000000 in
theorem isName_any (s : ByteArray) (w : World) (hs : s.size ≤ 9223372036854775807) : Calls Tryd.prog 18 #[.string s] w fun e w' => e = .returned (.bool (isNm s.data.toList)) ∧ w = w' := by
  have hsI : (s.size : Int) ≤ 9223372036854775807 := by omega
  have hlen : s.data.toList.length = s.size := by rw [Array.length_toList]; rfl
  have HLEN := Lib.hid hlen
  clear hlen
  by_cases h32 : s.size = 32
  · have t0 : ((s.size : Int) != 32) = false := by simp [h32]
    have h32I : (s.size : Int) ≤ 32 := by omega
    have HA : Hid (isNm s.data.toList = s.data.toList.all isHx) := Lib.hid (by unfold isNm; rw [HLEN.out, h32]; rfl)
    have H32 := Lib.hid h32
    clear h32
    go_enter Tryd.func18, Tryd.ntmps18
    go_wp2
    go_loop [10] (fun i => ∃ k : Nat, k ≤ s.size ∧ i = .int .i64 (k : Nat) ∧ Hid ((s.data.toList.take k).all isHx = true)) (fun i => s.size - (intOf i).toNat)
    case atStart => exact ⟨0, Nat.zero_le _, rfl, Lib.hid (by simp)⟩
    case round =>
      obtain ⟨k, hk, rfl, HK⟩ := hrel
      by_cases hlt : k < s.size
      · have hkI : (k : Int) < s.size := by omega
        have hS := all_take_byte (p := isHx) (l := s.data.toList) (k := k) (by rw [HLEN.out]; exact hlt)
        have hg : s.data.toList.getD k 0 = s[k] := by
          have h2 : k < s.data.toList.length := by rw [HLEN.out]; exact hlt
          rw [List.getD, List.getElem?_eq_getElem h2]
          rfl
        rw [hg] at hS
        have hx : isHx s[k] = (decide (48 ≤ s[k].toNat ∧ s[k].toNat ≤ 57) || decide (97 ≤ s[k].toNat ∧ s[k].toNat ≤ 102)) := rfl
        have HS := Lib.hid hS
        have HX := Lib.hid hx
        clear hS hg hx
        have h5 : (s[k].toNat < 48) ∨ (48 ≤ s[k].toNat ∧ s[k].toNat ≤ 57) ∨ (57 < s[k].toNat ∧ s[k].toNat < 97) ∨ (97 ≤ s[k].toNat ∧ s[k].toNat ≤ 102) ∨ 102 < s[k].toNat := by omega
        obtain ⟨b, hb⟩ : ∃ b, s[k].toNat = b := ⟨_, rfl⟩
        rw [hb] at h5 HX
        rcases h5 with h | ⟨h, h'⟩ | ⟨h, h'⟩ | ⟨h, h'⟩ | h
        · have a1 : decide ((b : Int) < 48) = true := decide_eq_true (by omega)
          have a2 : decide ((b : Int) < 97) = true := decide_eq_true (by omega)
          have HF : Hid (isNm s.data.toList = false) := Lib.hid (by
            rw [HA.out]
            have h1 : isHx s[k] = false := by rw [HX.out]; simp; omega
            have h2 : (s.data.toList.take (k + 1)).all isHx = false := by rw [HS.out, h1]; simp
            cases hq : s.data.toList.all isHx with
            | false => rfl
            | true => rw [List.all_eq_true.2 (fun c hc => List.all_eq_true.1 hq c (List.mem_of_mem_take hc))] at h2; cases h2)
          clear h
          go_wp2
          go_ret
          exact ⟨by rw [HF.out]; first | done | rfl, rfl⟩
        · have a1 : decide ((b : Int) < 48) = false := decide_eq_false (by omega)
          have a2 : decide ((57 : Int) < (b : Int)) = false := decide_eq_false (by omega)
          have HT : Hid ((s.data.toList.take (k + 1)).all isHx = true) := Lib.hid (by
            have h1 : isHx s[k] = true := by rw [HX.out]; simp; omega
            rw [HS.out, HK.out, h1]; rfl)
          clear h h'
          go_wp2
          go_round
          case rel => exact ⟨k + 1, by omega, by go_num, HT⟩
          case measure => simp [intOf]; omega
        · have a1 : decide ((b : Int) < 48) = false := decide_eq_false (by omega)
          have a2 : decide ((57 : Int) < (b : Int)) = true := decide_eq_true (by omega)
          have a3 : decide ((b : Int) < 97) = true := decide_eq_true (by omega)
          have HF : Hid (isNm s.data.toList = false) := Lib.hid (by
            rw [HA.out]
            have h1 : isHx s[k] = false := by rw [HX.out]; simp; omega
            have h2 : (s.data.toList.take (k + 1)).all isHx = false := by rw [HS.out, h1]; simp
            cases hq : s.data.toList.all isHx with
            | false => rfl
            | true => rw [List.all_eq_true.2 (fun c hc => List.all_eq_true.1 hq c (List.mem_of_mem_take hc))] at h2; cases h2)
          clear h h'
          go_wp2
          go_ret
          exact ⟨by rw [HF.out]; first | done | rfl, rfl⟩
        · have a1 : decide ((b : Int) < 48) = false := decide_eq_false (by omega)
          have a2 : decide ((57 : Int) < (b : Int)) = true := decide_eq_true (by omega)
          have a3 : decide ((b : Int) < 97) = false := decide_eq_false (by omega)
          have a4 : decide ((102 : Int) < (b : Int)) = false := decide_eq_false (by omega)
          have HT : Hid ((s.data.toList.take (k + 1)).all isHx = true) := Lib.hid (by
            have h1 : isHx s[k] = true := by rw [HX.out]; simp; omega
            rw [HS.out, HK.out, h1]; rfl)
          clear h h'
          go_wp2
          go_round
          case rel => exact ⟨k + 1, by omega, by go_num, HT⟩
          case measure => simp [intOf]; omega
        · have a1 : decide ((b : Int) < 48) = false := decide_eq_false (by omega)
          have a2 : decide ((57 : Int) < (b : Int)) = true := decide_eq_true (by omega)
          have a3 : decide ((b : Int) < 97) = false := decide_eq_false (by omega)
          have a4 : decide ((102 : Int) < (b : Int)) = true := decide_eq_true (by omega)
          have HF : Hid (isNm s.data.toList = false) := Lib.hid (by
            rw [HA.out]
            have h1 : isHx s[k] = false := by rw [HX.out]; simp; omega
            have h2 : (s.data.toList.take (k + 1)).all isHx = false := by rw [HS.out, h1]; simp
            cases hq : s.data.toList.all isHx with
            | false => rfl
            | true => rw [List.all_eq_true.2 (fun c hc => List.all_eq_true.1 hq c (List.mem_of_mem_take hc))] at h2; cases h2)
          clear h
          go_wp2
          go_ret
          exact ⟨by rw [HF.out]; first | done | rfl, rfl⟩
      · have HE : Hid (isNm s.data.toList = true) := Lib.hid (by rw [HA.out]; have := HK.out; rwa [List.take_of_length_le (by rw [HLEN.out]; omega)] at this)
        obtain rfl : k = s.size := by omega
        go_wp2
        go_ret
        exact ⟨by rw [HE.out]; first | done | rfl, rfl⟩
  · have t0 : ((s.size : Int) != 32) = true := by simp; omega
    have HF : Hid (isNm s.data.toList = false) := Lib.hid (by unfold isNm; rw [HLEN.out, decide_eq_false h32]; rfl)
    clear h32
    go_enter Tryd.func18, Tryd.ntmps18
    go_wp2
    go_ret
    exact ⟨by rw [HF.out]; first | done | rfl, rfl⟩
end Go.Proofs.YtomjnjpehokjbaaDoor

namespace Go.Proofs.YtomjnjpehokjbaaDoor
open Go.RowKit Go.Shelf

theorem nameL_succ {l : List Nat} {k : Nat} (h : k < l.length) : nameL (l.take (k + 1)) = nameL (l.take k) ++ [hx (l[k] / 16), hx (l[k] % 16)] := by
  unfold nameL
  rw [List.take_succ_eq_append_getElem h, List.flatMap_append]
  rfl
theorem and15 (d : Nat) (h : d < 256) : bits .and .u8 (d : Int) 15 = ((d % 16 : Nat) : Int) := by
  have : ∀ n : Fin 256, bits .and .u8 ((n.val : Nat) : Int) 15 = ((n.val % 16 : Nat) : Int) := by decide +kernel
  exact this ⟨d, h⟩
theorem hexB_lt {n : Nat} (h : n < 16) : n < (⟨#[48, 49, 50, 51, 52, 53, 54, 55, 56, 57, 97, 98, 99, 100, 101, 102]⟩ : ByteArray).size := h
theorem hexB_get (n : Nat) (h : n < 16) : (⟨#[48, 49, 50, 51, 52, 53, 54, 55, 56, 57, 97, 98, 99, 100, 101, 102]⟩ : ByteArray)[n]'(hexB_lt h) = hx n := by
  have : ∀ n : Fin 16, (⟨#[48, 49, 50, 51, 52, 53, 54, 55, 56, 57, 97, 98, 99, 100, 101, 102]⟩ : ByteArray)[n.val]'(hexB_lt n.isLt) = hx n.val := by decide +kernel
  exact this ⟨n, h⟩
theorem run_index_dig (w : World) (l : List Nat) (k : Nat) (h : k < l.length) (h16 : k < 16) : (Instr.index 42 (.agg (l.map fun (d : Nat) => Value.int .u8 d).toArray) (.int .i64 (k : Nat))).run Tryd.prog w = .ok (.int .u8 (l[k] : Nat)) w := by
  simp only [Instr.index, asIntOf]
  go_simp
set_option maxRecDepth 100000 in
set_option maxHeartbeats 1000000 in
theorem name_any {w : World} {A : Option Addr} {c : Nat} {xs : List UInt8} (hr : Row w A xs.length (b8 xs)) (hl : xs.length ≤ 9223372036854775807) :
    Calls Tryd.prog 14 #[.slice A xs.length c] w fun e w' => e = .returned (.string (⟨(nameP xs).toArray⟩)) ∧ Keeps w w' := by
  obtain ⟨i0, hi, hz0, hz1, hz2⟩ := info_parts info_u8
  have HS := Lib.hid (dsum_any (c := c) hr hl)
  rw [digP_digN] at HS
  have hdl := digN_length xs
  have hd256 := digN_lt xs
  obtain ⟨l, hll⟩ : ∃ l, digN xs = l := ⟨_, rfl⟩
  rw [hll] at HS hdl hd256
  have HLL := Lib.hid hll
  have HDL := Lib.hid hdl
  have H256 := Lib.hid hd256
  clear hr hl hll hdl hd256
  go_enter Tryd.func14, Tryd.ntmps14
  go_wp2_with fail
  refine HS.out.mono ?_
  rintro e w1 ⟨rfl, hk1⟩
  go_wp2
  go_loopw [8, 3] (fun i V wr => ∃ k : Nat, k ≤ 16 ∧ i = .int .i64 (k : Nat) ∧ wr.ownsRow w1.heap.size 5 1 V (nameL (l.take k)).length (Lib.byteCells (nameL (l.take k))) ∧ Keeps w1 wr) (fun i _ _ => 16 - (intOf i).toNat)
  case atStart => exact ⟨0, Nat.zero_le _, rfl, World.ownsRow_nil _ _ _ _, Below.refl _ _⟩
  case round =>
    obtain ⟨k, hk, rfl, hown, hkw⟩ := hrel
    by_cases hlt : k < 16
    · have hkI : (k : Int) < 16 := by omega
      have hlen : k < l.length := by rw [HDL.out]; exact hlt
      have hix := fun W => run_index_dig W l k hlen hlt
      have hd := H256.out l[k] (List.getElem_mem hlen)
      have HN := Lib.hid (nameL_succ hlen)
      obtain ⟨d, hdd⟩ : ∃ d, l[k] = d := ⟨_, rfl⟩
      rw [hdd] at hd HN
      simp only [hdd] at hix
      have hdI : (d : Int) < 256 := by omega
      have h4 : (d : Int) / 16 < 16 := by omega
      have h40 : (0 : Int) ≤ (d : Int) / 16 := by omega
      have hand : bits .and .u8 (d : Int) 15 = ((d % 16 : Nat) : Int) := and15 d hd
      obtain ⟨A3, c3, rfl, -⟩ := hown.sl
      have h5 : (d : Int) % 16 < 16 := by omega
      have h50 : (0 : Int) ≤ (d : Int) % 16 := by omega
      have he1 : (((⟨#[48, 49, 50, 51, 52, 53, 54, 55, 56, 57, 97, 98, 99, 100, 101, 102]⟩ : ByteArray)[((d : Int) / 16).toNat]'(hexB_lt (by omega))).toNat : Int) = ((hx (d / 16)).toNat : Int) := by rw [hexB_get _ (by omega)]; congr 3
      have he2 : (((⟨#[48, 49, 50, 51, 52, 53, 54, 55, 56, 57, 97, 98, 99, 100, 101, 102]⟩ : ByteArray)[((d : Int) % 16).toNat]'(hexB_lt (by omega))).toNat : Int) = ((hx (d % 16)).toNat : Int) := by rw [hexB_get _ (by omega)]; congr 3
      have hl2 : (nameL (l.take k)).length = 2 * k := by rw [nameL_length, List.length_take, Nat.min_eq_left (by omega)]
      generalize nameL (l.take k) = nm at *
      obtain ⟨n, hn⟩ : ∃ n, nm.length = n := ⟨_, rfl⟩
      rw [hn] at hown hl2 ⊢
      generalize hx (d / 16) = x1 at *
      generalize hx (d % 16) = x2 at *
      have HL2 := Lib.hid hl2
      have HNN := Lib.hid hn
      have hszr := hkw.size
      clear hl2 hn
      go_upto_region 5 with fail
      go_region_held3 (fun w' => True)
        (first | trivial)
        (first
          | (refine step_append_lies _ (by rfl) _ _ 26 (by rfl) w1.heap.size 5 i0 (.int .u8 0) 1 1 Tryd.underlying26 hi hz0 hz1 hz2 rfl (by decide) (.slice A3 n c3) n (Lib.byteCells nm) (by rfl) ((hown.alloc _).drew) ⟨wr.heap.size, 0, none⟩ 2 2 [.int .u8 (x1.toNat : Nat), .int .u8 (x2.toNat : Nat)] (by rfl) (by rfl) (World.news_of_block (cs := #[.int .u8 (x1.toNat : Nat), .int .u8 (x2.toNat : Nat)]) (t := 5) (fr := (0, 0)) (heap_alloc_new wr _)) (by simp [Value.oneCell']) (by decide) (by have := HL2.out; simp only [maxLen]; omega) (by have := HL2.out; omega) (by simp; omega) (wr.heap.size + 1) (by simp) ?_; intro gg cap w3 hown3 hgrow hat hlt3))
      all_goals
        have hk3 : Keeps w1 w3 := (((hkw.alloc hkw.size (.cells #[.int .u8 (x1.toNat : Nat), .int .u8 (x2.toNat : Nat)] 5))).drew).grown hgrow (by simp; omega) (fun b e => (hown.lt b e).1)
        have hcat : Lib.byteCells nm ++ [Value.int .u8 (x1.toNat : Nat), Value.int .u8 (x2.toNat : Nat)] = Lib.byteCells (nm ++ [x1, x2]) := by simp [Lib.byteCells]
        rw [hcat] at hown3
        have HO3 := Lib.hid hown3
        clear hown3 hcat
        go_wp2
        go_roundw
        case rel => exact ⟨k + 1, by omega, by go_num, by rw [HN.out, show (nm ++ [x1, x2]).length = n + 2 by rw [List.length_append, HNN.out]; rfl]; exact HO3.out, hk3⟩
        case measure => simp [intOf]; omega
    · have hk16 : (16 : Int) ≤ k := by omega
      have hdk : decide ((k : Int) < 16) = false := decide_eq_false (by omega)
      rw [List.take_of_length_le (by rw [HDL.out]; omega)] at hown
      have hnm : nameL l = nameP xs := by rw [nameP, HLL.out]
      rw [hnm] at hown
      have hnl : (nameP xs).length = 32 := by rw [← hnm, nameL_length, HDL.out]
      obtain ⟨A3, c3, rfl, -⟩ := hown.sl
      obtain ⟨hl0, ⟨e, h0⟩ | ⟨g, cap, cur, e, hb, hg, hnc, hcm, hcs, htk⟩⟩ := id hown
      · rw [hnl] at h0; cases h0
      · cases e
        rw [Nat.mul_one] at htk
        have hcv := run_convert_bytes_back (P := Tryd.prog) wr 26 9 5 ⟨g, 0, none⟩ c3 (nameP xs) Tryd.underlying26 Tryd.underlying5 Tryd.underlying9 (Lib.bytes_of_row (w := wr) hg htk)
        clear hown hnm hnl htk hlt hk
        go_wp2
        go_ret
        exact ⟨rfl, hk1.trans' hkw⟩
end Go.Proofs.YtomjnjpehokjbaaDoor

namespace Go.Proofs.YtomjnjpehokjbaaDoor
open Go.RowKit Go.Shelf

def isDgt (c : Nat) : Bool := decide (48 ≤ c ∧ c ≤ 57)
set_option maxRecDepth 100000 in
theorem risDigit_any {c : Nat} (hc : c < 256) (w : World) : Calls Tryd.prog 38 #[.int .u8 (c : Nat)] w fun e w' => e = .returned (.bool (isDgt c)) ∧ w' = w := by
  have hcI : (c : Int) < 256 := by omega
  unfold isDgt
  have h3 : c < 48 ∨ (48 ≤ c ∧ c ≤ 57) ∨ 57 < c := by omega
  rcases h3 with h | ⟨h, h'⟩ | h
  · have a1 : decide ((48 : Int) ≤ (c : Int)) = false := decide_eq_false (by omega)
    have a2 : decide ((c : Int) < 48) = true := decide_eq_true (by omega)
    have e : decide (48 ≤ c ∧ c ≤ 57) = false := decide_eq_false (by omega)
    clear h
    go_enter Tryd.func38, Tryd.ntmps38
    go_wp2
    go_ret
    exact ⟨by rw [e]; first | done | rfl, rfl⟩
  · have a1 : decide ((48 : Int) ≤ (c : Int)) = true := decide_eq_true (by omega)
    have a2 : decide ((c : Int) ≤ 57) = true := decide_eq_true (by omega)
    have e : decide (48 ≤ c ∧ c ≤ 57) = true := decide_eq_true (by omega)
    clear h h'
    go_enter Tryd.func38, Tryd.ntmps38
    go_wp2
    go_ret
    exact ⟨by rw [e]; first | done | rfl, rfl⟩
  · have a1 : decide ((48 : Int) ≤ (c : Int)) = true := decide_eq_true (by omega)
    have a2 : decide ((c : Int) ≤ 57) = false := decide_eq_false (by omega)
    have e : decide (48 ≤ c ∧ c ≤ 57) = false := decide_eq_false (by omega)
    clear h
    go_enter Tryd.func38, Tryd.ntmps38
    go_wp2
    go_ret
    exact ⟨by rw [e]; first | done | rfl, rfl⟩
set_option maxRecDepth 100000 in
set_option maxHeartbeats 1000000 in
theorem risName_any (s : ByteArray) (w : World) (hs : s.size ≤ 9223372036854775807) : Calls Tryd.prog 19 #[.string s] w fun e w' => e = .returned (.bool (isNm s.data.toList)) ∧ w = w' := by
  have hsI : (s.size : Int) ≤ 9223372036854775807 := by omega
  have hlen : s.data.toList.length = s.size := by rw [Array.length_toList]; rfl
  have HLEN := Lib.hid hlen
  clear hlen
  by_cases h32 : s.size = 32
  · have t0 : ((s.size : Int) != 32) = false := by simp [h32]
    have HA : Hid (isNm s.data.toList = s.data.toList.all isHx) := Lib.hid (by unfold isNm; rw [HLEN.out, h32]; rfl)
    have H32 := Lib.hid h32
    clear h32
    go_enter Tryd.func19, Tryd.ntmps19
    go_wp2
    go_loop [3] (fun i => ∃ k : Nat, k ≤ 32 ∧ i = .int .i64 (k : Nat) ∧ Hid ((s.data.toList.take k).all isHx = true)) (fun i => 32 - (intOf i).toNat)
    case atStart => exact ⟨0, Nat.zero_le _, rfl, Lib.hid (by simp)⟩
    case round =>
      obtain ⟨k, hk, rfl, HK⟩ := hrel
      by_cases hlt0 : k < 32
      · have hlt : k < s.size := by rw [H32.out]; exact hlt0
        have hkI : (k : Int) < s.size := by omega
        have hk32 : (k : Int) < 32 := by omega
        have hS := all_take_byte (p := isHx) (l := s.data.toList) (k := k) (by rw [HLEN.out]; exact hlt)
        have hg : s.data.toList.getD k 0 = s[k] := by
          have h2 : k < s.data.toList.length := by rw [HLEN.out]; exact hlt
          rw [List.getD, List.getElem?_eq_getElem h2]
          rfl
        rw [hg] at hS
        have hx : isHx s[k] = (decide (48 ≤ s[k].toNat ∧ s[k].toNat ≤ 57) || decide (97 ≤ s[k].toNat ∧ s[k].toNat ≤ 102)) := rfl
        have hb256 : s[k].toNat < 256 := UInt8.toNat_lt _
        have HS := Lib.hid hS
        have HX := Lib.hid hx
        clear hS hg hx
        have h4 : (48 ≤ s[k].toNat ∧ s[k].toNat ≤ 57) ∨ (¬ (48 ≤ s[k].toNat ∧ s[k].toNat ≤ 57) ∧ s[k].toNat < 97) ∨ (97 ≤ s[k].toNat ∧ s[k].toNat ≤ 102) ∨ 102 < s[k].toNat := by omega
        obtain ⟨b, hb⟩ : ∃ b, s[k].toNat = b := ⟨_, rfl⟩
        rw [hb] at h4 HX hb256
        obtain ⟨D, hD⟩ : ∃ D, isDgt b = D := ⟨_, rfl⟩
        have HDG := Lib.hid (risDigit_any hb256)
        rw [hD] at HDG
        rcases h4 with ⟨h, h'⟩ | ⟨h, h'⟩ | ⟨h, h'⟩ | h
        · obtain rfl : D = true := by rw [← hD]; exact decide_eq_true ⟨h, h'⟩
          have HT : Hid ((s.data.toList.take (k + 1)).all isHx = true) := Lib.hid (by
            have h1 : isHx s[k] = true := by rw [HX.out]; simp; omega
            rw [HS.out, HK.out, h1]; rfl)
          clear h h' hD
          go_wp2_with fail
          refine (HDG.out _).mono ?_
          rintro e w2 ⟨rfl, rfl⟩
          go_wp2
          go_round
          case rel => exact ⟨k + 1, by omega, by go_num, HT⟩
          case measure => simp [intOf]; omega
        · obtain rfl : D = false := by rw [← hD]; exact decide_eq_false h
          have a3 : decide ((b : Int) < 97) = true := decide_eq_true (by omega)
          have HF : Hid (isNm s.data.toList = false) := Lib.hid (by
            rw [HA.out]
            have h1 : isHx s[k] = false := by rw [HX.out]; simp; omega
            have h2 : (s.data.toList.take (k + 1)).all isHx = false := by rw [HS.out, h1]; simp
            cases hq : s.data.toList.all isHx with
            | false => rfl
            | true => rw [List.all_eq_true.2 (fun c hc => List.all_eq_true.1 hq c (List.mem_of_mem_take hc))] at h2; cases h2)
          clear h h' hD
          go_wp2_with fail
          refine (HDG.out _).mono ?_
          rintro e w2 ⟨rfl, rfl⟩
          go_wp2
          go_ret
          exact ⟨by rw [HF.out]; first | done | rfl, rfl⟩
        · obtain rfl : D = false := by rw [← hD]; exact decide_eq_false (by omega)
          have a3 : decide ((b : Int) < 97) = false := decide_eq_false (by omega)
          have a4 : decide ((102 : Int) < (b : Int)) = false := decide_eq_false (by omega)
          have HT : Hid ((s.data.toList.take (k + 1)).all isHx = true) := Lib.hid (by
            have h1 : isHx s[k] = true := by rw [HX.out]; simp; omega
            rw [HS.out, HK.out, h1]; rfl)
          clear h h' hD
          go_wp2_with fail
          refine (HDG.out _).mono ?_
          rintro e w2 ⟨rfl, rfl⟩
          go_wp2
          go_round
          case rel => exact ⟨k + 1, by omega, by go_num, HT⟩
          case measure => simp [intOf]; omega
        · obtain rfl : D = false := by rw [← hD]; exact decide_eq_false (by omega)
          have a3 : decide ((b : Int) < 97) = false := decide_eq_false (by omega)
          have a4 : decide ((102 : Int) < (b : Int)) = true := decide_eq_true (by omega)
          have HF : Hid (isNm s.data.toList = false) := Lib.hid (by
            rw [HA.out]
            have h1 : isHx s[k] = false := by rw [HX.out]; simp; omega
            have h2 : (s.data.toList.take (k + 1)).all isHx = false := by rw [HS.out, h1]; simp
            cases hq : s.data.toList.all isHx with
            | false => rfl
            | true => rw [List.all_eq_true.2 (fun c hc => List.all_eq_true.1 hq c (List.mem_of_mem_take hc))] at h2; cases h2)
          clear h hD
          go_wp2_with fail
          refine (HDG.out _).mono ?_
          rintro e w2 ⟨rfl, rfl⟩
          go_wp2
          go_ret
          exact ⟨by rw [HF.out]; first | done | rfl, rfl⟩
      · have HE : Hid (isNm s.data.toList = true) := Lib.hid (by rw [HA.out]; have := HK.out; rwa [List.take_of_length_le (by rw [HLEN.out, H32.out]; omega)] at this)
        have hk32 : (32 : Int) ≤ k := by omega
        have hdk : decide ((k : Int) < 32) = false := decide_eq_false (by omega)
        clear hlt0 hk
        go_wp2
        go_ret
        exact ⟨by rw [HE.out]; first | done | rfl, rfl⟩
  · have t0 : ((s.size : Int) != 32) = true := by simp; omega
    have HF : Hid (isNm s.data.toList = false) := Lib.hid (by unfold isNm; rw [HLEN.out, decide_eq_false h32]; rfl)
    clear h32
    go_enter Tryd.func19, Tryd.ntmps19
    go_wp2
    go_ret
    exact ⟨by rw [HF.out]; first | done | rfl, rfl⟩
end Go.Proofs.YtomjnjpehokjbaaDoor

namespace Go.Proofs.YtomjnjpehokjbaaDoor
open Go.RowKit Go.Shelf

theorem list16 {l : List Nat} (h : l.length = 16) : ∃ d0 d1 d2 d3 d4 d5 d6 d7 d8 d9 d10 d11 d12 d13 d14 d15, l = [d0, d1, d2, d3, d4, d5, d6, d7, d8, d9, d10, d11, d12, d13, d14, d15] := by
  match l, h with
  | [a0, a1, a2, a3, a4, a5, a6, a7, a8, a9, a10, a11, a12, a13, a14, a15], _ => exact ⟨_, _, _, _, _, _, _, _, _, _, _, _, _, _, _, _, rfl⟩
theorem digs_get {l : List Nat} {k : Nat} (h : k < l.length) : (l.map fun (d : Nat) => Value.int .u8 (d : Nat))[k]? = some (.int .u8 (l[k] : Nat)) := by
  rw [List.getElem?_map, List.getElem?_eq_getElem h]
  rfl
theorem Own.dig {w : World} {D : Nat} {t : TypeId} {l : List Nat} {k d : Nat} (g : Own w D t (l.map fun (d : Nat) => Value.int .u8 (d : Nat))) (h : l[k]? = some d) : w.cell? ⟨D, k, none⟩ = some (.int .u8 (d : Nat)) := by
  have c := g.cell k
  rw [c, List.getElem?_map, h]
  rfl
set_option maxRecDepth 100000 in
set_option maxHeartbeats 4000000 in
theorem rname_any {w : World} {A : Option Addr} {c : Nat} {xs : List UInt8} (hr : Row w A xs.length (b8 xs)) (hl : xs.length ≤ 9223372036854775807) :
    Calls Tryd.prog 17 #[.slice A xs.length c] w fun e w' => e = .returned (.string (⟨(nameP xs).toArray⟩)) ∧ Keeps w w' := by
  obtain ⟨i0, hi, hz0, hz1, hz2⟩ := info_parts info_u8
  have HS := Lib.hid (rsum_any (c := c) hr hl)
  rw [digP_digN] at HS
  have hdl := digN_length xs
  have hd256 := digN_lt xs
  obtain ⟨l, hll⟩ : ∃ l, digN xs = l := ⟨_, rfl⟩
  rw [hll] at HS hdl hd256
  obtain ⟨d0, d1, d2, d3, d4, d5, d6, d7, d8, d9, d10, d11, d12, d13, d14, d15, hd⟩ := list16 hdl
  have HLL := Lib.hid hll
  have HDL := Lib.hid hdl
  have H256 := Lib.hid hd256
  have HDD := Lib.hid hd
  rw [hd] at HS
  simp only [List.map_cons, List.map_nil] at HS
  clear hr hl hll hdl hd256 hd
  go_enter Tryd.func17, Tryd.ntmps17
  go_wp2_with fail
  refine HS.out.mono ?_
  rintro e w1 ⟨rfl, hk1⟩
  go_upto_region 2 with fail
  obtain ⟨W, hW⟩ : ∃ W, w1.alloc (.cells #[.int .u8 (d0 : Nat), .int .u8 (d1 : Nat), .int .u8 (d2 : Nat), .int .u8 (d3 : Nat), .int .u8 (d4 : Nat), .int .u8 (d5 : Nat), .int .u8 (d6 : Nat), .int .u8 (d7 : Nat), .int .u8 (d8 : Nat), .int .u8 (d9 : Nat), .int .u8 (d10 : Nat), .int .u8 (d11 : Nat), .int .u8 (d12 : Nat), .int .u8 (d13 : Nat), .int .u8 (d14 : Nat), .int .u8 (d15 : Nat)] 42) = W := ⟨_, rfl⟩
  rw [hW]
  have gD : Own W w1.heap.size 42 (l.map fun (d : Nat) => Value.int .u8 (d : Nat)) := by
    rw [HDD.out, ← hW]
    exact Own.new w1 _ _
  have hkW : Keeps w1 W := hW ▸ box2 w1 _
  have hkw0 := hk1.trans' hkW
  have hDlt := gD.lt
  have hwD := hk1.size
  generalize w1.heap.size = D at *
  clear hW hkW hk1 HS HDD
  have hlit := World.ownsRow_lit (base := D + 1) (e := 5) (size := 1) W #[] 0 (by omega) (by decide) rfl
  have hkl := hkw0.trans' (box2 W (.cells #[] 5))
  have gl := gD.alloc (.cells #[] 5)
  go_upto_region 4 with fail
  obtain ⟨W2, hW2⟩ : ∃ W2, W.alloc (.cells #[] 5) = W2 := ⟨_, rfl⟩
  rw [hW2] at hlit hkl gl ⊢
  have hD2 : D < W2.heap.size := gl.lt
  generalize W.heap.size = Z at *
  clear hW2 gD hkw0 hDlt
  go_wp2
  go_loopw [6, 5] (fun i V wr => ∃ k : Nat, k ≤ 16 ∧ i = .int .i64 (k : Nat) ∧ wr.ownsRow (D + 1) 5 1 V (nameL (l.take k)).length (Lib.byteCells (nameL (l.take k))) ∧ Own wr D 42 (l.map fun (d : Nat) => Value.int .u8 (d : Nat)) ∧ Keeps w wr) (fun i _ _ => 16 - (intOf i).toNat)
  case atStart => exact ⟨0, Nat.zero_le _, rfl, hlit, gl, hkl⟩
  case round =>
    clear hlit gl hkl hD2
    obtain ⟨k, hk, rfl, hown, gD, hkw⟩ := hrel
    by_cases hlt : k < 16
    · have hkI : (k : Int) < 16 := by omega
      have hlen : k < l.length := by rw [HDL.out]; exact hlt
      have c1 := gD.cell k
      rw [digs_get hlen] at c1
      have c2 : wr.drew.cell? ⟨D, k, none⟩ = _ := c1
      have hd := H256.out l[k] (List.getElem_mem hlen)
      have HN := Lib.hid (nameL_succ hlen)
      obtain ⟨d, hdd⟩ : ∃ d, l[k] = d := ⟨_, rfl⟩
      have hdk : l[k]? = some d := by rw [List.getElem?_eq_getElem hlen, hdd]
      rw [hdd] at hd HN c1 c2
      have hdI : (d : Int) < 256 := by omega
      obtain ⟨A3, c3, rfl, -⟩ := hown.sl
      obtain ⟨q, hq⟩ : ∃ q, d / 16 = q := ⟨_, rfl⟩
      obtain ⟨r, hr⟩ : ∃ r, d % 16 = r := ⟨_, rfl⟩
      have hq16 : q < 16 := by omega
      have hr16 : r < 16 := by omega
      have t1 : (d : Int) / 16 = (q : Int) := by omega
      have t3 : IntKind.u8.wrap (q : Int) = (q : Int) := by rw [IntKind.wrap_u8]; omega
      have t2 : (d : Int).tmod 16 = (r : Int) := by rw [Int.tmod_eq_emod_of_nonneg (by omega)]; omega
      rw [hq, hr] at HN
      have hqI : (q : Int) < 16 := by omega
      have hrI : (r : Int) < 16 := by omega
      have he1 : (⟨#[48, 49, 50, 51, 52, 53, 54, 55, 56, 57, 97, 98, 99, 100, 101, 102]⟩ : ByteArray)[q]'(hexB_lt hq16) = hx q := hexB_get _ hq16
      have he2 : (⟨#[48, 49, 50, 51, 52, 53, 54, 55, 56, 57, 97, 98, 99, 100, 101, 102]⟩ : ByteArray)[r]'(hexB_lt hr16) = hx r := hexB_get _ hr16
      clear hq hr
      have hl2 : (nameL (l.take k)).length = 2 * k := by rw [nameL_length, List.length_take, Nat.min_eq_left (by omega)]
      generalize nameL (l.take k) = nm at *
      obtain ⟨n, hn⟩ : ∃ n, nm.length = n := ⟨_, rfl⟩
      rw [hn] at hown hl2 ⊢
      generalize hx q = x1 at *
      generalize hx r = x2 at *
      have HL2 := Lib.hid hl2
      have HNN := Lib.hid hn
      have hszr := hkw.size
      have hDr := gD.lt
      clear hl2 hn
      go_upto_region 7 with fail
      go_region_held3 (fun w' => w'.cell? ⟨D, k, none⟩ = some (.int .u8 (d : Nat)))
        (first | with_reducible exact c1 | with_reducible exact c2 | with_reducible exact Own.dig (gD.alloc _) hdk | with_reducible exact Own.dig (gD.alloc _).drew hdk | exact Own.dig (((gD.alloc _).drew).grown hgrow (fun e => by have := (hown.lt D e.symm).1; omega)) hdk)
        (first
          | (refine step_append_lies _ (by rfl) _ _ 26 (by rfl) (D + 1) 5 i0 (.int .u8 0) 1 1 Tryd.underlying26 hi hz0 hz1 hz2 rfl (by decide) (.slice A3 n c3) n (Lib.byteCells nm) (by rfl) ((hown.alloc _).drew) ⟨wr.heap.size, 0, none⟩ 2 2 [.int .u8 (x1.toNat : Nat), .int .u8 (x2.toNat : Nat)] (by rfl) (by rfl) (World.news_of_block (cs := #[.int .u8 (x1.toNat : Nat), .int .u8 (x2.toNat : Nat)]) (t := 5) (fr := (0, 0)) (heap_alloc_new wr _)) (by simp [Value.oneCell']) (by decide) (by have := HL2.out; simp only [maxLen]; omega) (by have := HL2.out; omega) (by simp; omega) (wr.heap.size + 1) (by simp) ?_; intro gg cap w3 hown3 hgrow hat hlt3))
      all_goals
        have hk3 : Keeps w w3 := (((hkw.alloc hkw.size (.cells #[.int .u8 (x1.toNat : Nat), .int .u8 (x2.toNat : Nat)] 5))).drew).grown hgrow (by simp; omega) (fun b e => by have := (hown.lt b e).1; omega)
        have gD3 : Own w3 D 42 (l.map fun (d : Nat) => Value.int .u8 (d : Nat)) := ((gD.alloc _).drew).grown hgrow (fun e => by have := (hown.lt D e.symm).1; omega)
        have hcat : Lib.byteCells nm ++ [Value.int .u8 (x1.toNat : Nat), Value.int .u8 (x2.toNat : Nat)] = Lib.byteCells (nm ++ [x1, x2]) := by simp [Lib.byteCells]
        rw [hcat] at hown3
        have HO3 := Lib.hid hown3
        clear hown3 hcat
        go_wp2
        go_roundw
        case rel => exact ⟨k + 1, by omega, by go_num, by rw [HN.out, show (nm ++ [x1, x2]).length = n + 2 by rw [List.length_append, HNN.out]; rfl]; exact HO3.out, gD3, hk3⟩
        case measure => simp [intOf]; omega
    · have hk16 : (16 : Int) ≤ k := by omega
      have hdk : decide ((k : Int) < 16) = false := decide_eq_false (by omega)
      rw [List.take_of_length_le (by rw [HDL.out]; omega)] at hown
      have hnm : nameL l = nameP xs := by rw [nameP, HLL.out]
      rw [hnm] at hown
      have hnl : (nameP xs).length = 32 := by rw [← hnm, nameL_length, HDL.out]
      obtain ⟨A3, c3, rfl, -⟩ := hown.sl
      obtain ⟨hl0, ⟨e, h0⟩ | ⟨g, cap, cur, e, hb, hg, hnc, hcm, hcs, htk⟩⟩ := id hown
      · rw [hnl] at h0; cases h0
      · cases e
        rw [Nat.mul_one] at htk
        have hcv := run_convert_bytes_back (P := Tryd.prog) wr 26 9 5 ⟨g, 0, none⟩ c3 (nameP xs) Tryd.underlying26 Tryd.underlying5 Tryd.underlying9 (Lib.bytes_of_row (w := wr) hg htk)
        clear hown hnm hnl htk hlt hk
        go_wp2
        go_ret
        exact ⟨rfl, hkw⟩
end Go.Proofs.YtomjnjpehokjbaaDoor
