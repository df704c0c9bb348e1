/- What decoding a file gives, in plain lists; the file of a frame is decoded to the frame. -/
import Derived.Test.YtbkcnhbdjllojaaFile
import Derived.Test.YtbkcnhbdjllojaaRest
import Derived.Test.YtbkcnhbdjllojaaResD
namespace Go.Proofs.Ytbkcnhbdjllojaa
open Go.RowKit

/-- where a byte first stands -/
def idx (c : Nat) : List Nat → Option Nat
  | [] => none
  | x :: l => if x = c then some 0 else (idx c l).map (· + 1)
def strN (l : List Nat) : ByteArray := ⟨(l.map UInt8.ofNat).toArray⟩
def cutS (l : List Nat) : Ent := match idx 32 l with
  | some i => (strN (l.take i), strN (l.drop (i + 1)))
  | none => (strN l, ⟨#[]⟩)
def metaP : Nat → List Nat → List Ent → Option (List Ent × List Nat)
  | 0, _, _ => none
  | n + 1, rest, acc => match idx 10 rest with
    | none => none
    | some i => if i = 0 then some (acc, rest.drop 1) else if acc.length + 1 ≤ 32 then metaP n (rest.drop (i + 1)) (acc ++ [cutS (rest.take i)]) else none
def be4 (l : List Nat) : Nat := l.foldl (fun a b => 256 * a + b) 0
def rvals (tl : List Nat) (k : Nat) : Nat → Nat × Bool → List Nat → List Nat × Nat × Bool
  | 0, s, acc => (acc, s)
  | n + 1, s, acc => rvals tl k n (rcode tl k s).2 (acc ++ [(rcode tl k s).1])
def rowsP (W : Nat) : Nat → List Nat → List Nat → Option (List Nat)
  | 0, _, acc => some acc
  | _ + 1, [], _ => none
  | h + 1, k :: tl, acc => if 16 < k then none else if (rvals tl k W (0, false) acc).2.2 then none else
    rowsP W h (tl.drop (((rvals tl k W (0, false) acc).2.1 + 7) / 8)) (rvals tl k W (0, false) acc).1
def szOf (rest : List Nat) (i : Nat) : Nat := be4 ((rest.drop (4 * i)).take 4)
def ints (l : List Nat) : List Int := l.map fun (x : Nat) => (x : Int)
def bodyP (es : List Ent) (rest : List Nat) : Option (List Ent × Nat × Nat × Nat × List Nat) :=
  if rest.length < 12 then none else if szOf rest 0 < 1 ∨ 64 < szOf rest 0 ∨ szOf rest 1 < 1 ∨ 64 < szOf rest 1 then none else
  match rowsP (szOf rest 0) (szOf rest 1) (rest.drop 12) [] with
  | none => none
  | some l => if restC (szOf rest 0) (szOf rest 1) (szOf rest 2) (ints l) = 0 then some (es, szOf rest 0, szOf rest 1, szOf rest 2, l) else none
def decP (bs : List Nat) : Option (List Ent × Nat × Nat × Nat × List Nat) :=
  if bs.take 7 = magicB then match metaP 33 (bs.drop 7) [] with
    | none => none
    | some (es, rest) => bodyP es rest
  else none

theorem strN_bytesN (s : ByteArray) : strN (bytesN s) = s := by
  unfold strN bytesN
  rw [List.map_map]
  have : (UInt8.ofNat ∘ UInt8.toNat) = id := by funext x; simp
  rw [this, List.map_id]
theorem idx_append {c : Nat} : ∀ (l r : List Nat), (∀ x ∈ l, x ≠ c) → idx c (l ++ c :: r) = some l.length
  | [], r, _ => by simp [idx]
  | x :: l, r, h => by
    have ih := idx_append l r fun y hy => h y (List.mem_cons_of_mem _ hy)
    simp [idx, h x List.mem_cons_self, ih]
theorem key_bytes {k : ByteArray} (h : keyB k = true) : (∀ x ∈ bytesN k, x ≠ 10 ∧ x ≠ 32) ∧ 0 < (bytesN k).length := by
  have hk := of_decide_eq_true h
  refine ⟨fun x hx => ?_, by rw [bytesN_length]; omega⟩
  obtain ⟨c, hc, rfl⟩ := List.mem_map.1 hx
  obtain ⟨j, hj, rfl⟩ := List.mem_iff_getElem.1 hc
  have := hk.2.2 j (by simpa using hj)
  have e : k.data.toList[j] = k[j]'(by simpa using hj) := rfl
  rw [e]
  generalize (k[j]'(by simpa using hj)) = c at this
  simp [gdK] at this
  omega
theorem val_bytes {v : ByteArray} (h : valC v = 0) : ∀ x ∈ bytesN v, x ≠ 10 := fun x hx => by
  unfold valC at h
  split at h
  · cases h
  · split at h
    · rename_i h2
      obtain ⟨c, hc, rfl⟩ := List.mem_map.1 hx
      obtain ⟨j, hj, rfl⟩ := List.mem_iff_getElem.1 hc
      have := h2 j (by simpa using hj)
      have e : v.data.toList[j] = v[j]'(by simpa using hj) := rfl
      rw [e]
      omega
    · cases h
/-- entries that are right, each by itself -/
theorem entC_each : ∀ (es : List Ent) (p : Option ByteArray), entC p es = 0 → ∀ e ∈ es, keyB e.1 = true ∧ valC e.2 = 0
  | [], _, _, _, h => by cases h
  | (k, v) :: r, p, h, e, he => by
    have h1 : keyB k = true := by
      cases hk : keyB k with
      | true => rfl
      | false => rw [entC, if_pos hk] at h; cases h
    rw [entC, if_neg (by simp [h1])] at h
    split at h
    · cases h
    · split at h
      · rename_i h3
        exact absurd h h3
      · rename_i h3
        rcases List.mem_cons.1 he with rfl | he
        · exact ⟨h1, Classical.byContradiction h3⟩
        · exact entC_each r _ h e he
theorem cutS_ent {k v : ByteArray} (hk : keyB k = true) : cutS (bytesN k ++ [32] ++ bytesN v) = (k, v) := by
  unfold cutS
  have h1 : bytesN k ++ [32] ++ bytesN v = bytesN k ++ 32 :: bytesN v := by simp
  rw [h1, idx_append _ _ fun x hx => ((key_bytes hk).1 x hx).2]
  simp only [List.take_left']
  have h2 : (bytesN k ++ 32 :: bytesN v).drop ((bytesN k).length + 1) = bytesN v := by
    rw [show bytesN k ++ 32 :: bytesN v = (bytesN k ++ [32]) ++ bytesN v by simp, show (bytesN k).length + 1 = (bytesN k ++ [32]).length by simp, List.drop_left]
  rw [h2, strN_bytesN, strN_bytesN]
theorem metaP_ents : ∀ (es : List Ent) (n : Nat) (acc : List Ent) (tl : List Nat), (∀ e ∈ es, keyB e.1 = true ∧ valC e.2 = 0) → es.length + 1 ≤ n → acc.length + es.length ≤ 32 →
    metaP n (es.flatMap entB ++ 10 :: tl) acc = some (acc ++ es, tl)
  | [], n + 1, acc, tl, _, _, _ => by simp [metaP, idx]
  | [], 0, _, _, _, h, _ => by omega
  | e :: es, 0, _, _, _, h, _ => by simp at h
  | (k, v) :: es, n + 1, acc, tl, h, hn, hl => by
    obtain ⟨h1, h2⟩ := h (k, v) List.mem_cons_self
    obtain ⟨hk1, hk2⟩ := key_bytes h1
    have hv := val_bytes h2
    have ih := metaP_ents es n (acc ++ [(k, v)]) tl (fun e he => h e (List.mem_cons_of_mem _ he)) (by simp at hn; omega) (by simp at hl ⊢; omega)
    have e1 : ((k, v) :: es).flatMap entB ++ 10 :: tl = (bytesN k ++ [32] ++ bytesN v) ++ 10 :: (es.flatMap entB ++ 10 :: tl) := by simp [entB]
    have e2 : idx 10 (((k, v) :: es).flatMap entB ++ 10 :: tl) = some (bytesN k ++ [32] ++ bytesN v).length := by
      rw [e1]
      refine idx_append _ _ fun x hx => ?_
      simp only [List.mem_append, List.mem_singleton] at hx
      rcases hx with (hx | rfl) | hx
      · exact (hk1 x hx).1
      · omega
      · exact hv x hx
    have e3 : (bytesN k ++ [32] ++ bytesN v).length ≠ 0 := by simp
    rw [metaP, e2]
    simp only
    rw [if_neg e3, if_pos (by simp at hl; omega), e1, List.take_left, cutS_ent h1]
    have e4 : ((bytesN k ++ [32] ++ bytesN v) ++ 10 :: (es.flatMap entB ++ 10 :: tl)).drop ((bytesN k ++ [32] ++ bytesN v).length + 1) = es.flatMap entB ++ 10 :: tl := by
      have e5 : ((bytesN k ++ [32] ++ bytesN v) ++ [10]).length = (bytesN k ++ [32] ++ bytesN v).length + 1 := List.length_append
      have e6 : (bytesN k ++ [32] ++ bytesN v) ++ 10 :: (es.flatMap entB ++ 10 :: tl) = ((bytesN k ++ [32] ++ bytesN v) ++ [10]) ++ (es.flatMap entB ++ 10 :: tl) := by simp
      rw [e6, ← e5, List.drop_left]
    rw [e4, ih]
    simp
theorem be4_four {n : Nat} (h : n < 4294967296) : be4 (fourB n) = n := by
  simp [be4, fourB]
  omega
theorem oct_four (n : Nat) : Oct (fourB n) := fun x hx => by simp [fourB] at hx; omega
theorem sizes_get {W H m : Nat} (tl : List Nat) (hW : W ≤ 64) (hH : H ≤ 64) (hm : m ≤ 65535) : szOf (sizesB W H m ++ tl) 0 = W ∧ szOf (sizesB W H m ++ tl) 1 = H ∧ szOf (sizesB W H m ++ tl) 2 = m ∧ (sizesB W H m ++ tl).drop 12 = tl := by
  have h1 : (fourB W).length = 4 := rfl
  refine ⟨?_, ?_, ?_, rfl⟩
  · show be4 (fourB W) = W
    exact be4_four (by omega)
  · show be4 (fourB H) = H
    exact be4_four (by omega)
  · show be4 (fourB m) = m
    exact be4_four (by omega)
/-- the bits of some bytes begin with these -/
def Begins (xs : List Nat) (at_ : Nat) (bs : List Bool) : Prop := ∀ i, i < bs.length → at_ + i < 8 * xs.length ∧ bitN xs (at_ + i) = if bs.getD i false then 1 else 0
theorem Begins.tail {xs : List Nat} {at_ : Nat} {b : Bool} {bs : List Bool} (h : Begins xs at_ (b :: bs)) : Begins xs (at_ + 1) bs := fun i hi => by
  have := h (i + 1) (by simp; omega)
  rw [show at_ + 1 + i = at_ + (i + 1) by omega]
  exact this
theorem Begins.append {xs : List Nat} : ∀ {at_ : Nat} {bs cs : List Bool}, Begins xs at_ (bs ++ cs) → Begins xs (at_ + bs.length) cs
  | _, [], _, h => h
  | at_, b :: bs, cs, h => by
    have := Begins.append h.tail
    rw [List.length_cons, show at_ + (bs.length + 1) = at_ + 1 + bs.length by omega]
    exact this
theorem Begins.bit {xs : List Nat} {at_ : Nat} {b : Bool} {bs : List Bool} (h : Begins xs at_ (b :: bs)) : rbit xs (at_, false) = (if b then 1 else 0, at_ + 1, false) := by
  have := h 0 (by simp)
  rw [rbit, if_pos (by simpa using this.1)]
  simp only [Nat.add_zero] at this
  rw [this.2]
  rfl
theorem rones_begin {xs : List Nat} : ∀ (q n at_ : Nat) (cs : List Bool), Begins xs at_ (List.replicate q true ++ false :: cs) → q < n → rones xs n (at_, false) = (q, at_ + q + 1, false)
  | 0, n + 1, at_, cs, h, _ => by
    have hb := Begins.bit (b := false) (bs := cs) h
    rw [rones, hb]
    simp
  | q + 1, n + 1, at_, cs, h, hn => by
    have hb := Begins.bit (b := true) (bs := List.replicate q true ++ false :: cs) h
    have ih := rones_begin q n (at_ + 1) cs (Begins.tail (b := true) h) (by omega)
    rw [rones, hb]
    simp only [if_true]
    rw [ih]
    simp
    omega
  | _, 0, _, _, _, h => by omega
theorem rbits_begin {xs : List Nat} : ∀ (bs cs : List Bool) (v at_ : Nat), Begins xs at_ (bs ++ cs) → rbits xs bs.length v (at_, false) = (bs.foldl (fun a b => 2 * a + if b then 1 else 0) v, at_ + bs.length, false)
  | [], _, _, _, _ => rfl
  | b :: bs, cs, v, at_, h => by
    have hb := Begins.bit (b := b) (bs := bs ++ cs) h
    have ih := rbits_begin bs cs (2 * v + if b then 1 else 0) (at_ + 1) (Begins.tail (b := b) h)
    rw [List.length_cons, rbits, hb]
    simp only
    rw [ih, List.foldl_cons, show at_ + 1 + bs.length = at_ + (bs.length + 1) by omega]
theorem rcode_begin {xs : List Nat} {at_ k v : Nat} {cs : List Bool} (h : Begins xs at_ (codeB k v ++ cs)) : rcode xs k (at_, false) = (v, at_ + (codeB k v).length, false) := by
  have h1 : Begins xs at_ (List.replicate (v / 2 ^ k) true ++ false :: (lowB k v ++ cs)) := by simpa [codeB] using h
  have h2 : Begins xs (at_ + v / 2 ^ k + 1) (lowB k v ++ cs) := by
    have := Begins.append (bs := List.replicate (v / 2 ^ k) true) h1
    rw [List.length_replicate] at this
    exact this.tail
  have hq : v / 2 ^ k < rfuel xs (at_, false) := by
    have := h1 (v / 2 ^ k) (by simp)
    unfold rfuel
    simp only
    omega
  have h3 := rbits_begin (lowB k v) cs (v / 2 ^ k) (at_ + v / 2 ^ k + 1) h2
  rw [lowB_length] at h3
  rw [rcode, rones_begin _ _ _ _ h1 hq]
  simp only
  rw [h3, lowB_bits, codeB_length]
  congr 2
  omega
theorem rvals_begin {xs : List Nat} {k : Nat} : ∀ (l : List Nat) (at_ : Nat) (acc : List Nat) (cs : List Bool), Begins xs at_ (codesB k l ++ cs) → rvals xs k l.length (at_, false) acc = (acc ++ l, at_ + (codesB k l).length, false)
  | [], _, _, _, _ => by simp [rvals, codesB]
  | v :: l, at_, acc, cs, h => by
    have e : codesB k (v :: l) = codeB k v ++ codesB k l := by simp [codesB]
    rw [e, List.append_assoc] at h
    have h1 := rcode_begin h
    have ih := rvals_begin l (at_ + (codeB k v).length) (acc ++ [v]) cs (Begins.append h)
    rw [List.length_cons, rvals, h1]
    simp only
    rw [ih, e, List.length_append, List.append_assoc, Nat.add_assoc]
    rfl
theorem begins_pack (bs : List Bool) (tl : List Nat) : Begins (pack bs ++ tl) 0 (bs ++ []) := fun i hi => by
  rw [List.append_nil] at hi ⊢
  rw [Nat.zero_add]
  refine ⟨?_, bitN_pack hi tl⟩
  rw [List.length_append, pack_length]
  omega
/-- a row is read back -/
theorem rvals_row (l : List Nat) (k : Nat) (acc tl : List Nat) : rvals (pack (codesB k l) ++ tl) k l.length (0, false) acc = (acc ++ l, (codesB k l).length, false) := by
  have := rvals_begin (k := k) l 0 acc [] (begins_pack (codesB k l) tl)
  rw [this, Nat.zero_add]
theorem rowsP_rows {l : List Int} {W : Nat} : ∀ (h y : Nat) (acc tl : List Nat), (∀ j, y ≤ j → j < y + h → (rowOf l W j).length = W) →
    rowsP W h (((List.range' y h).flatMap fun y => rowN (rowOf l W y)) ++ tl) acc = some (acc ++ (List.range' y h).flatMap fun y => (rowOf l W y).map Int.toNat)
  | 0, y, acc, tl, _ => by simp [rowsP]
  | h + 1, y, acc, tl, hl => by
    have hy := hl y (Nat.le_refl _) (by omega)
    have ih := rowsP_rows h (y + 1) (acc ++ (rowOf l W y).map Int.toNat) tl fun j h1 h2 => hl j (by omega) (by omega)
    have e : ((List.range' y (h + 1)).flatMap fun y => rowN (rowOf l W y)) ++ tl = bestI (rowOf l W y) :: (pack (codesB (bestI (rowOf l W y)) ((rowOf l W y).map Int.toNat)) ++ (((List.range' (y + 1) h).flatMap fun y => rowN (rowOf l W y)) ++ tl)) := by
      simp [List.range'_succ, rowN]
    have hb : ¬ 16 < bestI (rowOf l W y) := by have := bestU_le (rowOf l W y) 17; unfold bestI; omega
    have hv := rvals_row ((rowOf l W y).map Int.toNat) (bestI (rowOf l W y)) acc (((List.range' (y + 1) h).flatMap fun y => rowN (rowOf l W y)) ++ tl)
    rw [List.length_map, hy] at hv
    rw [e, rowsP, if_neg hb, hv]
    simp only
    rw [if_neg (by simp), ← pack_length, List.drop_left, ih]
    simp [List.range'_succ]
theorem rowOf_nat (l : List Int) (W y : Nat) : (rowOf l W y).map Int.toNat = ((l.map Int.toNat).drop (y * W)).take W := by
  rw [rowOf, List.map_take, List.map_drop]
/-- rows in order are the whole -/
theorem rows_all (l : List Nat) (W : Nat) : ∀ (h y : Nat), l.length = (y + h) * W → ((List.range' y h).flatMap fun y => (l.drop (y * W)).take W) = l.drop (y * W)
  | 0, y, hl => by
    rw [List.drop_eq_nil_of_le (by simpa using Nat.le_of_eq hl)]
    rfl
  | h + 1, y, hl => by
    have ih := rows_all l W h (y + 1) (by rw [hl]; congr 1; omega)
    rw [List.range'_succ, List.flatMap_cons, ih]
    have e : (y + 1) * W = y * W + W := Nat.succ_mul y W
    rw [e, ← List.drop_drop, List.take_append_drop]
/-- what is restored out of the residuals -/
theorem predI_take {px : List Int} {W i : Nat} (hW : 1 ≤ W) : predI (px.take i) W i = predI px W i := by
  have hg : ∀ j, j < i → (px.take i).getD j 0 = px.getD j 0 := fun j hj => by simp [List.getD, hj]
  unfold predI
  split
  · rfl
  · split
    · rw [hg _ (by omega)]
    · split
      · rw [hg _ (by omega)]
      · rw [hg _ (by omega), hg _ (by omega), hg _ (by omega)]
theorem unf_fold {x p m : Int} (h0 : 0 ≤ x) (h1 : x ≤ m) : (p + unfI (foldI ((x - p + (m + 1)) % (m + 1)) (m + 1))) % (m + 1) = x := by
  have hd0 := Int.emod_nonneg (x - p + (m + 1)) (show m + 1 ≠ 0 by omega)
  have hd1 := Int.emod_lt_of_pos (x - p + (m + 1)) (show 0 < m + 1 by omega)
  have hx : (p + (x - p + (m + 1)) % (m + 1)) % (m + 1) = x := by
    rw [Int.add_emod, Int.emod_emod_of_dvd _ (Int.dvd_refl _), ← Int.add_emod, show p + (x - p + (m + 1)) = x + (m + 1) by omega, Int.add_emod_right]
    exact Int.emod_eq_of_lt h0 (by omega)
  generalize (x - p + (m + 1)) % (m + 1) = d at *
  unfold foldI
  split
  · split
    · have : unfI (2 * d - 1) = d := by unfold unfI; rw [if_pos (by omega)]; omega
      rw [this]
      exact hx
    · obtain rfl : d = 0 := by omega
      simpa [unfI] using hx
  · have : unfI (2 * (m + 1 - d)) = d - (m + 1) := by unfold unfI; rw [if_neg (by omega)]; omega
    rw [this, show p + (d - (m + 1)) = (p + d) - (m + 1) by omega, Int.sub_emod_right]
    exact hx
theorem restU_res {px : List Int} {W : Nat} {m : Int} (hW : 1 ≤ W) (hg : Grey m px) (hm : 0 ≤ m) : ∀ k, k ≤ px.length → restU W m (resI px W m) k = px.take k
  | 0, _ => rfl
  | k + 1, h => by
    have ih := restU_res hW hg hm k (by omega)
    have hx := hg.get hm k
    rw [restU, ih]
    have e1 : (resI px W m).getD k 0 = resAt px W m k := by simp [resI, List.getD, show k < px.length by omega]
    have e2 : restAt W m (px.take k) (resAt px W m k) = px.getD k 0 := by
      rw [restAt, List.length_take, Nat.min_eq_left (by omega), predI_take hW, resAt]
      exact unf_fold hx.1 hx.2
    rw [e1, e2, List.take_succ_eq_append_getElem (by omega)]
    simp [List.getD, show k < px.length by omega]
theorem restI_res {px : List Int} {W : Nat} {m : Int} (hW : 1 ≤ W) (hg : Grey m px) (hm : 0 ≤ m) : restI W m (resI px W m) = px := by
  rw [restI, resI_length, restU_res hW hg hm _ (Nat.le_refl _), List.take_length]
theorem ints_nat {l : List Int} (h : ∀ x ∈ l, 0 ≤ x) : ints (l.map Int.toNat) = l := by
  rw [ints, List.map_map]
  conv => rhs; rw [← List.map_id l]
  exact List.map_congr_left fun x hx => by have := h x hx; simp; omega
theorem restC_res {px : List Int} {W H : Nat} {m : Int} (h : rasC W H m px = 0) : restC W H m (resI px W m) = 0 := by
  obtain ⟨hW, hH, hm, hL, hl, hg⟩ := rasC_0 h
  have hr : (resI px W m).any (offM m) = false := off_any.2 (resI_grey (by omega) W)
  rw [restC, if_neg (by omega), resI_length, if_neg (by omega), hr]
  rfl
/-- the file of a frame is decoded to the frame -/
theorem decP_file {es : List Ent} {W H m : Nat} {px : List Int} (h : frmC es W H m px = 0) : decP (fileB es W H m px) = some (es, W, H, m, (resI px W m).map Int.toNat) := by
  have hras : rasC W H m px = 0 := Classical.byContradiction fun hh => by rw [frmC, if_pos hh] at h; exact hh h
  have hcnt : es.length ≤ 32 := Nat.le_of_not_lt fun hh => by rw [frmC, if_neg (by simp [hras]), if_pos hh] at h; cases h
  have hent : entC none es = 0 := by rw [frmC, if_neg (by simp [hras]), if_neg (by omega)] at h; exact h
  obtain ⟨hW, hH, hm, hL, hl, hg⟩ := rasC_0 hras
  have hgr := resI_grey (px := px) (show (0 : Int) ≤ m by omega) W
  have hLn : (resI px W m).length = H * W := by
    rw [resI_length]
    have : ((H * W : Nat) : Int) = (px.length : Int) := by rw [hL]; push_cast; rw [Int.mul_comm]
    omega
  have hC := restC_res hras
  have hin := ints_nat fun x hx => (hgr x hx).1
  have e1 : fileB es W H m px = magicB ++ (es.flatMap entB ++ 10 :: (sizesB W H m ++ rowsB (resI px W m) W H)) := by simp [fileB, headB]
  obtain ⟨z0, z1, z2, z3⟩ := sizes_get (W := W) (H := H) (m := m) (rowsB (resI px W m) W H) (by omega) (by omega) (by omega)
  have hlen : ¬ (sizesB W H m ++ rowsB (resI px W m) W H).length < 12 := by simp [sizesB, fourB]
  have hrow := rowsP_rows (l := resI px W m) (W := W) H 0 [] [] fun j _ hj => rowOf_length hLn (by omega)
  rw [List.append_nil] at hrow
  have hrs : rowsB (resI px W m) W H = (List.range' 0 H).flatMap fun y => rowN (rowOf (resI px W m) W y) := by rw [rowsB, List.range_eq_range']
  have hall := rows_all ((resI px W m).map Int.toNat) W H 0 (by rw [List.length_map, hLn, Nat.zero_add])
  rw [Nat.zero_mul, List.drop_zero] at hall
  simp only [← rowOf_nat] at hall
  rw [decP, e1, if_pos (by rfl)]
  rw [show (magicB ++ (es.flatMap entB ++ 10 :: (sizesB W H m ++ rowsB (resI px W m) W H))).drop 7 = es.flatMap entB ++ 10 :: (sizesB W H m ++ rowsB (resI px W m) W H) from rfl]
  rw [metaP_ents es 33 [] _ (entC_each es none hent) (by omega) (by simpa using hcnt)]
  simp only [List.nil_append]
  rw [bodyP, if_neg hlen, z0, z1, z2, z3, if_neg (by omega), hrs, hrow, List.nil_append, hall]
  simp only
  rw [hin, if_pos hC]
end Go.Proofs.Ytbkcnhbdjllojaa
