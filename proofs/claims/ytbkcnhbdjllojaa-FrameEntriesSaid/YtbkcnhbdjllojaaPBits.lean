/- Bits of codes, and bytes that hold them: plain lists. No program in sight. -/
namespace Go.Proofs.Ytbkcnhbdjllojaa

/-- the k low bits of v, the highest first -/
def lowB : Nat → Nat → List Bool
  | 0, _ => []
  | k + 1, v => v.testBit k :: lowB k v
/-- the code of a residual -/
def codeB (k v : Nat) : List Bool := List.replicate (v / 2 ^ k) true ++ false :: lowB k v
def codesB (k : Nat) (l : List Nat) : List Bool := l.flatMap (codeB k)
theorem lowB_length (k v : Nat) : (lowB k v).length = k := by induction k with | zero => rfl | succ k ih => simp [lowB, ih]
theorem codeB_length (k v : Nat) : (codeB k v).length = v / 2 ^ k + 1 + k := by simp [codeB, lowB_length]; omega
/-- the number that n bits are, zeros behind them -/
def byteOf : Nat → List Bool → Nat
  | 0, _ => 0
  | n + 1, bs => (if bs.headD false then 2 ^ n else 0) + byteOf n bs.tail
def packN : Nat → List Bool → List Nat
  | 0, _ => []
  | n + 1, bs => byteOf 8 bs :: packN n (bs.drop 8)
/-- bits as bytes -/
def pack (bs : List Bool) : List Nat := packN ((bs.length + 7) / 8) bs
theorem packN_length (n : Nat) : ∀ bs, (packN n bs).length = n := by induction n with | zero => intro bs; rfl | succ n ih => intro bs; simp [packN, ih]
theorem pack_length (bs : List Bool) : (pack bs).length = (bs.length + 7) / 8 := packN_length _ _
theorem byteOf_lt : ∀ (n : Nat) (bs : List Bool), byteOf n bs < 2 ^ n
  | 0, _ => by simp [byteOf]
  | n + 1, bs => by
    have := byteOf_lt n bs.tail
    rw [byteOf, Nat.pow_succ]
    split <;> omega
theorem byteOf_nil : ∀ n, byteOf n [] = 0
  | 0 => rfl
  | n + 1 => by simp [byteOf, byteOf_nil n]
theorem byteOf_append : ∀ (n : Nat) (bs cs : List Bool), n ≤ bs.length → byteOf n (bs ++ cs) = byteOf n bs
  | 0, _, _, _ => rfl
  | n + 1, [], _, h => by simp at h
  | n + 1, b :: bs, cs, h => by
    have := byteOf_append n bs cs (by simpa using h)
    simp [byteOf, this]
theorem byteOf_snoc : ∀ (n : Nat) (bs : List Bool) (b : Bool), bs.length < n → byteOf n (bs ++ [b]) = byteOf n bs + if b then 2 ^ (n - 1 - bs.length) else 0
  | 0, _, _, h => by omega
  | n + 1, [], b, _ => by simp [byteOf, byteOf_nil]
  | n + 1, c :: bs, b, h => by
    have := byteOf_snoc n bs b (by simpa using h)
    simp only [List.cons_append, byteOf, List.headD_cons, List.tail_cons, this, List.length_cons]
    rw [show n + 1 - 1 - (bs.length + 1) = n - 1 - bs.length by omega]
    exact (Nat.add_assoc _ _ _).symm
theorem byteOf_mod : ∀ (n : Nat) (bs : List Bool), bs.length ≤ n → byteOf n bs % 2 ^ (n - bs.length) = 0
  | 0, bs, _ => by simp [byteOf]
  | n + 1, [], _ => by simp [byteOf_nil]
  | n + 1, c :: bs, h => by
    have ih := byteOf_mod n bs (by simpa using h)
    simp only [byteOf, List.headD_cons, List.tail_cons, List.length_cons, Nat.add_sub_add_right]
    have hd : 2 ^ (n - bs.length) ∣ 2 ^ n := Nat.pow_dvd_pow 2 (by omega)
    have h1 : 2 ^ (n - bs.length) ∣ byteOf n bs := Nat.dvd_of_mod_eq_zero ih
    refine Nat.mod_eq_zero_of_dvd (Nat.dvd_add ?_ h1)
    cases c
    · exact Nat.dvd_zero _
    · exact hd
/-- the j-th of n bits -/
theorem byteOf_bit : ∀ (n : Nat) (bs : List Bool) (j : Nat), j < n → byteOf n bs / 2 ^ (n - 1 - j) % 2 = if bs.getD j false then 1 else 0
  | 0, _, _, h => by omega
  | n + 1, bs, 0, _ => by
    have := byteOf_lt n bs.tail
    have h2 : bs.headD false = bs.getD 0 false := by cases bs <;> rfl
    simp only [byteOf, Nat.add_sub_cancel, Nat.sub_zero, h2]
    split
    · rw [Nat.add_comm, Nat.add_div_right _ (Nat.two_pow_pos n), Nat.div_eq_of_lt this]
    · rw [Nat.zero_add, Nat.div_eq_of_lt this]
  | n + 1, bs, j + 1, h => by
    have ih := byteOf_bit n bs.tail j (by omega)
    have h2 : bs.tail.getD j false = bs.getD (j + 1) false := by cases bs <;> rfl
    rw [h2] at ih
    rw [← ih]
    simp only [byteOf]
    rw [show n + 1 - 1 - (j + 1) = n - 1 - j by omega]
    split
    · have e : 2 ^ n = 2 ^ (n - 1 - j) * (2 * 2 ^ j) := by rw [← Nat.mul_assoc, ← Nat.pow_succ, ← Nat.pow_add]; congr 1; omega
      rw [e, Nat.mul_comm, Nat.add_comm, Nat.add_mul_div_right _ _ (Nat.two_pow_pos _), Nat.add_mul_mod_self_left]
    · rw [Nat.zero_add]
theorem packN_split : ∀ (n : Nat) (bs : List Bool), packN (n + 1) bs = packN n bs ++ [byteOf 8 (bs.drop (8 * n))]
  | 0, bs => by simp [packN]
  | n + 1, bs => by
    rw [packN, packN_split n (bs.drop 8), packN, List.drop_drop]
    simp [show 8 + 8 * n = 8 * (n + 1) by omega]
theorem packN_append : ∀ (n : Nat) (bs cs : List Bool), 8 * n ≤ bs.length → packN n (bs ++ cs) = packN n bs
  | 0, _, _, _ => rfl
  | n + 1, bs, cs, h => by
    rw [packN, packN, byteOf_append 8 bs cs (by omega), List.drop_append_of_le_length (by omega), packN_append n (bs.drop 8) cs (by simp; omega)]
/-- what the writer holds behind some bits: its bytes, its unused bits -/
def freeB (bs : List Bool) : Nat := (8 - bs.length % 8) % 8
theorem pack_snoc0 {bs : List Bool} (b : Bool) (h : freeB bs = 0) : pack (bs ++ [b]) = pack bs ++ [if b then 128 else 0] ∧ freeB (bs ++ [b]) = 7 := by
  unfold freeB at *
  obtain ⟨q, hq⟩ : ∃ q, bs.length = 8 * q := ⟨bs.length / 8, by omega⟩
  constructor
  · unfold pack
    rw [List.length_append, hq, show (8 * q + [b].length + 7) / 8 = q + 1 by simp; omega, show (8 * q + 7) / 8 = q by omega, packN_split, packN_append q bs [b] (by omega)]
    rw [List.drop_append_of_le_length (by omega), List.drop_eq_nil_of_le (by omega)]
    cases b <;> rfl
  · simp [hq]
theorem pack_snoc1 {bs : List Bool} (b : Bool) (h : freeB bs ≠ 0) : ∃ ini x, pack bs = ini ++ [x] ∧ x % 2 ^ freeB bs = 0 ∧ x < 256 ∧ pack (bs ++ [b]) = ini ++ [x + if b then 2 ^ (freeB bs - 1) else 0] ∧ freeB (bs ++ [b]) = freeB bs - 1 := by
  unfold freeB at *
  obtain ⟨q, r, hr, hr8, hq⟩ : ∃ q r, 0 < r ∧ r < 8 ∧ bs.length = 8 * q + r := ⟨bs.length / 8, bs.length % 8, by omega, by omega, by omega⟩
  have hd : (bs.drop (8 * q)).length = r := by simp; omega
  have hf : (8 - bs.length % 8) % 8 = 8 - r := by omega
  refine ⟨packN q bs, byteOf 8 (bs.drop (8 * q)), ?_, ?_, byteOf_lt 8 _, ?_, ?_⟩
  · unfold pack
    rw [hq, show (8 * q + r + 7) / 8 = q + 1 by omega, packN_split]
  · have := byteOf_mod 8 (bs.drop (8 * q)) (by omega)
    rw [hd] at this
    rw [hf]
    exact this
  · unfold pack
    rw [List.length_append, hq, show (8 * q + r + [b].length + 7) / 8 = q + 1 by simp; omega, packN_split, packN_append q bs [b] (by omega), List.drop_append_of_le_length (by omega), byteOf_snoc 8 _ b (by omega), hd, ← hq, hf]
    rw [show 8 - 1 - r = 8 - r - 1 by omega]
  · rw [List.length_append, hf]
    simp
    omega
theorem or_pow {x f : Nat} (h : x % 2 ^ (f + 1) = 0) : x ||| 2 ^ f = x + 2 ^ f := by
  obtain ⟨y, rfl⟩ := Nat.dvd_of_mod_eq_zero h
  have h2 : 2 ^ f < 2 ^ (f + 1) := Nat.pow_lt_pow_right (by omega) (by omega)
  rw [Nat.two_pow_add_eq_or_of_lt h2]
/-- the bit at a place of some bytes -/
def bitN (xs : List Nat) (i : Nat) : Nat := xs.getD (i / 8) 0 / 2 ^ (7 - i % 8) % 2
theorem packN_get : ∀ (n : Nat) (bs : List Bool) (q : Nat), q < n → (packN n bs).getD q 0 = byteOf 8 (bs.drop (8 * q))
  | 0, _, _, h => by omega
  | n + 1, bs, 0, _ => by simp [packN]
  | n + 1, bs, q + 1, h => by
    have := packN_get n (bs.drop 8) q (by omega)
    rw [List.drop_drop] at this
    simpa [packN, show 8 + 8 * q = 8 * (q + 1) by omega] using this
theorem bitN_pack {bs : List Bool} {i : Nat} (h : i < bs.length) (tl : List Nat) : bitN (pack bs ++ tl) i = if bs.getD i false then 1 else 0 := by
  unfold bitN
  have hl : i / 8 < (pack bs).length := by rw [pack_length]; omega
  have e : (pack bs ++ tl).getD (i / 8) 0 = (pack bs).getD (i / 8) 0 := by simp [List.getD, List.getElem?_append_left hl]
  rw [e, pack, packN_get _ _ _ (by omega), byteOf_bit 8 _ (i % 8) (by omega)]
  simp only [List.getD, List.getElem?_drop]
  rw [show 8 * (i / 8) + i % 8 = i by omega]
  rfl
theorem lowB_bits : ∀ (k v : Nat), (lowB k v).foldl (fun a b => 2 * a + if b then 1 else 0) (v / 2 ^ k) = v
  | 0, v => by simp [lowB]
  | k + 1, v => by
    have ih := lowB_bits k v
    rw [lowB, List.foldl_cons]
    have e : 2 * (v / 2 ^ (k + 1)) + (if v.testBit k then 1 else 0) = v / 2 ^ k := by
      rw [Nat.pow_succ, ← Nat.div_div_eq_div_mul]
      have h2 : v.testBit k = decide (v / 2 ^ k % 2 = 1) := Nat.testBit_eq_decide_div_mod_eq
      rw [h2]
      by_cases h3 : v / 2 ^ k % 2 = 1
      · simp [h3]; omega
      · simp [h3]; omega
    rw [e]
    exact ih
theorem codesB_snoc (k : Nat) (l : List Nat) (v : Nat) : codesB k (l ++ [v]) = codesB k l ++ codeB k v := by simp [codesB]
theorem codesB_length_le (k : Nat) : ∀ (l : List Nat), (∀ v ∈ l, v ≤ 65535) → k ≤ 16 → (codesB k l).length ≤ l.length * 65552
  | [], _, _ => by simp [codesB]
  | v :: l, h, hk => by
    have ih := codesB_length_le k l (fun x hx => h x (List.mem_cons_of_mem _ hx)) hk
    have hv := h v List.mem_cons_self
    have hd : v / 2 ^ k ≤ v := Nat.div_le_self _ _
    have : codesB k (v :: l) = codeB k v ++ codesB k l := by simp [codesB]
    rw [this, List.length_append, codeB_length, List.length_cons]
    omega
end Go.Proofs.Ytbkcnhbdjllojaa
