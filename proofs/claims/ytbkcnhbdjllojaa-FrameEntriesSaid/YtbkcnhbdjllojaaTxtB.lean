/- Bits as text: plain laws of the document's file. -/
import Derived.Test.YtbkcnhbdjllojaaPBits
namespace Go.Proofs.Ytbkcnhbdjllojaa

/-- bits as a text of 0 and 1 -/
def chB (bs : List Bool) : ByteArray := ⟨(bs.map fun (b : Bool) => if b then (49 : UInt8) else 48).toArray⟩
theorem chB_nil : chB [] = ⟨#[]⟩ := rfl
theorem chB_size (bs : List Bool) : (chB bs).size = bs.length := by
  show (bs.map _).toArray.size = _
  simp
theorem chB_append (as bs : List Bool) : chB as ++ chB bs = chB (as ++ bs) := by
  apply ByteArray.ext
  simp [chB]
theorem chB_one (bs : List Bool) : chB bs ++ ⟨#[49]⟩ = chB (bs ++ [true]) := chB_append bs [true]
theorem chB_zero (bs : List Bool) : chB bs ++ ⟨#[48]⟩ = chB (bs ++ [false]) := chB_append bs [false]
theorem chB_get {bs : List Bool} {i : Nat} (h : i < bs.length) (h' : i < (chB bs).size) : (chB bs)[i].toNat = if bs.getD i false then 49 else 48 := by
  show ((bs.map fun (b : Bool) => if b then (49 : UInt8) else 48).toArray[i]'(by simpa using h)).toNat = _
  simp only [List.getElem_toArray, List.getElem_map, List.getD, List.getElem?_eq_getElem h, Option.getD_some]
  cases bs[i] <;> rfl
theorem chB_slice (bs : List Bool) (i j : Nat) : (chB bs).extract i j = chB ((bs.drop i).take (j - i)) := by
  apply ByteArray.ext
  rw [ByteArray.data_extract]
  simp [chB, List.map_take, List.map_drop, List.extract_eq_take_drop]
theorem byteOf_fold : ∀ (n : Nat) (bs : List Bool) (a : Nat), bs.length = n → bs.foldl (fun (a : Nat) (b : Bool) => 2 * a + if b then 1 else 0) a = a * 2 ^ n + byteOf n bs
  | 0, bs, a, h => by
    obtain rfl := List.length_eq_zero_iff.1 h
    simp [byteOf]
  | n + 1, [], a, h => by simp at h
  | n + 1, b :: bs, a, h => by
    have ih := byteOf_fold n bs (2 * a + if b then 1 else 0) (by simpa using h)
    rw [List.foldl_cons, ih, byteOf, List.headD_cons, List.tail_cons, Nat.pow_succ]
    cases b <;> simp <;> grind
theorem byteOf_pad : ∀ (n : Nat) (bs : List Bool) (k : Nat), byteOf n (bs ++ List.replicate k false) = byteOf n bs
  | 0, _, _ => rfl
  | n + 1, [], 0 => rfl
  | n + 1, [], k + 1 => by
    have ih := byteOf_pad n [] k
    rw [List.nil_append] at ih
    simp [byteOf, List.replicate_succ, ih]
  | n + 1, b :: bs, k => by
    have ih := byteOf_pad n bs k
    simp [byteOf, ih]
theorem packN_pad : ∀ (n : Nat) (bs : List Bool) (k : Nat), packN n (bs ++ List.replicate k false) = packN n bs
  | 0, _, _ => rfl
  | n + 1, bs, k => by
    rw [packN, packN, byteOf_pad]
    congr 1
    rw [List.drop_append, List.drop_replicate]
    exact packN_pad n (bs.drop 8) _
theorem pack_padded {bs cs : List Bool} {k : Nat} (hc : cs = bs ++ List.replicate k false) (hk : k ≤ 7) (h8 : cs.length % 8 = 0) : packN (cs.length / 8) cs = pack bs := by
  subst hc
  rw [pack, packN_pad]
  congr 1
  rw [List.length_append, List.length_replicate] at h8 ⊢
  omega
/-- a byte of the text -/
theorem foldl_take_succ {bs : List Bool} {i : Nat} (h : i < bs.length) (a : Nat) : (bs.take (i + 1)).foldl (fun (a : Nat) (b : Bool) => 2 * a + if b then 1 else 0) a = 2 * (bs.take i).foldl (fun (a : Nat) (b : Bool) => 2 * a + if b then 1 else 0) a + if bs.getD i false then 1 else 0 := by
  rw [List.take_succ_eq_append_getElem h, List.foldl_append]
  simp [List.getD, h]
theorem foldl_bits_lt : ∀ (bs : List Bool) (a : Nat), bs.foldl (fun (a : Nat) (b : Bool) => 2 * a + if b then 1 else 0) a < (a + 1) * 2 ^ bs.length
  | [], a => by simp
  | b :: bs, a => by
    have ih := foldl_bits_lt bs (2 * a + if b then 1 else 0)
    rw [List.foldl_cons, List.length_cons, Nat.pow_succ]
    refine Nat.lt_of_lt_of_le ih ?_
    rw [show (a + 1) * (2 ^ bs.length * 2) = (2 * (a + 1)) * 2 ^ bs.length by grind]
    exact Nat.mul_le_mul_right _ (by split <;> omega)
end Go.Proofs.Ytbkcnhbdjllojaa
