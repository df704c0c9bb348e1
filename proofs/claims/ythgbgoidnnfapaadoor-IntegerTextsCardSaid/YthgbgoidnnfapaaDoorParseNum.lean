/- Decimal texts that are read: their value, group by group. No program in sight. -/
import Derived.Test.YthgbgoidnnfapaaDoorTxt
import Derived.Lib.Atoi
namespace Go.Proofs.YthgbgoidnnfapaaDoor
open Go

def isDg (c : UInt8) : Bool := decide (48 ≤ c.toNat ∧ c.toNat ≤ 57)
def valD (l : List UInt8) : Nat := l.foldl (fun a c => a * 10 + (c.toNat - 48)) 0
theorem foldl_val (l : List UInt8) : ∀ a : Nat, l.foldl (fun a c => a * 10 + (c.toNat - 48)) a = a * 10 ^ l.length + valD l := by
  induction l with
  | nil => intro a; simp [valD]
  | cons c r ih =>
    intro a
    have e : valD (c :: r) = (0 * 10 + (c.toNat - 48)) * 10 ^ r.length + valD r := ih _
    rw [List.foldl_cons, ih, e, List.length_cons, Nat.pow_succ, Nat.zero_mul, Nat.zero_add, Nat.add_mul, Nat.mul_assoc, Nat.mul_comm 10 (10 ^ r.length)]
    omega
theorem snoc_induct {P : List UInt8 → Prop} (h0 : P []) (hs : ∀ l a, P l → P (l ++ [a])) (l : List UInt8) : P l := by
  rw [← List.reverse_reverse l]
  induction l.reverse with
  | nil => exact h0
  | cons a r ih => rw [List.reverse_cons]; exact hs _ _ ih
theorem valD_nil : valD [] = 0 := rfl
theorem valD_append (a b : List UInt8) : valD (a ++ b) = valD a * 10 ^ b.length + valD b := by
  unfold valD
  rw [List.foldl_append, foldl_val]
  rfl
theorem valD_one (c : UInt8) : valD [c] = c.toNat - 48 := by simp [valD]
theorem valD_snoc (l : List UInt8) (c : UInt8) : valD (l ++ [c]) = valD l * 10 + (c.toNat - 48) := by
  rw [valD_append, valD_one]; simp
theorem isDg_le {c : UInt8} (h : isDg c = true) : c.toNat - 48 ≤ 9 ∧ 48 ≤ c.toNat := by
  unfold isDg at h; simp at h; omega
theorem valD_lt (l : List UInt8) (h : l.all isDg = true) : valD l < 10 ^ l.length := by
  revert h
  refine snoc_induct (P := fun l => l.all isDg = true → valD l < 10 ^ l.length) (fun _ => by simp [valD]) (fun l c ih h => ?_) l
  · rw [List.all_append] at h
    simp only [List.all_cons, List.all_nil, Bool.and_true, Bool.and_eq_true] at h
    have h1 := ih h.1
    have h2 := isDg_le h.2
    rw [valD_snoc, List.length_append, List.length_singleton, Nat.pow_succ]
    omega
/-- the text of the value: the digits, where the first is not 0 -/
theorem txt_valD (l : List UInt8) (h : l.all isDg = true) (h0 : ∀ c r, l = c :: r → c ≠ 48) : txt (valD l) = l := by
  revert h h0
  refine snoc_induct (P := fun l => l.all isDg = true → (∀ c r, l = c :: r → c ≠ 48) → txt (valD l) = l) (fun _ _ => rfl) (fun l c ih h h0 => ?_) l
  · rw [List.all_append] at h
    simp only [List.all_cons, List.all_nil, Bool.and_true, Bool.and_eq_true] at h
    have h2 := isDg_le h.2
    have hi := ih h.1 (fun c' r e => h0 c' (r ++ [c]) (by rw [e]; rfl))
    have hpos : 0 < valD (l ++ [c]) := by
      rw [valD_snoc]
      cases l with
      | nil =>
        have hc := h0 c [] rfl
        have : c.toNat ≠ 48 := fun e => hc (UInt8.toNat_inj.1 (by rw [e]; rfl))
        simp [valD]
        omega
      | cons c' r =>
        rcases Nat.eq_zero_or_pos (valD (c' :: r)) with hz | hz
        · rw [hz] at hi
          simp [txt] at hi
        · omega
    rw [txt_step _ hpos, valD_snoc, show (valD l * 10 + (c.toNat - 48)) / 10 = valD l by omega, hi]
    congr 2
    unfold dch
    rw [show 48 + (valD l * 10 + (c.toNat - 48)) % 10 = c.toNat by omega]
    simp
theorem txt_digits (m : Nat) : (txt m).all isDg = true ∧ valD (txt m) = m ∧ (∀ c r, txt m = c :: r → c ≠ 48) := by
  induction m using Nat.strongRecOn with
  | _ m ih =>
    rcases Nat.eq_zero_or_pos m with h0 | hp
    · subst h0; refine ⟨rfl, rfl, fun c r e => ?_⟩; simp [txt] at e
    · obtain ⟨h1, h2, h3⟩ := ih (m / 10) (by omega)
      have hd : (dch m).toNat = 48 + m % 10 := by
        unfold dch
        rw [UInt8.toNat_ofNat']
        omega
      rw [txt_step m hp]
      refine ⟨?_, ?_, fun c r e => ?_⟩
      · rw [List.all_append, h1]
        simp [isDg, hd]
        omega
      · rw [valD_snoc, h2, hd]; omega
      · cases ht : txt (m / 10) with
        | nil =>
          rw [ht] at e
          simp only [List.nil_append, List.cons.injEq] at e
          have hz : m / 10 = 0 := by
            rcases Nat.eq_zero_or_pos (m / 10) with h | h
            · exact h
            · rw [txt_step _ h] at ht
              simp at ht
          intro e2
          have := congrArg UInt8.toNat (e.1.trans e2)
          rw [hd] at this
          simp at this
          omega
        | cons c' r' =>
          rw [ht] at e
          simp only [List.cons_append, List.cons.injEq] at e
          rw [← e.1]
          exact h3 c' r' ht
theorem decFrom_all (l : List UInt8) : ∀ a : Nat, l.all isDg = true → Lib.decFrom a l = some (l.foldl (fun a c => a * 10 + (c.toNat - 48)) a) := by
  induction l with
  | nil => intro a _; rfl
  | cons c r ih =>
    intro a h
    rw [List.all_cons, Bool.and_eq_true] at h
    have h2 := h.1
    unfold isDg at h2
    simp only [decide_eq_true_eq] at h2
    rw [Lib.decFrom, Lib.digitVal, if_pos h2]
    exact ih _ h.2
theorem atoi_all (l : List UInt8) (h : l.all isDg = true) (h0 : l ≠ []) : Lib.atoi l = some (valD l : Int) := by
  cases l with
  | nil => exact absurd rfl h0
  | cons c r =>
    have h2 : isDg c = true := by rw [List.all_cons, Bool.and_eq_true] at h; exact h.1
    have h3 := (isDg_le h2).2
    have e1 : (c == 45) = false := by rw [beq_eq_false_iff_ne]; intro e; rw [e] at h3; exact absurd h3 (by decide)
    have e2 : (c == 43) = false := by rw [beq_eq_false_iff_ne]; intro e; rw [e] at h3; exact absurd h3 (by decide)
    unfold Lib.atoi
    simp only [e1, e2, Bool.false_eq_true, if_false]
    unfold Lib.decNat
    simp only [List.isEmpty_cons, Bool.false_eq_true, if_false]
    rw [decFrom_all _ _ h]
    rfl
/-- one group more: the nine digits ahead (or what is left) -/
theorem group_step (ds : List UInt8) (k lo hi : Nat) (h2 : lo ≤ hi) (h3 : ds.length - hi = 9 * k) :
    valD (ds.drop lo) = valD (ds.drop hi) + valD ((ds.drop lo).take (hi - lo)) * 1000000000 ^ k := by
  have e : ds.drop lo = (ds.drop lo).take (hi - lo) ++ ds.drop hi := by
    conv => lhs; rw [← List.take_append_drop (hi - lo) (ds.drop lo)]
    rw [List.drop_drop, show lo + (hi - lo) = hi by omega]
  conv => lhs; rw [e]
  rw [valD_append, List.length_drop, h3, show (1000000000 : Nat) = 10 ^ 9 from rfl, ← Nat.pow_mul]
  omega
/-- the code of a text -/
def bodyOf (l : List UInt8) : List UInt8 := if l.head? = some 45 then l.tail else l
def negOf (l : List UInt8) : Bool := decide (l.head? = some 45)
/-- a syntax error at the text's head: no digits, or a zero too many -/
def badHead (l : List UInt8) : Bool := (bodyOf l).isEmpty || (decide ((bodyOf l).head? = some 48) && (decide (1 < (bodyOf l).length) || negOf l))
def parseC (l : List UInt8) : Int := if 2001 < l.length then 9 else if badHead l then 8 else if (bodyOf l).all isDg = false then 8 else if 2000 < (bodyOf l).length then 9 else 0
def parseZ (l : List UInt8) : Int := if parseC l = 0 then (if negOf l then -(valD (bodyOf l) : Int) else (valD (bodyOf l) : Int)) else 0
theorem loop_len (d : ByteArray) : ∀ (n i : Nat) (r : List UInt8), d.size - i = n → (ByteArray.toList.loop d i r).length = r.length + n
  | 0, i, r, h => by
    rw [ByteArray.toList.loop, if_neg (by omega)]
    simp
  | n + 1, i, r, h => by
    rw [ByteArray.toList.loop, if_pos (by omega), loop_len d n (i + 1) _ (by omega), List.length_cons]
    omega
theorem toList_len (d : ByteArray) : d.toList.length = d.size := by
  unfold ByteArray.toList
  rw [loop_len d d.size 0 [] (by omega)]
  simp
theorem empty_yes (d : ByteArray) (h : d.size = 0) : d.toList.isEmpty = true := by
  rw [List.isEmpty_iff]; exact List.eq_nil_of_length_eq_zero (by rw [toList_len]; exact h)
theorem empty_no (d : ByteArray) (h : d.size ≠ 0) : d.toList.isEmpty = false := by
  rw [List.isEmpty_eq_false_iff]; intro e; exact h (by rw [← toList_len, e]; rfl)
end Go.Proofs.YthgbgoidnnfapaaDoor
