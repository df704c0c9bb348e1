/- Decimal texts that are read: their value, group by group. No program in sight. The three forms of a fraction's text, read. No program in sight. The loops over a text: are all bytes digits, where is a byte. strings.Cut and its like at one byte. -/
import Derived.Test.YtmochehkkadjnaaGreatDoorMgNums
import Derived.Lib.Atoi
import Derived.Test.YtmochehkkadjnaaGreatDoorMgRefA
import Derived.Deep.DeepCutAuto
import Derived.Deep.LoopGhost
namespace Go.Proofs.YtmochehkkadjnaaGreatDoor
open Go

def isDg (c : UInt8) : Bool := decide (48 ≤ c.toNat ∧ c.toNat ≤ 57)
def valD (l : List UInt8) : Nat := l.foldl (fun a c => a * 10 + (c.toNat - 48)) 0
theorem foldl_val (l : List UInt8) : ∀ a : Nat, l.foldl (fun a c => a * 10 + (c.toNat - 48)) a = a * 10 ^ l.length + valD l := by
  induction l with
  | nil => intro a; simp [valD]
  | cons c r ih =>
    intro a
    have e : valD (c :: r) = (0 * 10 + (c.toNat - 48)) * 10 ^ r.length + valD r := ih _
    rw [List.foldl_cons, ih, e, List.length_cons, Nat.pow_succ, Nat.zero_mul, Nat.zero_add, Nat.add_mul, Nat.mul_assoc, Nat.mul_comm 10 (10 ^ r.length)]
    omega
theorem snoc_induct {P : List UInt8 → Prop} (h0 : P []) (hs : ∀ l a, P l → P (l ++ [a])) (l : List UInt8) : P l := by
  rw [← List.reverse_reverse l]
  induction l.reverse with
  | nil => exact h0
  | cons a r ih => rw [List.reverse_cons]; exact hs _ _ ih
theorem valD_append (a b : List UInt8) : valD (a ++ b) = valD a * 10 ^ b.length + valD b := by
  unfold valD
  rw [List.foldl_append, foldl_val]
  rfl
theorem valD_one (c : UInt8) : valD [c] = c.toNat - 48 := by simp [valD]
theorem valD_snoc (l : List UInt8) (c : UInt8) : valD (l ++ [c]) = valD l * 10 + (c.toNat - 48) := by
  rw [valD_append, valD_one]; simp
theorem isDg_le {c : UInt8} (h : isDg c = true) : c.toNat - 48 ≤ 9 ∧ 48 ≤ c.toNat := by
  unfold isDg at h; simp at h; omega
theorem valD_lt (l : List UInt8) (h : l.all isDg = true) : valD l < 10 ^ l.length := by
  revert h
  refine snoc_induct (P := fun l => l.all isDg = true → valD l < 10 ^ l.length) (fun _ => by simp [valD]) (fun l c ih h => ?_) l
  · rw [List.all_append] at h
    simp only [List.all_cons, List.all_nil, Bool.and_true, Bool.and_eq_true] at h
    have h1 := ih h.1
    have h2 := isDg_le h.2
    rw [valD_snoc, List.length_append, List.length_singleton, Nat.pow_succ]
    omega
theorem txt_valD (l : List UInt8) (h : l.all isDg = true) (h0 : ∀ c r, l = c :: r → c ≠ 48) : txt (valD l) = l := by
  revert h h0
  refine snoc_induct (P := fun l => l.all isDg = true → (∀ c r, l = c :: r → c ≠ 48) → txt (valD l) = l) (fun _ _ => rfl) (fun l c ih h h0 => ?_) l
  · rw [List.all_append] at h
    simp only [List.all_cons, List.all_nil, Bool.and_true, Bool.and_eq_true] at h
    have h2 := isDg_le h.2
    have hi := ih h.1 (fun c' r e => h0 c' (r ++ [c]) (by rw [e]; rfl))
    have hpos : 0 < valD (l ++ [c]) := by
      rw [valD_snoc]
      cases l with
      | nil =>
        have hc := h0 c [] rfl
        have : c.toNat ≠ 48 := fun e => hc (UInt8.toNat_inj.1 (by rw [e]; rfl))
        simp [valD]
        omega
      | cons c' r =>
        rcases Nat.eq_zero_or_pos (valD (c' :: r)) with hz | hz
        · rw [hz] at hi
          simp [txt] at hi
        · omega
    rw [txt_step _ hpos, valD_snoc, show (valD l * 10 + (c.toNat - 48)) / 10 = valD l by omega, hi]
    congr 2
    unfold dch
    rw [show 48 + (valD l * 10 + (c.toNat - 48)) % 10 = c.toNat by omega]
    simp
theorem txt_digits (m : Nat) : (txt m).all isDg = true ∧ valD (txt m) = m ∧ (∀ c r, txt m = c :: r → c ≠ 48) := by
  induction m using Nat.strongRecOn with
  | _ m ih =>
    rcases Nat.eq_zero_or_pos m with h0 | hp
    · subst h0; refine ⟨rfl, rfl, fun c r e => ?_⟩; simp [txt] at e
    · obtain ⟨h1, h2, h3⟩ := ih (m / 10) (by omega)
      have hd : (dch m).toNat = 48 + m % 10 := by
        unfold dch
        rw [UInt8.toNat_ofNat']
        omega
      rw [txt_step m hp]
      refine ⟨?_, ?_, fun c r e => ?_⟩
      · rw [List.all_append, h1]
        simp [isDg, hd]
        omega
      · rw [valD_snoc, h2, hd]; omega
      · cases ht : txt (m / 10) with
        | nil =>
          rw [ht] at e
          simp only [List.nil_append, List.cons.injEq] at e
          have hz : m / 10 = 0 := by
            rcases Nat.eq_zero_or_pos (m / 10) with h | h
            · exact h
            · rw [txt_step _ h] at ht
              simp at ht
          intro e2
          have := congrArg UInt8.toNat (e.1.trans e2)
          rw [hd] at this
          simp at this
          omega
        | cons c' r' =>
          rw [ht] at e
          simp only [List.cons_append, List.cons.injEq] at e
          rw [← e.1]
          exact h3 c' r' ht
theorem decFrom_all (l : List UInt8) : ∀ a : Nat, l.all isDg = true → Lib.decFrom a l = some (l.foldl (fun a c => a * 10 + (c.toNat - 48)) a) := by
  induction l with
  | nil => intro a _; rfl
  | cons c r ih =>
    intro a h
    rw [List.all_cons, Bool.and_eq_true] at h
    have h2 := h.1
    unfold isDg at h2
    simp only [decide_eq_true_eq] at h2
    rw [Lib.decFrom, Lib.digitVal, if_pos h2]
    exact ih _ h.2
theorem atoi_all (l : List UInt8) (h : l.all isDg = true) (h0 : l ≠ []) : Lib.atoi l = some (valD l : Int) := by
  cases l with
  | nil => exact absurd rfl h0
  | cons c r =>
    have h2 : isDg c = true := by rw [List.all_cons, Bool.and_eq_true] at h; exact h.1
    have h3 := (isDg_le h2).2
    have e1 : (c == 45) = false := by rw [beq_eq_false_iff_ne]; intro e; rw [e] at h3; exact absurd h3 (by decide)
    have e2 : (c == 43) = false := by rw [beq_eq_false_iff_ne]; intro e; rw [e] at h3; exact absurd h3 (by decide)
    unfold Lib.atoi
    simp only [e1, e2, Bool.false_eq_true, if_false]
    unfold Lib.decNat
    simp only [List.isEmpty_cons, Bool.false_eq_true, if_false]
    rw [decFrom_all _ _ h]
    rfl
theorem group_step (ds : List UInt8) (k lo hi : Nat) (h2 : lo ≤ hi) (h3 : ds.length - hi = 9 * k) :
    valD (ds.drop lo) = valD (ds.drop hi) + valD ((ds.drop lo).take (hi - lo)) * 1000000000 ^ k := by
  have e : ds.drop lo = (ds.drop lo).take (hi - lo) ++ ds.drop hi := by
    conv => lhs; rw [← List.take_append_drop (hi - lo) (ds.drop lo)]
    rw [List.drop_drop, show lo + (hi - lo) = hi by omega]
  conv => lhs; rw [e]
  rw [valD_append, List.length_drop, h3, show (1000000000 : Nat) = 10 ^ 9 from rfl, ← Nat.pow_mul]
  omega
def bodyOf (l : List UInt8) : List UInt8 := if l.head? = some 45 then l.tail else l
def negOf (l : List UInt8) : Bool := decide (l.head? = some 45)
def badHead (l : List UInt8) : Bool := (bodyOf l).isEmpty || (decide ((bodyOf l).head? = some 48) && (decide (1 < (bodyOf l).length) || negOf l))
def parseC (l : List UInt8) : Int := if 2001 < l.length then 9 else if badHead l then 8 else if (bodyOf l).all isDg = false then 8 else if 2000 < (bodyOf l).length then 9 else 0
def parseZ (l : List UInt8) : Int := if parseC l = 0 then (if negOf l then -(valD (bodyOf l) : Int) else (valD (bodyOf l) : Int)) else 0
theorem loop_len (d : ByteArray) : ∀ (n i : Nat) (r : List UInt8), d.size - i = n → (ByteArray.toList.loop d i r).length = r.length + n
  | 0, i, r, h => by
    rw [ByteArray.toList.loop, if_neg (by omega)]
    simp
  | n + 1, i, r, h => by
    rw [ByteArray.toList.loop, if_pos (by omega), loop_len d n (i + 1) _ (by omega), List.length_cons]
    omega
theorem toList_len (d : ByteArray) : d.toList.length = d.size := by
  unfold ByteArray.toList
  rw [loop_len d d.size 0 [] (by omega)]
  simp
theorem empty_yes (d : ByteArray) (h : d.size = 0) : d.toList.isEmpty = true := by
  rw [List.isEmpty_iff]; exact List.eq_nil_of_length_eq_zero (by rw [toList_len]; exact h)
theorem empty_no (d : ByteArray) (h : d.size ≠ 0) : d.toList.isEmpty = false := by
  rw [List.isEmpty_eq_false_iff]; intro e; exact h (by rw [← toList_len, e]; rfl)
end Go.Proofs.YtmochehkkadjnaaGreatDoor

namespace Go.Proofs.YtmochehkkadjnaaGreatDoor
open Go

def pre (c : UInt8) (l : List UInt8) : List UInt8 := l.takeWhile (· != c)
def post (c : UInt8) (l : List UInt8) : List UInt8 := (l.dropWhile (· != c)).tail
theorem cut_at {c : UInt8} : ∀ {l : List UInt8}, c ∈ l → l = pre c l ++ c :: post c l
  | x :: r, h => by
    unfold pre post
    by_cases hx : x = c
    · subst hx; simp
    · have hr : c ∈ r := by
        rcases List.mem_cons.1 h with h | h
        · exact absurd h.symm hx
        · exact h
      have := cut_at hr
      unfold pre post at this
      have hb : (x != c) = true := by simpa using hx
      simp only [List.takeWhile_cons, List.dropWhile_cons, hb, if_true, List.cons_append]
      exact congrArg _ this
theorem pre_app {c : UInt8} : ∀ {a b : List UInt8}, c ∉ a → pre c (a ++ c :: b) = a ∧ post c (a ++ c :: b) = b
  | [], b, _ => by simp [pre, post]
  | x :: r, b, h => by
    have hx : (x != c) = true := by
      simp only [bne_iff_ne, ne_eq]
      rintro rfl
      exact h List.mem_cons_self
    obtain ⟨h1, h2⟩ := pre_app (a := r) (b := b) (fun h2 => h (List.mem_cons_of_mem _ h2))
    unfold pre post at *
    refine ⟨?_, ?_⟩
    · rw [List.cons_append, List.takeWhile_cons, hx, if_pos rfl, h1]
    · rw [List.cons_append, List.dropWhile_cons, hx, if_pos rfl, h2]
def decOk (a b : List UInt8) : Bool := (bodyOf a).all isDg && (!(bodyOf a).isEmpty && (!(decide (1 < (bodyOf a).length) && decide ((bodyOf a).head? = some 48)) && (b.all isDg && (!b.isEmpty && decide (b.length ≤ 100)))))
def sgnN (neg : Bool) (n : Nat) : Int := if neg then -(n : Int) else (n : Int)
def decV (a b : List UInt8) : Rat := Rat.divInt (sgnN (negOf a) (valD (bodyOf a ++ b))) ((10 ^ b.length : Nat) : Int)
def fparse (l : List UInt8) : Int × Rat :=
  if 600 < l.length then (9, 0)
  else if 46 ∈ l then (if decOk (pre 46 l) (post 46 l) = true then (0, decV (pre 46 l) (post 46 l)) else (8, 0))
  else if 47 ∈ l then (if parseC (pre 47 l) = 0 ∧ parseC (post 47 l) = 0 ∧ 0 < parseZ (post 47 l) then (0, Rat.divInt (parseZ (pre 47 l)) (parseZ (post 47 l))) else (8, 0))
  else if parseC l = 0 then (0, (parseZ l : Rat)) else (8, 0)
theorem body_split (l : List UInt8) : l = (if negOf l then [45] else []) ++ bodyOf l := by
  unfold negOf bodyOf
  cases l with
  | nil => rfl
  | cons a r =>
    by_cases ha : a = 45
    · subst ha; simp
    · simp [ha]
theorem parseC_all {l : List UInt8} (h : parseC l = 0) : (bodyOf l).all isDg = true := by
  unfold parseC at h
  split at h
  · omega
  · split at h
    · omega
    · split at h
      · omega
      · rename_i hall
        simpa using hall
theorem body_no {c : UInt8} {l : List UInt8} (hc : isDg c = false) (h45 : c ≠ 45) (h : (bodyOf l).all isDg = true) : c ∉ l := by
  intro hm
  rw [body_split l] at hm
  rcases List.mem_append.1 hm with hm | hm
  · split at hm
    · simp at hm; exact h45 hm
    · cases hm
  · have := List.all_eq_true.1 h c hm
    rw [hc] at this; cases this
theorem parse_no {c : UInt8} {l : List UInt8} (hc : isDg c = false) (h45 : c ≠ 45) (h : parseC l = 0) : c ∉ l := body_no hc h45 (parseC_all h)
theorem all_no {c : UInt8} {l : List UInt8} (hc : isDg c = false) (h : l.all isDg = true) : c ∉ l := fun hm => by
  have := List.all_eq_true.1 h c hm
  rw [hc] at this; cases this
theorem both_dec {l : List UInt8} (h46 : 46 ∈ l) (h47 : 47 ∈ l) : decOk (pre 46 l) (post 46 l) = false := by
  cases h : decOk (pre 46 l) (post 46 l) with
  | false => rfl
  | true =>
    unfold decOk at h
    simp only [Bool.and_eq_true] at h
    have h1 := body_no (c := 47) (by decide) (by decide) h.1
    have h2 := all_no (c := 47) (by decide) h.2.2.2.1
    rw [cut_at h46] at h47
    rcases List.mem_append.1 h47 with hm | hm
    · exact absurd hm h1
    · rcases List.mem_cons.1 hm with hm | hm
      · exact absurd hm (by decide)
      · exact absurd hm h2
theorem both_slash {l : List UInt8} (h46 : 46 ∈ l) (h47 : 47 ∈ l) : ¬ (parseC (pre 47 l) = 0 ∧ parseC (post 47 l) = 0) := by
  rintro ⟨h1, h2⟩
  have h1 := parse_no (c := 46) (by decide) (by decide) h1
  have h2 := parse_no (c := 46) (by decide) (by decide) h2
  rw [cut_at h47] at h46
  rcases List.mem_append.1 h46 with hm | hm
  · exact h1 hm
  · rcases List.mem_cons.1 hm with hm | hm
    · exact absurd hm (by decide)
    · exact h2 hm
theorem fparse_slash {l : List UInt8} (hl : ¬ 600 < l.length) (h47 : 47 ∈ l) : fparse l = (if parseC (pre 47 l) = 0 ∧ parseC (post 47 l) = 0 ∧ 0 < parseZ (post 47 l) then (0, Rat.divInt (parseZ (pre 47 l)) (parseZ (post 47 l))) else (8, 0)) := by
  unfold fparse
  rw [if_neg hl]
  by_cases h46 : 46 ∈ l
  · rw [if_pos h46, both_dec h46 h47, if_neg (by decide), if_neg (fun h => both_slash h46 h47 ⟨h.1, h.2.1⟩)]
  · rw [if_neg h46, if_pos h47]
theorem fparse_dot {l : List UInt8} (hl : ¬ 600 < l.length) (h46 : 46 ∈ l) : fparse l = (if decOk (pre 46 l) (post 46 l) = true then (0, decV (pre 46 l) (post 46 l)) else (8, 0)) := by
  unfold fparse
  rw [if_neg hl, if_pos h46]
theorem fparse_plain {l : List UInt8} (hl : ¬ 600 < l.length) (h46 : 46 ∉ l) (h47 : 47 ∉ l) : fparse l = (if parseC l = 0 then (0, (parseZ l : Rat)) else (8, 0)) := by
  unfold fparse
  rw [if_neg hl, if_neg h46, if_neg h47]
theorem fparse_long {l : List UInt8} (hl : 600 < l.length) : fparse l = (9, 0) := by
  unfold fparse
  rw [if_pos hl]
def bare (l : List UInt8) : List UInt8 := l.dropWhile (· == 48)
theorem bare_val : ∀ l : List UInt8, valD (bare l) = valD l
  | [] => rfl
  | x :: r => by
    unfold bare
    rw [List.dropWhile_cons]
    by_cases hx : x = 48
    · subst hx
      have := bare_val r
      unfold bare at this
      rw [if_pos (by rfl), this]
      show valD r = valD ([48] ++ r)
      rw [valD_append, valD_one]
      simp
    · rw [if_neg (by simpa using hx)]
theorem bare_all {l : List UInt8} (h : l.all isDg = true) : (bare l).all isDg = true := by
  rw [List.all_eq_true] at h ⊢
  intro x hx
  exact h x ((List.dropWhile_sublist _).subset hx)
theorem bare_head (l : List UInt8) : ∀ c r, bare l = c :: r → c ≠ 48 := by
  intro c r e hc
  have h := List.head?_dropWhile_not (fun x : UInt8 => x == 48) l
  unfold bare at e
  rw [e] at h
  simp [hc] at h
theorem bare_len (l : List UInt8) : (bare l).length ≤ l.length := (List.dropWhile_sublist _).length_le
theorem bare_zero {l : List UInt8} (h : l.all isDg = true) : bare l = [] ↔ valD l = 0 := by
  rw [← bare_val l]
  constructor
  · intro e; rw [e]; rfl
  · intro e
    have := txt_valD (bare l) (bare_all h) (bare_head l)
    rw [e] at this
    exact this.symm
theorem bare_parse {l : List UInt8} (h : l.all isDg = true) (h0 : bare l ≠ []) (hl : l.length ≤ 2000) : parseC (bare l) = 0 ∧ parseZ (bare l) = (valD l : Int) := by
  obtain ⟨c, r, e⟩ := List.exists_cons_of_ne_nil h0
  have hall := bare_all h
  have hc48 := bare_head l c r e
  have hc45 : c ≠ 45 := by
    rintro rfl
    rw [e, List.all_cons, Bool.and_eq_true] at hall
    exact absurd hall.1 (by decide)
  have hb : bodyOf (bare l) = bare l := by rw [e]; simp [bodyOf, hc45]
  have hn : negOf (bare l) = false := by rw [e]; simp [negOf, hc45]
  have hlen := bare_len l
  have hpc : parseC (bare l) = 0 := by
    unfold parseC
    rw [if_neg (by omega), if_neg, if_neg (by rw [hb, hall]; decide), if_neg (by rw [hb]; omega)]
    unfold badHead
    rw [hb, e]
    simp [hc48]
  refine ⟨hpc, ?_⟩
  unfold parseZ
  rw [if_pos hpc, hn, hb, bare_val]
  rfl
theorem textL_body (z : Int) : bodyOf (textL z) = (if z = 0 then [48] else txt z.natAbs) ∧ negOf (textL z) = decide (z < 0) := by
  by_cases h0 : z = 0
  · subst h0; exact ⟨by decide, by decide⟩
  · have ht : textL z = (if z < 0 then [45] else []) ++ txt z.natAbs := by unfold textL; rw [if_neg h0, txt_pos _ (by omega)]
    obtain ⟨h1, h2, h3⟩ := txt_digits z.natAbs
    have hne : txt z.natAbs ≠ [] := fun e => by rw [e] at h2; simp [valD] at h2; omega
    obtain ⟨c, r, hcr⟩ := List.exists_cons_of_ne_nil hne
    have hdc : isDg c = true := by rw [hcr, List.all_cons, Bool.and_eq_true] at h1; exact h1.1
    have hc45 : c ≠ 45 := fun e => by subst e; exact absurd hdc (by decide)
    rw [if_neg h0]
    refine ⟨?_, ?_⟩
    · rw [ht]; unfold bodyOf
      by_cases hz : z < 0
      · rw [if_pos hz]; simp
      · rw [if_neg hz, hcr]; simp [hc45]
    · rw [ht]; unfold negOf
      by_cases hz : z < 0
      · simp [hz]
      · simp [hz, hcr, hc45]
theorem textL_no {c : UInt8} (hc : isDg c = false) (h45 : c ≠ 45) (z : Int) : c ∉ textL z := by
  refine body_no hc h45 ?_
  rw [(textL_body z).1]
  split
  · decide
  · exact (txt_digits z.natAbs).1
theorem fp_textL (z : Int) (hl : (textL z).length ≤ 2000) : parseC (textL z) = 0 ∧ parseZ (textL z) = z := by
  by_cases h0 : z = 0
  · subst h0; exact ⟨by decide, by decide⟩
  · obtain ⟨hb, hn⟩ := textL_body z
    rw [if_neg h0] at hb
    obtain ⟨h1, h2, h3⟩ := txt_digits z.natAbs
    have hne : txt z.natAbs ≠ [] := fun e => by rw [e] at h2; simp [valD] at h2; omega
    obtain ⟨c, r, hcr⟩ := List.exists_cons_of_ne_nil hne
    have hc48 := h3 c r hcr
    have hbl : (txt z.natAbs).length ≤ 2000 := by
      have := congrArg List.length (body_split (textL z))
      rw [List.length_append, hb] at this
      omega
    have hpc : parseC (textL z) = 0 := by
      unfold parseC
      rw [if_neg (by omega), if_neg, if_neg (by rw [hb, h1]; decide), if_neg (by rw [hb]; omega)]
      unfold badHead
      rw [hb, hcr]
      simp [hc48]
    refine ⟨hpc, ?_⟩
    unfold parseZ
    rw [if_pos hpc, hn, hb, h2]
    by_cases hz : z < 0
    · simp [hz]; omega
    · simp [hz]; omega
theorem fparse_text {q : Rat} {T : List UInt8} (hT : T = textL q.num ++ (if q.den = 1 then [] else 47 :: textL (q.den : Int))) (hl : T.length ≤ 600) : fparse T = (0, q) := by
  by_cases hd : q.den = 1
  · rw [if_pos hd, List.append_nil] at hT
    subst hT
    rw [fparse_plain (by omega) (textL_no (by decide) (by decide) _) (textL_no (by decide) (by decide) _), (fp_textL q.num (by omega)).1, if_pos rfl, (fp_textL q.num (by omega)).2]
    refine congrArg _ ?_
    exact Rat.ext (Rat.num_intCast _) ((Rat.den_intCast _).trans hd.symm)
  · rw [if_neg hd] at hT
    have hlen : (textL q.num).length + ((textL (q.den : Int)).length + 1) ≤ 600 := by rw [hT, List.length_append, List.length_cons] at hl; exact hl
    have hm : 47 ∈ T := by rw [hT]; simp
    obtain ⟨p1, p2⟩ := pre_app (c := 47) (a := textL q.num) (b := textL (q.den : Int)) (textL_no (by decide) (by decide) _)
    rw [← hT] at p1 p2
    have a1 := fp_textL q.num (by omega)
    have a2 := fp_textL (q.den : Int) (by omega)
    have hp := q.den_pos
    rw [fparse_slash (by omega) hm, p1, p2, if_pos ⟨a1.1, a2.1, by rw [a2.2]; omega⟩, a1.2, a2.2, Rat.num_divInt_den]
end Go.Proofs.YtmochehkkadjnaaGreatDoor

namespace Go.Proofs.YtmochehkkadjnaaGreatDoor
open Go.RowKit Go.Shelf

def CutOk (w : World) : Prop := ∃ m, w.cell? ⟨1, 0, none⟩ = some (.int .i64 m)
theorem CutOk.keep {w w' : World} (h : CutOk w) (hk : Keeps w w') : CutOk w' := by
  obtain ⟨m, hm⟩ := h
  have hlt : 1 < w.heap.size := by
    rcases Nat.lt_or_ge 1 w.heap.size with h | h
    · exact h
    · simp [World.cell?, Array.getElem?_eq_none h] at hm
  exact ⟨m, (hk.cell (p := ⟨1, 0, none⟩) hlt).trans hm⟩
theorem indexByte_pre (c : UInt8) : ∀ l : List UInt8, Lib.indexByte l c = if c ∈ l then ((pre c l).length : Int) else -1
  | [] => rfl
  | x :: r => by
    rw [Lib.indexByte, indexByte_pre c r]
    unfold pre
    rw [List.takeWhile_cons]
    by_cases hx : x = c
    · subst hx; simp
    · have hb : (x != c) = true := by simpa using hx
      have he : (x == c) = false := by simpa using hx
      by_cases hm : c ∈ r
      · simp [hb, hm, hx]
      · simp [hm, hx, Ne.symm hx]
theorem cut_pre (c : UInt8) (l : List UInt8) : Lib.cut l [c] = if c ∈ l then (pre c l, post c l, true) else (l, [], false) := by
  unfold Lib.cut
  rw [Lib.index_one, indexByte_pre]
  by_cases hm : c ∈ l
  · have e := cut_at hm
    obtain ⟨a, ha⟩ : ∃ a, pre c l = a := ⟨_, rfl⟩
    obtain ⟨b, hb⟩ : ∃ b, post c l = b := ⟨_, rfl⟩
    rw [ha, hb] at e ⊢
    have e1 : l.take a.length = a := by rw [e]; simp
    have e2 : l.drop (a.length + 1) = b := by rw [e]; simp
    simp only [hm, if_true, Int.toNat_natCast, List.length_singleton, e1, e2]
    rw [if_pos (by omega)]
  · simp [hm]
theorem cut_yes {w : World} {s : ByteArray} {c : UInt8} {l a b : List UInt8} (h : CutOk w) (hs : s.size ≤ 1000000) (hl : s.data.toList = l) (hm : c ∈ l) (ea : pre c l = a) (eb : post c l = b) :
    Calls Tryz.prog 124 #[.string s, .string ⟨#[c]⟩] w fun e w' => e = .returned (.tuple #[.string ⟨a.toArray⟩, .string ⟨b.toArray⟩, .bool true]) ∧ Keeps w w' := by
  obtain ⟨m, h⟩ := h
  subst hl ea eb
  refine (Tryz.strings_Cut s ⟨#[c]⟩ m w (by omega) h).mono ?_
  rintro e w' ⟨rfl, n, rfl⟩
  refine ⟨?_, below_drewN (Below.refl _ _) n⟩
  rw [show (ByteArray.mk #[c]).data.toList = [c] from rfl, cut_pre, if_pos hm]
theorem cut_yes2 {w : World} {s : ByteArray} {c : UInt8} {l a : List UInt8} {E : ByteArray} (h : CutOk w) (hs : s.size ≤ 1000000) (hl : s.data.toList = l) (hm : c ∈ l) (ea : pre c l = a) (eb : ByteArray.mk (post c l).toArray = E) :
    Calls Tryz.prog 124 #[.string s, .string ⟨#[c]⟩] w fun e w' => e = .returned (.tuple #[.string ⟨a.toArray⟩, .string E, .bool true]) ∧ Keeps w w' := by
  subst eb
  exact cut_yes h hs hl hm ea rfl
theorem cut_no {w : World} {s : ByteArray} {c : UInt8} {l : List UInt8} (h : CutOk w) (hs : s.size ≤ 1000000) (hl : s.data.toList = l) (hm : c ∉ l) :
    Calls Tryz.prog 124 #[.string s, .string ⟨#[c]⟩] w fun e w' => e = .returned (.tuple #[.string ⟨l.toArray⟩, .string ⟨#[]⟩, .bool false]) ∧ Keeps w w' := by
  obtain ⟨m, h⟩ := h
  subst hl
  refine (Tryz.strings_Cut s ⟨#[c]⟩ m w (by omega) h).mono ?_
  rintro e w' ⟨rfl, n, rfl⟩
  refine ⟨?_, below_drewN (Below.refl _ _) n⟩
  rw [show (ByteArray.mk #[c]).data.toList = [c] from rfl, cut_pre, if_neg hm]
theorem hasp_s {w : World} {l : List UInt8} {b : Bool} (hb : negOf l = b) : Calls Tryz.prog 126 #[.string ⟨l.toArray⟩, .string ⟨#[45]⟩] w fun e w' => e = .returned (.bool b) ∧ Keeps w w' := by
  subst hb
  refine (Tryz.strings_HasPrefix ⟨l.toArray⟩ ⟨#[45]⟩ w).mono ?_
  rintro e w' ⟨rfl, rfl⟩
  refine ⟨?_, Below.refl _ _⟩
  have : Lib.hasPrefix l [45] = negOf l := by
    unfold Lib.hasPrefix negOf
    cases l with
    | nil => rfl
    | cons a r => simp [List.isPrefixOf]
                  by_cases h : a = 45
                  · subst h; rfl
                  · simp [h]; exact fun e => h e.symm
  rw [← this]
theorem trimp_s {w : World} {l : List UInt8} {D : ByteArray} (h : ByteArray.mk (bodyOf l).toArray = D) : Calls Tryz.prog 127 #[.string ⟨l.toArray⟩, .string ⟨#[45]⟩] w fun e w' => e = .returned (.string D) ∧ Keeps w w' := by
  subst h
  refine (Tryz.strings_TrimPrefix ⟨l.toArray⟩ ⟨#[45]⟩ w).mono ?_
  rintro e w' ⟨rfl, rfl⟩
  refine ⟨?_, Below.refl _ _⟩
  have : Lib.trimPrefix l [45] = bodyOf l := by
    unfold Lib.trimPrefix Lib.hasPrefix bodyOf
    cases l with
    | nil => rfl
    | cons a r => simp [List.isPrefixOf]
                  by_cases h : a = 45
                  · subst h; rfl
                  · simp [h]; intro e; exact absurd e.symm h
  rw [← this]
theorem triml_s {w : World} {s D : ByteArray} (h : ByteArray.mk (bare s.data.toList).toArray = D) : Calls Tryz.prog 129 #[.string s, .string ⟨#[48]⟩] w fun e w' => e = .returned (.string D) ∧ Keeps w w' := by
  subst h
  refine (Tryz.strings_TrimLeft_one s 48 (by decide) w).mono ?_
  rintro e w' ⟨rfl, rfl⟩
  exact ⟨rfl, Below.refl _ _⟩
theorem take_dg {d : ByteArray} {k : Nat} (hlt : k < d.size) (h : (d.data.toList.take k).all isDg = true) (hd : isDg d[k] = true) : (d.data.toList.take (k + 1)).all isDg = true := by
  rw [List.take_succ_eq_append_getElem (by simpa using hlt), List.all_append, h, Bool.true_and, List.all_cons, List.all_nil, Bool.and_true]
  exact hd
theorem not_dg {d : ByteArray} {k : Nat} (hlt : k < d.size) (hd : isDg d[k] = false) : d.data.toList.all isDg = false := by
  rw [List.all_eq_false]
  exact ⟨d[k], List.mem_of_getElem? (i := k) (by simp [hlt]; rfl), by rw [hd]; decide⟩
def fdigB (l : List UInt8) : Bool := l.all isDg && !l.isEmpty
theorem fdigB_no {l : List UInt8} (h : l.all isDg = false) : fdigB l = false := by unfold fdigB; rw [h]; rfl
set_option maxRecDepth 100000 in
theorem fdigits_any (d : ByteArray) (w : World) (hs : d.size ≤ 1000000) : Calls Tryz.prog 128 #[.string d] w fun e w' => e = .returned (.bool (fdigB d.data.toList)) ∧ Keeps w w' := by
  have hdI : (d.size : Int) ≤ 1000000 := by omega
  go_enter Tryz.func128, Tryz.ntmps128
  go_wp2
  go_loop [6] (fun i => ∃ k : Nat, k ≤ d.size ∧ i = .int .i64 (k : Nat) ∧ (d.data.toList.take k).all isDg = true) (fun i => d.size - (intOf i).toNat)
  case atStart => exact ⟨0, Nat.zero_le _, rfl, rfl⟩
  case round =>
    obtain ⟨k, hkd, rfl, hall⟩ := hrel
    have HALL := Lib.hid hall
    clear hall
    by_cases hlt : k < d.size
    · skip
      have hub : d[k].toNat < 256 := d[k].toNat_lt
      cases hdg : isDg d[k] with
      | true =>
        have h1 := isDg_le hdg
        have HDG := Lib.hid (take_dg hlt HALL.out hdg)
        have e1 : decide ((d[k].toNat : Int) < 48) = false := decide_eq_false (by omega)
        have e2 : decide ((57 : Int) < d[k].toNat) = false := decide_eq_false (by unfold isDg at hdg; simp at hdg; omega)
        have e3 : ¬ (d[k].toNat : Int) < 48 := of_decide_eq_false e1
        have e4 : ¬ (57 : Int) < d[k].toNat := of_decide_eq_false e2
        clear h1 hdg hub
        go_wp2
        go_round
        case rel => exact ⟨k + 1, by omega, by go_num, HDG.out⟩
        case measure => simp [intOf]; omega
      | false =>
        have HND := Lib.hid (not_dg hlt hdg)
        have hnd : d[k].toNat < 48 ∨ 57 < d[k].toNat := by unfold isDg at hdg; simp at hdg; omega
        clear hdg
        by_cases hlo : d[k].toNat < 48
        · have e1 : decide ((d[k].toNat : Int) < 48) = true := decide_eq_true (by omega)
          have e3 : (d[k].toNat : Int) < 48 := by omega
          clear hnd hub
          go_wp2
          go_ret
          exact ⟨by rw [fdigB_no HND.out]; rfl, Below.refl _ _⟩
        · have e1 : decide ((d[k].toNat : Int) < 48) = false := decide_eq_false (by omega)
          have e2 : decide ((57 : Int) < d[k].toNat) = true := decide_eq_true (by omega)
          have e3 : ¬ (d[k].toNat : Int) < 48 := by omega
          have e4 : (57 : Int) < d[k].toNat := by omega
          clear hnd hub
          go_wp2
          go_ret
          exact ⟨by rw [fdigB_no HND.out]; rfl, Below.refl _ _⟩
    · obtain rfl : k = d.size := by omega
      have hal : d.data.toList.all isDg = true := by have := HALL.out; rwa [List.take_of_length_le (by simp)] at this
      have HAL := Lib.hid hal
      clear hal
      by_cases hd0 : d.size = 0
      · have tz1 : d.toList.isEmpty = true := empty_yes d hd0
        have HE := Lib.hid (show d.data.toList.isEmpty = true by rw [List.isEmpty_iff]; exact List.eq_nil_of_length_eq_zero (by simpa using hd0))
        go_wp2
        go_ret
        exact ⟨by rw [show fdigB d.data.toList = false by unfold fdigB; rw [HAL.out, HE.out]; rfl]; rfl, Below.refl _ _⟩
      · have tz1 : d.toList.isEmpty = false := empty_no d (by omega)
        have HE := Lib.hid (show d.data.toList.isEmpty = false by rw [List.isEmpty_eq_false_iff]; intro e; exact hd0 (by have := congrArg List.length e; simpa using this))
        go_wp2
        go_ret
        exact ⟨by rw [show fdigB d.data.toList = true by unfold fdigB; rw [HAL.out, HE.out]; rfl]; rfl, Below.refl _ _⟩
def gdigB (l : List UInt8) (n : Int) : Bool := !(decide ((l.length : Int) < 1) || decide (n < (l.length : Int))) && l.all isDg
set_option maxRecDepth 100000 in
theorem gdigits_any (d : ByteArray) (n : Int) (w : World) (hs : d.size ≤ 1000000) : Calls Tryz.prog 176 #[.string d, .int .i64 n] w fun e w' => e = .returned (.bool (gdigB d.data.toList n)) ∧ Keeps w w' := by
  have hdI : (d.size : Int) ≤ 1000000 := by omega
  have hlen : d.data.toList.length = d.size := by simp
  by_cases h1 : (d.size : Int) < 1
  · have t1 : decide ((d.size : Int) < 1) = true := decide_eq_true h1
    have HB := Lib.hid (show gdigB d.data.toList n = false by unfold gdigB; rw [hlen, t1]; rfl)
    clear hlen
    go_enter Tryz.func176, Tryz.ntmps176
    go_wp2
    go_ret
    exact ⟨by rw [HB.out]; rfl, Below.refl _ _⟩
  have t1 : decide ((d.size : Int) < 1) = false := decide_eq_false h1
  by_cases h2 : n < (d.size : Int)
  · have t2 : decide (n < (d.size : Int)) = true := decide_eq_true h2
    have HB := Lib.hid (show gdigB d.data.toList n = false by unfold gdigB; rw [hlen, t1, t2]; rfl)
    clear hlen
    go_enter Tryz.func176, Tryz.ntmps176
    go_wp2
    go_ret
    exact ⟨by rw [HB.out]; rfl, Below.refl _ _⟩
  have t2 : decide (n < (d.size : Int)) = false := decide_eq_false h2
  have HB := Lib.hid (show gdigB d.data.toList n = d.data.toList.all isDg by unfold gdigB; rw [hlen, t1, t2]; rfl)
  clear hlen
  go_enter Tryz.func176, Tryz.ntmps176
  go_wp2
  go_loop [5] (fun i => ∃ k : Nat, k ≤ d.size ∧ i = .int .i64 (k : Nat) ∧ (d.data.toList.take k).all isDg = true) (fun i => d.size - (intOf i).toNat)
  case atStart => exact ⟨0, Nat.zero_le _, rfl, rfl⟩
  case round =>
    obtain ⟨k, hkd, rfl, hall⟩ := hrel
    have HALL := Lib.hid hall
    clear hall
    by_cases hlt : k < d.size
    · skip
      have hub : d[k].toNat < 256 := d[k].toNat_lt
      cases hdg : isDg d[k] with
      | true =>
        have h1 := isDg_le hdg
        have HDG := Lib.hid (take_dg hlt HALL.out hdg)
        have e1 : decide ((d[k].toNat : Int) < 48) = false := decide_eq_false (by omega)
        have e2 : decide ((57 : Int) < d[k].toNat) = false := decide_eq_false (by unfold isDg at hdg; simp at hdg; omega)
        have e3 : ¬ (d[k].toNat : Int) < 48 := of_decide_eq_false e1
        have e4 : ¬ (57 : Int) < d[k].toNat := of_decide_eq_false e2
        clear h1 hdg hub
        go_wp2
        go_round
        case rel => exact ⟨k + 1, by omega, by go_num, HDG.out⟩
        case measure => simp [intOf]; omega
      | false =>
        have HND := Lib.hid (not_dg hlt hdg)
        have hnd : d[k].toNat < 48 ∨ 57 < d[k].toNat := by unfold isDg at hdg; simp at hdg; omega
        clear hdg
        by_cases hlo : d[k].toNat < 48
        · have e1 : decide ((d[k].toNat : Int) < 48) = true := decide_eq_true (by omega)
          have e3 : (d[k].toNat : Int) < 48 := by omega
          clear hnd hub
          go_wp2
          go_ret
          exact ⟨by rw [HB.out, HND.out]; rfl, Below.refl _ _⟩
        · have e1 : decide ((d[k].toNat : Int) < 48) = false := decide_eq_false (by omega)
          have e2 : decide ((57 : Int) < d[k].toNat) = true := decide_eq_true (by omega)
          have e3 : ¬ (d[k].toNat : Int) < 48 := by omega
          have e4 : (57 : Int) < d[k].toNat := by omega
          clear hnd hub
          go_wp2
          go_ret
          exact ⟨by rw [HB.out, HND.out]; rfl, Below.refl _ _⟩
    · obtain rfl : k = d.size := by omega
      have hal : d.data.toList.all isDg = true := by have := HALL.out; rwa [List.take_of_length_le (by simp)] at this
      have HAL := Lib.hid hal
      clear hal
      go_wp2
      go_ret
      exact ⟨by rw [HB.out, HAL.out]; rfl, Below.refl _ _⟩
set_option maxRecDepth 100000 in
theorem gindex_any (d : ByteArray) (c : UInt8) (C : Int) (hc : C = (c.toNat : Int)) (w : World) (hs : d.size ≤ 1000000) : Calls Tryz.prog 130 #[.string d, .int .u8 C] w fun e w' => e = .returned (.int .i64 (Lib.indexByte d.data.toList c)) ∧ Keeps w w' := by
  have hdI : (d.size : Int) ≤ 1000000 := by omega
  go_enter Tryz.func130, Tryz.ntmps130
  go_wp2
  go_loop [5] (fun i => ∃ k : Nat, k ≤ d.size ∧ i = .int .i64 (k : Nat) ∧ c ∉ d.data.toList.take k) (fun i => d.size - (intOf i).toNat)
  case atStart => exact ⟨0, Nat.zero_le _, rfl, by simp⟩
  case round =>
    obtain ⟨k, hkd, rfl, hall⟩ := hrel
    have HALL := Lib.hid hall
    clear hall
    by_cases hlt : k < d.size
    · have hst : d.data.toList.take (k + 1) = d.data.toList.take k ++ [d[k]] := by
        rw [List.take_succ_eq_append_getElem (by simpa using hlt)]; rfl
      by_cases hd : d[k] = c
      · have e1 : ((d[k].toNat : Int) == C) = true := by rw [hc, hd]; simp
        have HX := Lib.hid (show Lib.indexByte d.data.toList c = (k : Int) by
          have hm : c ∈ d.data.toList := by rw [← hd]; exact List.mem_of_getElem? (i := k) (by simp [hlt]; rfl)
          rw [indexByte_pre, if_pos hm]
          have e := pre_app (c := c) (a := d.data.toList.take k) (b := d.data.toList.drop (k + 1)) HALL.out
          have e2 : d.data.toList.take k ++ c :: d.data.toList.drop (k + 1) = d.data.toList := by
            rw [← hd, ← List.singleton_append, ← List.append_assoc, ← hst, List.take_append_drop]
          rw [e2] at e
          rw [e.1, List.length_take]
          have : d.data.toList.length = d.size := by simp
          omega)
        clear hst hd
        go_wp2
        go_ret
        exact ⟨by rw [HX.out]; rfl, Below.refl _ _⟩
      · have e1 : ((d[k].toNat : Int) == C) = false := by
          rw [hc, beq_eq_false_iff_ne]
          intro e
          exact hd (UInt8.toNat_inj.1 (by omega))
        have HN := Lib.hid (show c ∉ d.data.toList.take (k + 1) by
          rw [hst, List.mem_append]
          rintro (h | h)
          · exact HALL.out h
          · exact hd (List.mem_singleton.1 h).symm)
        clear hst hd
        go_wp2
        go_round
        case rel => exact ⟨k + 1, by omega, by go_num, HN.out⟩
        case measure => simp [intOf]; omega
    · obtain rfl : k = d.size := by omega
      have HX := Lib.hid (show Lib.indexByte d.data.toList c = -1 by
        have := HALL.out
        rw [List.take_of_length_le (by simp)] at this
        rw [indexByte_pre, if_neg this])
      go_wp2
      go_ret
      exact ⟨by rw [HX.out]; rfl, Below.refl _ _⟩
theorem fdigits_b {d : ByteArray} {w : World} {b : Bool} (hs : d.size ≤ 1000000) (h : fdigB d.data.toList = b) : Calls Tryz.prog 128 #[.string d] w fun e w' => e = .returned (.bool b) ∧ Keeps w w' := by
  subst h; exact fdigits_any d w hs
theorem gdigits_b {d : ByteArray} {n : Int} {w : World} {b : Bool} (hs : d.size ≤ 1000000) (h : gdigB d.data.toList n = b) : Calls Tryz.prog 176 #[.string d, .int .i64 n] w fun e w' => e = .returned (.bool b) ∧ Keeps w w' := by
  subst h; exact gdigits_any d n w hs
end Go.Proofs.YtmochehkkadjnaaGreatDoor
