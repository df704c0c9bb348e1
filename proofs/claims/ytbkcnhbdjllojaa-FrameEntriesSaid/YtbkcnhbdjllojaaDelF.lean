/- slices.DeleteFunc of the entries with a key: the walk. -/
import Derived.Test.YtbkcnhbdjllojaaDelE
namespace Go.Proofs.Ytbkcnhbdjllojaa
open Go.RowKit Go.Shelf

theorem set_two (A D : List Value) (x y k v : Value) {n : Nat} (hn : n = A.length) : ((A ++ x :: y :: D).set n k).set (n + 1) v = A ++ [k, v] ++ D := by
  subst hn
  rw [List.set_append_right _ _ (Nat.le_refl _), Nat.sub_self, List.set_append_right _ _ (by omega), show A.length + 1 - A.length = 1 by omega]
  simp
/-- the cells of a row, the first of which are moved -/
def movC (l r : List Ent) (X : List Value) (t : Nat) : List Value := entVs (l ++ r.take t) ++ X.drop ((l.length + t) * 2)
set_option maxRecDepth 100000 in
theorem deleteF_no {w : World} {A : Option Addr} {c : Nat} {es : List Ent} (hE : EntR w A es) (hl : es.length ≤ 1000) (g : Nat) (lb : Array Value) (he : ∀ args w, (callFunc g args).run Try.prog w = .ok (.enter g args) w) (key : ByteArray) {B : Nat} (hB : B ≤ w.heap.size) (hp : SaysE Try.prog g lb (isK key) B w) (hno : ∀ e ∈ es, e.1 ≠ key) :
    Calls Try.prog 42 #[.slice A es.length c, .func (.func g) #[] lb] w fun e w' => e = .returned (.slice A es.length c) ∧ Keeps w w' := by
  have HI := Lib.hid (indexE_any (c := c) hE hl g lb he key hB hp)
  have HN := Lib.hid hno
  clear hE hp hno
  go_enter Try.func42, Try.ntmps42
  go_wp2_with fail
  refine HI.out.mono ?_
  rintro e w1 ⟨v, rfl, hv, hk⟩
  obtain rfl : v = -1 := by
    rcases hv with ⟨h, -⟩ | ⟨l, x, r, h, -, -⟩
    · exact h
    · exact absurd rfl (HN.out (key, x) (by rw [h]; simp))
  clear hv
  go_wp2
  go_ret
  exact ⟨rfl, hk⟩
theorem idxE_at {key : ByteArray} {l r : List Ent} {x : ByteArray} {v : Int} (h : IdxE key (l ++ (key, x) :: r) v) (hl : ∀ e ∈ l, e.1 ≠ key) : v = (l.length : Int) := by
  rcases h with ⟨-, h⟩ | ⟨l', x', r', h, hv, h'⟩
  · exact absurd rfl (h (key, x) (by simp))
  · rw [hv]
    rcases Nat.lt_trichotomy l.length l'.length with hlt | heq | hlt
    · have h1 : (l ++ (key, x) :: r)[l.length]? = some (key, x) := by simp
      rw [h, List.getElem?_append_left hlt] at h1
      exact absurd rfl (h' _ (List.mem_of_getElem? h1))
    · rw [heq]
    · have h1 : (l' ++ (key, x') :: r')[l'.length]? = some (key, x') := by simp
      rw [← h, List.getElem?_append_left hlt] at h1
      exact absurd rfl (hl _ (List.mem_of_getElem? h1))
set_option maxRecDepth 100000 in
set_option maxHeartbeats 1000000 in
theorem deleteF_yes {w : World} {base g cap : Nat} {l r : List Ent} {key x : ByteArray} (h : OE w base g cap (l ++ (key, x) :: r)) (hn : l.length + r.length + 1 ≤ 1000) (f : Nat) (lb : Array Value) (he : ∀ args w, (callFunc f args).run Try.prog w = .ok (.enter f args) w)
    (hb : base ≤ w.heap.size) (hp : SaysE Try.prog f lb (isK key) base w) (hl : ∀ e ∈ l, e.1 ≠ key) (hr : ∀ e ∈ r, e.1 ≠ key) :
    Calls Try.prog 42 #[.slice (some ⟨g, 0, none⟩) (l.length + r.length + 1) cap, .func (.func f) #[] lb] w fun e' w' => e' = .returned (.slice (some ⟨g, 0, none⟩) (l.length + r.length) cap) ∧ OE w' base g cap (l ++ r) ∧ Below base w w' := by
  have hE := h.entR
  have hlen : (l ++ (key, x) :: r).length = l.length + r.length + 1 := by simp; omega
  have HI := Lib.hid (indexE_any (c := cap) hE (by omega) f lb he key hb hp)
  rw [hlen] at HI
  have HP : Hid (SaysE Try.prog f lb (isK key) base w) := Lib.hid hp
  obtain ⟨hlo, hle, hmx, sp, hO, hsp⟩ := h
  rw [hlen] at hle hsp
  have hvl : (entVs (l ++ (key, x) :: r) ++ sp).length = 2 * cap := by rw [List.length_append, entVs_length, hlen, hsp]; omega
  have HLO := Lib.hid hlo
  have HB := Lib.hid hb
  have HRN := Lib.hid hr
  have HMX := Lib.hid hmx
  have HVL := Lib.hid hvl
  have HO := Lib.hid hO
  have HLN := Lib.hid hl
  have hcI : (l.length : Int) + r.length + 1 ≤ cap := by omega
  have hnI : (l.length : Int) + r.length ≤ 1000 := by omega
  clear hE hp hl hr hO hvl hlo hb hsp hmx
  go_enter Try.func42, Try.ntmps42
  go_wp2_with fail
  refine HI.out.mono ?_
  rintro e w1 ⟨v, rfl, hv, hk1⟩
  obtain rfl := idxE_at hv HLN.out
  clear hv
  have HK0 : Hid (movC l r (entVs (l ++ (key, x) :: r) ++ sp) 0 = entVs (l ++ (key, x) :: r) ++ sp) := Lib.hid (by
    have e1 : entVs l = (entVs (l ++ (key, x) :: r) ++ sp).take (l.length * 2) := by
      have := entVs_length l
      rw [entVs_append, List.append_assoc, List.take_append_of_le_length (by omega), List.take_of_length_le (by omega)]
    rw [movC, List.take_zero, List.append_nil, Nat.add_zero, e1, List.take_append_drop])
  have hO1 : Own w1 g 57 (movC l r (entVs (l ++ (key, x) :: r) ++ sp) 0) := by rw [HK0.out]; exact HO.out.below hk1
  have hkb : Below base w w1 := hk1.mono HB.out
  have HGET : Hid (∀ t k v, r[t]? = some (k, v) → (movC l r (entVs (l ++ (key, x) :: r) ++ sp) t)[(l.length + t + 1) * 2]? = some (.string k) ∧ (movC l r (entVs (l ++ (key, x) :: r) ++ sp) t)[(l.length + t + 1) * 2 + 1]? = some (.string v)) := Lib.hid fun t k v ht => by
    have htl := (List.getElem?_eq_some_iff.1 ht).1
    have h1 : (l ++ (key, x) :: r)[l.length + t + 1]? = some (k, v) := by rw [List.getElem?_append_right (by omega), show l.length + t + 1 - l.length = t + 1 by omega]; exact ht
    obtain ⟨g1, g2⟩ := entVs_get h1
    have lA : (entVs (l ++ r.take t)).length = (l.length + t) * 2 := by rw [entVs_length, List.length_append, List.length_take, Nat.min_eq_left (by omega)]; omega
    have m1 := (List.getElem?_eq_some_iff.1 g1).1
    have m2 := (List.getElem?_eq_some_iff.1 g2).1
    constructor
    · rw [movC, List.getElem?_append_right (by omega), lA, List.getElem?_drop, show (l.length + t) * 2 + ((l.length + t + 1) * 2 - (l.length + t) * 2) = 2 * (l.length + t + 1) by omega, List.getElem?_append_left m1, g1]
    · rw [movC, List.getElem?_append_right (by omega), lA, List.getElem?_drop, show (l.length + t) * 2 + ((l.length + t + 1) * 2 + 1 - (l.length + t) * 2) = 2 * (l.length + t + 1) + 1 by omega, List.getElem?_append_left m2, g2]
  have HSET : Hid (∀ t k v, r[t]? = some (k, v) → ∃ x0 x1, (movC l r (entVs (l ++ (key, x) :: r) ++ sp) t)[(l.length + t) * 2]? = some x0 ∧ (movC l r (entVs (l ++ (key, x) :: r) ++ sp) t)[(l.length + t) * 2 + 1]? = some x1 ∧
      ((movC l r (entVs (l ++ (key, x) :: r) ++ sp) t).set ((l.length + t) * 2) (.string k)).set ((l.length + t) * 2 + 1) (.string v) = movC l r (entVs (l ++ (key, x) :: r) ++ sp) (t + 1)) := Lib.hid fun t k v ht => by
    have htl := (List.getElem?_eq_some_iff.1 ht).1
    have hvl := HVL.out
    have lA : (entVs (l ++ r.take t)).length = (l.length + t) * 2 := by rw [entVs_length, List.length_append, List.length_take, Nat.min_eq_left (by omega)]; omega
    have d1 : (l.length + t) * 2 < (entVs (l ++ (key, x) :: r) ++ sp).length := by omega
    have d2 : (l.length + t) * 2 + 1 < (entVs (l ++ (key, x) :: r) ++ sp).length := by omega
    have e0 : (entVs (l ++ (key, x) :: r) ++ sp).drop ((l.length + t) * 2) = (entVs (l ++ (key, x) :: r) ++ sp)[(l.length + t) * 2] :: (entVs (l ++ (key, x) :: r) ++ sp)[(l.length + t) * 2 + 1] :: (entVs (l ++ (key, x) :: r) ++ sp).drop ((l.length + (t + 1)) * 2) := by
      rw [List.drop_eq_getElem_cons d1, List.drop_eq_getElem_cons d2, show (l.length + (t + 1)) * 2 = (l.length + t) * 2 + 1 + 1 by omega]
    refine ⟨(entVs (l ++ (key, x) :: r) ++ sp)[(l.length + t) * 2], (entVs (l ++ (key, x) :: r) ++ sp)[(l.length + t) * 2 + 1], ?_, ?_, ?_⟩
    · rw [movC, e0, List.getElem?_append_right (by omega), lA, Nat.sub_self]; rfl
    · rw [movC, e0, List.getElem?_append_right (by omega), lA, show (l.length + t) * 2 + 1 - (l.length + t) * 2 = 1 by omega]; rfl
    · rw [movC, e0, set_two _ _ _ _ _ _ lA.symm, movC]
      have : r.take (t + 1) = r.take t ++ [(k, v)] := by rw [List.take_succ_eq_append_getElem htl, (List.getElem?_eq_some_iff.1 ht).2]
      rw [this, ← List.append_assoc, entVs_append (l ++ r.take t)]
      rfl
  generalize hX : entVs (l ++ (key, x) :: r) ++ sp = X at *
  clear hX HK0
  have hm1 : ((l.length : Int) == -1) = false := by simp
  go_wp2
  go_loopw [6, 5] (fun jv iv wr => ∃ t : Nat, t ≤ r.length ∧ jv = .int .i64 ((l.length : Int) + t + 1) ∧ iv = .int .i64 ((l.length : Int) + t) ∧ Own wr g 57 (movC l r X t) ∧ Below base w wr) (fun jv _ _ => l.length + r.length + 1 - (intOf jv).toNat)
  case atStart => exact ⟨0, Nat.zero_le _, by go_num, by go_num, hO1, hkb⟩
  case round =>
    clear hO1 hkb
    obtain ⟨t, ht, rfl, rfl, hO, hk⟩ := hrel
    by_cases hlt : t < r.length
    · obtain ⟨⟨k, v⟩, hkv⟩ : ∃ e, r[t]? = some e := ⟨_, List.getElem?_eq_getElem hlt⟩
      obtain ⟨q0, q1⟩ := HGET.out t k v hkv
      obtain ⟨x0, x1, p0, p1, hset⟩ := HSET.out t k v hkv
      have HST := Lib.hid hset
      have hne : isK key k = false := isK_not (HRN.out _ (List.mem_of_getElem? hkv))
      obtain ⟨W4, hW4⟩ : ∃ W4, wr.alloc (.cells #[.string k, .string v] 57) = W4 := ⟨_, rfl⟩
      have h7 : Own W4 wr.heap.size 57 [.string k, .string v] := hW4 ▸ Own.new wr _ _
      have hk4 : Keeps wr W4 := hW4 ▸ (Below.refl _ _).alloc (Nat.le_refl _) _
      have hbw : base ≤ wr.heap.size := Nat.le_trans HB.out hk.size
      have HS := Lib.hid (HP.out W4 (hk.trans (hk4.mono hbw)) k v)
      rw [hne] at HS
      have c0 : wr.cell? ⟨g, (l.length + t + 1) * 2, none⟩ = some (.string k) := by rw [hO.cell]; exact q0
      have c1 : wr.cell? ⟨g, (l.length + t + 1) * 2 + 1, none⟩ = some (.string v) := by rw [hO.cell]; exact q1
      have n0 := h7.cell 0
      have n1 := h7.cell 1
      simp only [List.getElem?_cons_zero, List.getElem?_cons_succ] at n0 n1
      have htI : (t : Int) < r.length := by omega
      have hmb : (l.length : Int) + t + 1 < (l.length : Int) + r.length + 1 := by omega
      have H7 := Lib.hid h7
      have HOW := Lib.hid hO
      clear q0 q1 hset hkv hne
      go_wp2_with fail
      refine HS.out.mono ?_
      rintro e w5 ⟨rfl, hk5⟩
      have h75 := H7.out.below hk5
      have hO5 := (HOW.out.below hk4).below hk5
      have m0 := h75.cell 0
      have m1 := h75.cell 1
      simp only [List.getElem?_cons_zero, List.getElem?_cons_succ] at m0 m1
      have y0 : w5.cell? ⟨g, (l.length + t) * 2, none⟩ = some x0 := by rw [hO5.cell]; exact p0
      have y1 : w5.cell? ⟨g, (l.length + t) * 2 + 1, none⟩ = some x1 := by rw [hO5.cell]; exact p1
      have f0 := hO5.frozen ((l.length + t) * 2)
      have f1 := hO5.frozen ((l.length + t) * 2 + 1)
      have hk45 : Below base w w5 := hk.trans ((hk4.trans' hk5).mono hbw)
      go_wp2
      have hO6 := (hO5.set ((l.length + t) * 2) (.string k)).set ((l.length + t) * 2 + 1) (.string v)
      rw [HST.out] at hO6
      have hk6 := (hk45.setCell (p := ⟨g, (l.length + t) * 2, none⟩) HLO.out (.string k)).setCell (p := ⟨g, (l.length + t) * 2 + 1, none⟩) HLO.out (.string v)
      go_roundw
      case rel => exact ⟨t + 1, by omega, by congr 1, by congr 1, hO6, hk6⟩
      case measure => simp [intOf]; omega
    · obtain rfl : t = r.length := by omega
      have hdl : (X.drop ((l.length + r.length) * 2)).length = 2 * cap - (l.length + r.length) * 2 := by rw [List.length_drop, HVL.out]
      have hl2 := entVs_length (l ++ r)
      have hlr : (l ++ r).length = l.length + r.length := List.length_append
      have hmc : movC l r X r.length = entVs (l ++ r) ++ X.drop ((l.length + r.length) * 2) := by rw [movC, List.take_length]
      rw [hmc] at hO
      obtain ⟨W2, hW2⟩ : ∃ W2, wr.setCells g ((l.length + r.length) * 2) [.string ⟨#[]⟩, .string ⟨#[]⟩] = W2 := ⟨_, rfl⟩
      have hO2 : OE W2 base g cap (l ++ r) := by
        refine ⟨HLO.out, by rw [hlr]; omega, HMX.out, [.string ⟨#[]⟩, .string ⟨#[]⟩] ++ (X.drop ((l.length + r.length) * 2)).drop 2, ?_, by rw [List.length_append, List.length_drop, hdl, hlr]; simp; omega⟩
        have := Own.setCells [.string ⟨#[]⟩, .string ⟨#[]⟩] ((l.length + r.length) * 2) _ _ hO (by rw [List.length_append, hl2, hlr, hdl]; simp; omega)
        rw [hW2] at this
        rw [List.take_append_of_le_length (by omega), List.take_of_length_le (by omega), List.drop_append, List.drop_of_length_le (by rw [hl2, hlr]; simp; omega), List.nil_append, hl2, hlr] at this
        rw [show (l.length + r.length) * 2 + ([Value.string ⟨#[]⟩, Value.string ⟨#[]⟩] : List Value).length - 2 * (l.length + r.length) = 2 by simp; omega] at this
        rwa [List.append_assoc] at this
      have hk2 : Below base w W2 := hW2 ▸ below_setCells HLO.out _ _ _ hk
      have HO2 : Hid (OE W2 base g cap (l ++ r)) := Lib.hid hO2
      have HCL := fun ty => run_clear1 (off := (l.length + r.length) * 2) (c := cap - (l.length + r.length)) hO (by rw [List.length_append, hl2, hlr, hdl]; omega) ty
      rw [hW2] at HCL
      have hne : ¬ (cap = l.length + r.length) := by omega
      clear hO hO2 hW2 hdl hl2 hlr hmc
      have hs2 : l.length + r.length + 1 - (l.length + r.length) = 1 := by omega
      have n1 : l.length ≤ cap := by omega
      have n2 : l.length + 1 ≤ cap := by omega
      have n3 : l.length + r.length ≤ cap := by omega
      have n4 : l.length + r.length + 1 ≤ cap := by omega
      have n5 : ((l.length + r.length : Nat) : Int) = (l.length : Int) + r.length := by push_cast; rfl
      go_wp2
      go_ret
      exact ⟨rfl, HO2.out, hk2⟩
end Go.Proofs.Ytbkcnhbdjllojaa
