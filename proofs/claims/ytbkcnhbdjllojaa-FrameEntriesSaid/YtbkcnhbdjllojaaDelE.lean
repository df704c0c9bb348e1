/- slices.Delete of one entry: the walk. -/
import Derived.Test.YtbkcnhbdjllojaaEntO
namespace Go.Proofs.Ytbkcnhbdjllojaa
open Go.RowKit Go.Shelf

theorem entVs_del1 (l r : List Ent) (e : Ent) (sp : List Value) : (entVs (l ++ e :: r) ++ sp).take (l.length * 2) ++ entVs r ++ (entVs (l ++ e :: r) ++ sp).drop (l.length * 2 + (entVs r).length) = entVs (l ++ r) ++ ((entVs (l ++ e :: r) ++ sp).drop ((l.length + r.length) * 2)) := by
  have hl := entVs_length l
  have hr := entVs_length r
  have e1 : (entVs (l ++ e :: r) ++ sp).take (l.length * 2) = entVs l := by
    rw [entVs_append, List.append_assoc, List.take_append_of_le_length (by omega), List.take_of_length_le (by omega)]
  rw [e1, show l.length * 2 + (entVs r).length = (l.length + r.length) * 2 by omega, entVs_append l r]
theorem del_len (l r : List Ent) (e : Ent) (sp : List Value) : ((entVs (l ++ e :: r) ++ sp).drop ((l.length + r.length) * 2)).length = 2 + sp.length := by
  rw [List.length_drop, List.length_append, entVs_length, List.length_append, List.length_cons]
  omega
set_option maxRecDepth 100000 in
set_option maxHeartbeats 1000000 in
theorem deleteE_any {w : World} {base g cap : Nat} {l r : List Ent} {e : Ent} (h : OE w base g cap (l ++ e :: r)) (hn : l.length + r.length ≤ 1000) :
    Calls Try.prog 67 #[.slice (some ⟨g, 0, none⟩) (l.length + r.length + 1) cap, .int .i64 (l.length : Nat), .int .i64 ((l.length : Int) + 1)] w fun e' w' => e' = .returned (.slice (some ⟨g, 0, none⟩) (l.length + r.length) cap) ∧ OE w' base g cap (l ++ r) ∧ Below base w w' := by
  obtain ⟨hlo, hle, hmx, sp, hO, hsp⟩ := h
  have hlen : (l ++ e :: r).length = l.length + r.length + 1 := by simp; omega
  rw [hlen] at hle hsp
  have hvl : (entVs (l ++ e :: r) ++ sp).length = 2 * cap := by rw [List.length_append, entVs_length, hlen, hsp]; omega
  -- behind the append
  obtain ⟨W1, hW1⟩ : ∃ W1, w.drew.setCells g (l.length * 2) (entVs r) = W1 := ⟨_, rfl⟩
  have hO1 : Own W1 g 57 (entVs (l ++ r) ++ ((entVs (l ++ e :: r) ++ sp).drop ((l.length + r.length) * 2))) := by
    rw [← hW1, ← entVs_del1]
    exact Own.setCells _ _ _ _ hO.drew (by rw [hvl, entVs_length]; omega)
  have hk1 : Below base w W1 := hW1 ▸ below_setCells hlo _ _ _ (Below.drew (Below.refl _ _))
  have hdl := del_len l r e sp
  have hl2 := entVs_length (l ++ r)
  have hlr : (l ++ r).length = l.length + r.length := List.length_append
  -- behind the clear
  obtain ⟨W2, hW2⟩ : ∃ W2, W1.setCells g ((l.length + r.length) * 2) [.string ⟨#[]⟩, .string ⟨#[]⟩] = W2 := ⟨_, rfl⟩
  have hO2 : OE W2 base g cap (l ++ r) := by
    refine ⟨hlo, by rw [hlr]; omega, hmx, [.string ⟨#[]⟩, .string ⟨#[]⟩] ++ ((entVs (l ++ e :: r) ++ sp).drop ((l.length + r.length) * 2)).drop 2, ?_, by rw [List.length_append, List.length_drop, hdl, hlr]; simp; omega⟩
    have := Own.setCells [.string ⟨#[]⟩, .string ⟨#[]⟩] ((l.length + r.length) * 2) _ _ hO1 (by rw [List.length_append, hl2, hlr, hdl]; simp; omega)
    rw [hW2] at this
    rw [List.take_append_of_le_length (by omega), List.take_of_length_le (by omega), List.drop_append, List.drop_of_length_le (by rw [hl2, hlr]; simp; omega), List.nil_append, hl2, hlr] at this
    rw [show (l.length + r.length) * 2 + ([Value.string ⟨#[]⟩, Value.string ⟨#[]⟩] : List Value).length - 2 * (l.length + r.length) = 2 by simp; omega] at this
    rwa [List.append_assoc] at this
  have hk2 : Below base w W2 := hW2 ▸ below_setCells hlo _ _ _ hk1
  have HO2 : Hid (OE W2 base g cap (l ++ r)) := Lib.hid hO2
  -- the source of the append
  obtain ⟨a, ha, hsrc⟩ : ∃ a : Addr, (if cap = l.length + 1 then (some ⟨g, 0, none⟩ : Option Addr) else some ⟨g, (l.length + 1) * 2, none⟩) = some a ∧ Hid (∀ j u, (entVs r)[j]? = some u → w.drew.cell? (a.add j) = some u) := by
    by_cases hc : cap = l.length + 1
    · have h0 : r = [] := List.length_eq_zero_iff.1 (by omega)
      subst h0
      exact ⟨⟨g, 0, none⟩, by rw [if_pos hc], Lib.hid fun j u hj => by simp [entVs] at hj⟩
    · refine ⟨⟨g, (l.length + 1) * 2, none⟩, by rw [if_neg hc], Lib.hid fun j u hj => ?_⟩
      have h1 : (entVs (l ++ e :: r) ++ sp)[(l.length + 1) * 2 + j]? = some u := by
        have hjl : j < 2 * r.length := by have := (List.getElem?_eq_some_iff.1 hj).1; rwa [entVs_length] at this
        rw [List.getElem?_append_left (by rw [entVs_length, hlen]; omega), show l ++ e :: r = (l ++ [e]) ++ r by simp, entVs_append, List.getElem?_append_right (by rw [entVs_length]; simp; omega), entVs_length, ← hj]
        congr 1
        simp
        omega
      rw [addp, show w.drew.cell? _ = w.cell? _ from rfl, hO.cell]
      exact h1
  have HAP := fun ty => Lib.hid (run_append_in (i := l.length) (m := r.length) (c := cap - (l.length + 1)) hO.drew a (entVs r) (by rw [entVs_length]; omega) hsrc.out (entVs_one r) (by omega) hvl ty)
  rw [hW1] at HAP
  have HCL := fun ty => run_clear1 (off := (l.length + r.length) * 2) (c := cap - (l.length + r.length)) hO1 (by rw [List.length_append, hl2, hlr, hdl]; omega) ty
  rw [hW2] at HCL
  have hcapI : (l.length : Int) + r.length + 1 ≤ cap := by omega
  have hnI : (l.length : Int) + r.length ≤ 1000 := by omega
  have hne : ¬ (cap = l.length + r.length) := by omega
  have hq1 : ((l.length + r.length + 1 : Nat) : Int) = (l.length : Int) + r.length + 1 := by push_cast; rfl
  clear hO hO1 hO2 hW1 hW2 hdl hl2 hlr hvl hsp hlen
  generalize l.length = i at *
  generalize r.length = m at *
  go_enter Try.func67, Try.ntmps67
  have hs1 : i + m + 1 - (i + 1) = m := by omega
  have hs2 : i + m + 1 - (i + m) = 1 := by omega
  have n1 : i ≤ cap := by omega
  have n2 : i + 1 ≤ cap := by omega
  have n3 : i + m ≤ cap := by omega
  have n4 : i + m + 1 ≤ cap := by omega
  have n5 : (0 : Int) ≤ (i : Int) + 1 := by omega
  have n6 : (i : Int) ≤ (i : Int) + m := by omega
  go_wp2
  go_region_held3 (fun _ => True) (trivial)
    (first
      | (refine step_append_run (by rfl) _ _ 22 (by rfl) (.slice (some ⟨g, 0, none⟩) i cap) (.slice (some a) m (cap - (i + 1))) (by rfl) (by rfl) (HAP _).out ?_))
  go_wp2
  go_ret
  exact ⟨rfl, HO2.out, hk2⟩
end Go.Proofs.Ytbkcnhbdjllojaa
