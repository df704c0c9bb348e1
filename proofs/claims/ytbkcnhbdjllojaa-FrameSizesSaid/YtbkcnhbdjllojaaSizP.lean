/- Lengths of files; residuals of shifted rasters: plain laws. -/
import Derived.Test.YtbkcnhbdjllojaaLawEnc
import Derived.Test.YtbkcnhbdjllojaaLEq
namespace Go.Proofs.Ytbkcnhbdjllojaa
open Go.RowKit Go.Shelf

theorem codesB_len (k : Nat) : ∀ (l : List Int) (a : Int), (∀ x ∈ l, 0 ≤ x) → l.foldl (fun n v => n + codeLen k v) a = a + ((codesB k (l.map Int.toNat)).length : Int)
  | [], a, _ => by simp [codesB]
  | v :: l, a, h => by
    have ih := codesB_len k l (a + codeLen k v) fun x hx => h x (List.mem_cons_of_mem _ hx)
    have h0 := h v List.mem_cons_self
    have e : codesB k ((v :: l).map Int.toNat) = codeB k v.toNat ++ codesB k (l.map Int.toNat) := by simp [codesB]
    have ev : ((v.toNat / 2 ^ k : Nat) : Int) = v / 2 ^ k := by push_cast; rw [Int.toNat_of_nonneg h0]
    rw [List.foldl_cons, ih, e, List.length_append, codeB_length, codeLen]
    push_cast
    push_cast at ev
    omega
theorem codesB_len16 : ∀ (l : List Int), Grey 65535 l → (codesB 16 (l.map Int.toNat)).length = 17 * l.length
  | [], _ => by simp [codesB]
  | v :: l, h => by
    have ih := codesB_len16 l fun x hx => h x (List.mem_cons_of_mem _ hx)
    have h0 := h v List.mem_cons_self
    have e : codesB 16 ((v :: l).map Int.toNat) = codeB 16 v.toNat ++ codesB 16 (l.map Int.toNat) := by simp [codesB]
    have hd : v.toNat / 2 ^ 16 = 0 := Nat.div_eq_of_lt (by omega)
    rw [e, List.length_append, codeB_length, hd, ih, List.length_cons]
    omega
theorem rowN_16 {l : List Int} (h : Grey 65535 l) : (rowN l).length ≤ 1 + (17 * l.length + 7) / 8 := by
  have h0 : ∀ x ∈ l, 0 ≤ x := fun x hx => (h x hx).1
  have h1 := bestU_min l 17 16 (by omega)
  have e1 := codesB_len (bestI l) l 0 h0
  have e2 := codesB_len 16 l 0 h0
  have e3 := codesB_len16 l h
  have h2 : totI l (bestI l) ≤ totI l 16 := h1
  unfold totI at h2
  rw [e1, e2, e3] at h2
  rw [rowN, List.length_cons, pack_length]
  omega
theorem rowsB_16 {l : List Int} {W : Nat} (h : Grey 65535 l) : ∀ H, (rowsB l W H).length ≤ H * (1 + (17 * W + 7) / 8)
  | 0 => by simp [rowsB]
  | H + 1 => by
    have ih := rowsB_16 (W := W) h H
    have h1 := rowN_16 (rowOf_grey h W H)
    have h2 : (rowOf l W H).length ≤ W := by rw [rowOf, List.length_take]; omega
    rw [rowsB_succ, List.length_append, Nat.succ_mul]
    omega
theorem entB_length (e : Ent) : (entB e).length = e.1.size + e.2.size + 2 := by
  simp only [entB, List.length_append, bytesN_length, List.length_cons, List.length_nil]
  omega
theorem file_16 {W H m : Nat} {es : List Ent} {px : List Int} (hc : frmC es W H m px = 0) : (fileB es W H m px).length ≤ 20 + (es.flatMap entB).length + H * (1 + (17 * W + 7) / 8) := by
  obtain ⟨hras, -⟩ := frm_facts hc
  obtain ⟨-, -, hm1, -⟩ := rasC_0 hras
  have h2 := rowsB_16 (l := resI px W m) (W := W) (fun x hx => by have := resI_grey (px := px) (m := (m : Int)) (by omega) W x hx; omega) H
  have h4 : (headB es).length = 7 + (es.flatMap entB).length + 1 := by rw [headB, List.length_append, List.length_append]; rfl
  have h5 : (sizesB W H m).length = 12 := rfl
  rw [fileB, List.length_append, List.length_append, h4, h5]
  omega
/-- all pixels, with a number added -/
def shI (m a : Int) (px : List Int) : List Int := px.map fun p => (p + a) % (m + 1)
theorem shI_length (m a : Int) (px : List Int) : (shI m a px).length = px.length := by simp [shI]
theorem shI_get {m a : Int} {px : List Int} {j : Nat} (h : j < px.length) : (shI m a px).getD j 0 = (px.getD j 0 + a) % (m + 1) := by simp [shI, List.getD, h]
theorem shI_ras {W H m a : Int} {px : List Int} (h : rasC W H m px = 0) : rasC W H m (shI m a px) = 0 := by
  obtain ⟨h1, h2, h3, h4, -, -⟩ := rasC_0 h
  refine if_pos ⟨h1.1, h1.2, h2.1, h2.2, h3.1, h3.2, by rw [shI_length]; exact h4, fun x hx => ?_⟩
  obtain ⟨p, -, rfl⟩ := List.mem_map.1 hx
  have e1 := Int.emod_nonneg (p + a) (show m + 1 ≠ 0 by omega)
  have e2 := Int.emod_lt_of_pos (p + a) (show 0 < m + 1 by omega)
  omega
theorem pred_line {px : List Int} {W i : Nat} (hW : 1 ≤ W) (h1 : W = 1 ∨ px.length ≤ W) (hi : 1 ≤ i) (hl : i < px.length) : predI px W i = px.getD (i - 1) 0 := by
  rw [predI, if_neg (by omega)]
  rcases h1 with rfl | h1
  · rw [if_neg (by omega), if_pos (Nat.mod_one i)]
  · rw [if_pos (by omega)]
theorem res_shift {px : List Int} {W : Nat} {m a : Int} (hW : 1 ≤ W) (h1 : W = 1 ∨ px.length ≤ W) : (resI (shI m a px) W m).drop 1 = (resI px W m).drop 1 := by
  apply List.ext_getElem
  · simp [resI_length, shI_length]
  · intro j h2 h3
    have hj : 1 + j < px.length := by simp [resI_length] at h3; omega
    have hl := shI_length m a px
    simp only [List.getElem_drop, resI, List.getElem_map, List.getElem_range]
    rw [resAt, resAt, pred_line hW h1 (by omega) hj, pred_line hW (by rw [hl]; exact h1) (by omega) (by rw [hl]; exact hj), shI_get hj, shI_get (by omega)]
    congr 1
    rw [Int.add_emod_right, Int.add_emod_right, ← Int.sub_emod]
    congr 1
    omega
/-- the first k pixels are shifted -/
def midS (m a : Int) (px : List Int) (k : Nat) : List Int := (shI m a px).take k ++ px.drop k
theorem midS_length (m a : Int) (px : List Int) (k : Nat) (h : k ≤ px.length) : (midS m a px k).length = px.length := by
  simp [midS, shI_length]
  omega
theorem midS_zero (m a : Int) (px : List Int) : midS m a px 0 = px := by simp [midS]
theorem midS_all (m a : Int) (px : List Int) : midS m a px px.length = shI m a px := by
  rw [midS, List.drop_of_length_le (Nat.le_refl _), List.append_nil, List.take_of_length_le (by rw [shI_length]; exact Nat.le_refl _)]
theorem midS_get (m a : Int) (px : List Int) {k : Nat} (h : k < px.length) : (midS m a px k)[k]? = some (px.getD k 0) := by
  have hl : ((shI m a px).take k).length = k := by simp [shI_length]; omega
  rw [midS, List.getElem?_append_right (by omega), hl, Nat.sub_self, List.getElem?_drop]
  simp [List.getD, h]
theorem midS_set (m a : Int) (px : List Int) {k : Nat} (h : k < px.length) : (midS m a px k).set k ((px.getD k 0 + a) % (m + 1)) = midS m a px (k + 1) := by
  have hl : ((shI m a px).take k).length = k := by simp [shI_length]; omega
  have hk : k < (shI m a px).length := by rw [shI_length]; exact h
  rw [midS, midS, List.set_append_right _ _ (by omega), hl, Nat.sub_self, List.drop_eq_getElem_cons h, List.set_cons_zero, List.take_succ_eq_append_getElem hk, List.append_assoc]
  have e : (shI m a px)[k] = (px.getD k 0 + a) % (m + 1) := by simp [shI, List.getD, h]
  rw [e]
  rfl
theorem i64s_set (l : List Int) (k : Nat) (x : Int) : (i64s l).set k (.int .i64 x) = i64s (l.set k x) := by simp [i64s, List.map_set]
theorem i64s_get {l : List Int} {k : Nat} {x : Int} (h : l[k]? = some x) : (i64s l)[k]? = some (.int .i64 x) := by simp [i64s, h]
end Go.Proofs.Ytbkcnhbdjllojaa
