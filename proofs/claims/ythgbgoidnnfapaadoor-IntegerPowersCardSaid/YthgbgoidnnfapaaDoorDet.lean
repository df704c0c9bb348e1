/- A region that draws its order, whose operations yield known values and whose stores come in one order: the law, outside of a round and in one. No program in sight. -/
import Derived.Test.YthgbgoidnnfapaaDoorRound
namespace Go.Proofs.YthgbgoidnnfapaaDoor
open Go.RowKit Go.Shelf

section det
variable {P : Program} {ops : Array Oper} {Q : Exit → Act → World → Prop} {vals : Nat → Value} {a0 : Act} {W : (Nat → Bool) → World}

/-- what one operation does, where the operations of p are done -/
def StepDet (P : Program) (ops : Array Oper) (vals : Nat → Value) (a0 : Act) (W : (Nat → Bool) → World) (i : Nat) : Prop :=
  ∀ p : Nat → Bool, p i = false → (∀ j ∈ bindsOf ops i, p j = true) → (∀ j k, p j = true → k ∈ bindsOf ops j → p k = true) → ∀ K : Act → World → Prop,
    K ((fr ops vals a0 (depsOf ops ops.size i)).put (dstOf ops i) (vals i)) (W (fun j => j == i || p j)) → wpOp P ops (fun _ _ _ => False) i K (fr ops vals a0 (depsOf ops ops.size i)) (W p)

theorem det_any (hok : RegionOk ops ops.size) (hW : ∀ p q : Nat → Bool, (∀ j, j < ops.size → p j = q j) → W p = W q) (hstep : ∀ i, i < ops.size → StepDet P ops vals a0 W i)
    (hend : Q .normal (fr ops vals a0 (List.range ops.size)) (W (fun _ => true))) :
    ∀ (fuel : Nat) (l : List Nat) (listed : Array Bool), l.Nodup → (∀ j ∈ l, j < ops.size) → ops.size ≤ l.length + fuel → listed.size = ops.size →
      (∀ j, j < ops.size → (listed.getD j false = true ↔ j ∈ l)) → (∀ j ∈ l, ∀ k ∈ bindsOf ops j, k ∈ l) → wpAny P .any ops Q fuel listed (fr ops vals a0 l) (W (fun j => decide (j ∈ l))) := by
  have fin : ∀ l : List Nat, (∀ j ∈ l, j < ops.size) → (∀ j, j < ops.size → j ∈ l) → Q .normal (fr ops vals a0 l) (W (fun j => decide (j ∈ l))) := fun l hl hall => by
    have hfr : fr ops vals a0 l = fr ops vals a0 (List.range ops.size) := by
      have ht : (fr ops vals a0 l).tmps = (fr ops vals a0 (List.range ops.size)).tmps := Array.ext_getElem? fun t => fr_same
        (fun j k hj hk hdj hdk => hok.apart j k (hj.elim (hl j) List.mem_range.1) (hk.elim (hl k) List.mem_range.1) t hdj hdk) (fun j _ => ⟨fun h => List.mem_range.2 (hl j h), fun h => hall j (List.mem_range.1 h)⟩)
      exact act_ext ht (by rw [fr_defers, fr_defers])
    rw [hfr, hW _ (fun _ => true) (fun j hj => by simp [hall j hj])]
    exact hend
  intro fuel
  induction fuel with
  | zero =>
    intro l listed hn hl hf hsz hll hcl
    have hall : ∀ j, j < ops.size → j ∈ l := fun j hj => Classical.byContradiction fun hc => by
      have := nodup_len ops.size (j :: l) (List.nodup_cons.2 ⟨hc, hn⟩) (fun x hx => by rcases List.mem_cons.1 hx with rfl | h; exact hj; exact hl x h)
      simp at this
      omega
    refine ⟨?_, fin l hl hall⟩
    refine List.eq_nil_iff_forall_not_mem.2 fun j hj => ?_
    obtain ⟨h0, hlt, -⟩ := ready_iff.1 hj
    rw [getD_both (by omega), (hll j hlt).2 (hall j hlt)] at h0
    cases h0
  | succ fuel ih =>
    intro l listed hn hl hf hsz hll hcl
    refine ⟨fun e => ?_, fun i hi => ?_⟩
    · refine fin l hl fun j0 hj0 => Classical.byContradiction fun hjl0 => ?_
      obtain ⟨j, ⟨hj, hjl⟩, hmin⟩ := least (p := fun j => j < ops.size ∧ j ∉ l) ⟨j0, hj0, hjl0⟩
      have : j ∈ Region.ready .any ops listed := by
        refine ready_iff.2 ⟨?_, hj, fun k hk => ?_⟩
        · rw [getD_both (by omega)]
          cases hc : listed.getD j false with
          | false => rfl
          | true => exact absurd ((hll j hj).1 hc) hjl
        · have hkj := hok.back j k hk
          refine (hll k (by omega)).2 (Classical.byContradiction fun hkl => hmin k hkj ⟨by omega, hkl⟩)
      rw [e] at this
      cases this
    · obtain ⟨h0, hlt, hb⟩ := ready_iff.1 hi
      have hbl : ∀ j ∈ bindsOf ops i, j ∈ l := fun j hj => (hll j (by have := hok.back i j hj; omega)).1 (hb j hj)
      have hil : i ∉ l := fun h => by
        have := (hll i hlt).2 h
        rw [getD_both (by omega), this] at h0
        cases h0
      obtain ⟨o, ho, hsel⟩ := hok.noSel i hlt
      have hsel' : ∀ cs b, o.op ≠ .select cs b := fun cs b e => by simp [isSel, e] at hsel
      have heval : ∀ t, t ∈ o.looksAt ops → (fr ops vals a0 l).tmps[t]? = (fr ops vals a0 (depsOf ops ops.size i)).tmps[t]? := fun t ht => looks_fr hok hlt ho hl hbl ht
      have he : execOp (fr ops vals a0 l).eval o = execOp (fr ops vals a0 (depsOf ops ops.size i)).eval o := execOp_congr o hsel' fun x hx => by
        cases x with
        | tmp t =>
          have := heval t (List.mem_append_left _ (List.mem_filterMap.2 ⟨.tmp t, by simpa using hx, rfl⟩))
          simp only [Act.eval, Array.getD_eq_getD_getElem?, this]
        | _ => rfl
      have hw : Region.wanted o (yielded ops (fr ops vals a0 l).tmps) = Region.wanted o (yielded ops (fr ops vals a0 (depsOf ops ops.size i)).tmps) := by
        unfold Region.wanted
        cases hg : o.guard with
        | none => rfl
        | some gw =>
          obtain ⟨g, want⟩ := gw
          have : yielded ops (fr ops vals a0 l).tmps g = yielded ops (fr ops vals a0 (depsOf ops ops.size i)).tmps g := by
            unfold yielded
            cases ht : (ops[g]?).bind (·.dst) with
            | none => rfl
            | some t =>
              have := heval t (by simp [Oper.looksAt, hg, ht])
              simp only [Option.bind_some, this]
          simp only [this]
      have hdst : dstOf ops i = o.dst := by simp [dstOf, ho]
      have hs := hstep i hlt (fun j => decide (j ∈ l)) (by simpa using hil) (fun j hj => by simpa using hbl j hj) (fun j k hj hk => by simpa using hcl j (by simpa using hj) k hk)
      have hmove := wpOp_move (P := P) (Q := Q) (X := fun v w' => v = vals i ∧ w' = W (fun j => j == i || decide (j ∈ l))) ho he hw (by rw [fr_size, fr_size]) (fun K hK => hs K (hdst ▸ hK _ _ ⟨rfl, rfl⟩))
      refine wpOp_mono (fun a' w' hX => ?_) hmove
      obtain ⟨v, rfl, rfl, rfl⟩ := hX
      have hfr : (fr ops vals a0 l).put o.dst (vals i) = fr ops vals a0 (i :: l) := by rw [fr, hdst]
      rw [hfr, hW (fun j => j == i || decide (j ∈ l)) (fun j => decide (j ∈ i :: l)) (fun j _ => by by_cases e : j = i <;> simp [e])]
      refine ih (i :: l) _ (List.nodup_cons.2 ⟨hil, hn⟩) (fun j hj => ?_) (by simp only [List.length_cons]; omega) (by simpa using hsz) (fun j hj => ?_) (fun j hj k hk' => ?_)
      · rcases List.mem_cons.1 hj with rfl | h
        · exact hlt
        · exact hl j h
      · by_cases hji : j = i
        · subst hji
          simp [hsz, hlt]
        · rw [getD_set_ne false (Ne.symm hji), hll j hj]
          simp [hji]
      · rcases List.mem_cons.1 hj with rfl | h
        · exact List.mem_cons_of_mem _ (hbl k hk')
        · exact List.mem_cons_of_mem _ (hcl j h k hk')

/-- THE LAW, outside of a round -/
theorem wp_region_det {id : Nat} {w0 : World} (hm : P.follows .mixedOrders = true) (hok : regionOk ops ops.size = true) (vals : Nat → Value) (W : (Nat → Bool) → World) (h0 : W (fun _ => false) = w0.drew)
    (hW : ∀ p q : Nat → Bool, (∀ j, j < ops.size → p j = q j) → W p = W q) (hstep : ∀ i, i < ops.size → StepDet P ops vals a0 W i)
    (hend : Q .normal (fr ops vals a0 (List.range ops.size)) (W (fun _ => true))) : (Code.region id ops true).wp P Q a0 w0 := by
  refine wp_region_any hm ?_
  have := det_any (P := P) (Q := Q) (regionOk_spec hok) hW hstep hend ops.size [] (Array.replicate ops.size false) List.nodup_nil (fun _ h => by cases h) (by simp) (by simp) (fun j hj => by simp [hj]) (fun _ h => by cases h)
  rw [show W (fun j => decide (j ∈ [])) = w0.drew from by rw [← h0]; rfl] at this
  exact this
/-- THE LAW, in a round -/
theorem wpIn_region_det {id l n : Nat} {w0 : World} (hm : P.follows .mixedOrders = true) (hok : regionOk ops ops.size = true) (hnd : noDefer ops = true) (vals : Nat → Value) (W : (Nat → Bool) → World) (h0 : W (fun _ => false) = w0.drew)
    (hW : ∀ p q : Nat → Bool, (∀ j, j < ops.size → p j = q j) → W p = W q) (hstep : ∀ i, i < ops.size → StepDet P ops vals a0 W i)
    (hend : Q .normal (fr ops vals a0 (List.range ops.size)) (W (fun _ => true))) : (Code.region id ops true).wpIn (Fence.wide.inRound l) n P Q a0 w0 := by
  refine wpIn_region_any hm (wpAnyIn_of (noDefer_spec hnd) _ _ _ _ ?_)
  have := det_any (P := P) (Q := onlyN Q) (regionOk_spec hok) hW hstep hend ops.size [] (Array.replicate ops.size false) List.nodup_nil (fun _ h => by cases h) (by simp) (by simp) (fun j hj => by simp [hj]) (fun _ h => by cases h)
  rw [show W (fun j => decide (j ∈ [])) = w0.drew from by rw [← h0]; rfl] at this
  exact this
/-- one operation, from its run -/
theorem stepDet_at {i : Nat} {o : Oper} (ds : List (Nat × Option Tmp)) (d : Option Tmp) (hi : ops[i]? = some o) (hdd : dstOf ops i = d) (hg : o.guard = none) (hl : (depsOf ops ops.size i).map (fun j => (j, dstOf ops j)) = ds)
    (h : ∀ p : Nat → Bool, p i = false → (∀ j ∈ bindsOf ops i, p j = true) → (∀ j k, p j = true → k ∈ bindsOf ops j → p k = true) → ∀ K : Act → World → Prop,
      K ((frD vals a0 ds).put d (vals i)) (W (fun j => j == i || p j)) → Oper.wp P o (frD vals a0 ds) (W p) K (fun _ _ _ => False)) : StepDet P ops vals a0 W i := by
  intro p h1 h2 h3 K hK
  rw [fr_frD, hl, hdd] at hK
  rw [fr_frD, hl]
  unfold wpOp
  have hw : Region.wanted o (yielded ops (frD vals a0 ds).tmps) = true := by simp [Region.wanted, hg]
  simp only [hi, hw, if_true]
  exact .inl (h p h1 h2 h3 K hK)
end det
/-- the worlds of a region with two stores, a before b -/
def two (w0 w1 w2 : World) (a b : Nat) (p : Nat → Bool) : World := if p b = true then w2 else if p a = true then w1 else w0
section two
variable {w0 w1 w2 : World} {a b : Nat} {p : Nat → Bool}
theorem two_other {i : Nat} (h1 : i ≠ a) (h2 : i ≠ b) : two w0 w1 w2 a b (fun j => j == i || p j) = two w0 w1 w2 a b p := by
  simp [two, Ne.symm h1, Ne.symm h2]
theorem two_cong {n : Nat} (ha : a < n) (hb : b < n) (p q : Nat → Bool) (h : ∀ j, j < n → p j = q j) : two w0 w1 w2 a b p = two w0 w1 w2 a b q := by
  simp [two, h a ha, h b hb]
theorem two_a (hab : a ≠ b) (h1 : p a = false) (h2 : p b = false) : two w0 w1 w2 a b p = w0 ∧ two w0 w1 w2 a b (fun j => j == a || p j) = w1 := by
  simp [two, h1, h2, Ne.symm hab]
theorem two_b (h1 : p a = true) (h2 : p b = false) : two w0 w1 w2 a b p = w1 ∧ two w0 w1 w2 a b (fun j => j == b || p j) = w2 := by
  simp [two, h1, h2]
theorem two_all {X : World → Prop} (h0 : X w0) (h1 : X w1) (h2 : X w2) (p : Nat → Bool) : X (two w0 w1 w2 a b p) := by
  unfold two; split
  · exact h2
  · split
    · exact h1
    · exact h0
end two
/-- the worlds of a region with one store -/
def one (w0 w1 : World) (a : Nat) (p : Nat → Bool) : World := if p a = true then w1 else w0
section one
variable {w0 w1 : World} {a : Nat} {p : Nat → Bool}
theorem one_other {i : Nat} (h1 : i ≠ a) : one w0 w1 a (fun j => j == i || p j) = one w0 w1 a p := by
  simp [one, Ne.symm h1]
theorem one_cong {n : Nat} (ha : a < n) (p q : Nat → Bool) (h : ∀ j, j < n → p j = q j) : one w0 w1 a p = one w0 w1 a q := by
  simp [one, h a ha]
theorem one_a (h1 : p a = false) : one w0 w1 a p = w0 ∧ one w0 w1 a (fun j => j == a || p j) = w1 := by
  simp [one, h1]
theorem one_all {X : World → Prop} (h0 : X w0) (h1 : X w1) (p : Nat → Bool) : X (one w0 w1 a p) := by
  unfold one; split
  · exact h1
  · exact h0
end one
end Go.Proofs.YthgbgoidnnfapaaDoor
