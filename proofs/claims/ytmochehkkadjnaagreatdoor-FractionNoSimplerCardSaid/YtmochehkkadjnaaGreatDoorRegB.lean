/- The law of a region by predicates (XRegion), where the waits hang together over more than five steps. No program in sight. -/
import Derived.Test.YtmochehkkadjnaaGreatDoorStab2
namespace Go.Proofs.YtmochehkkadjnaaGreatDoor
open Go.RowKit

def regionOkB (ops : Array Oper) (m : Nat) : Bool :=
  ((List.range m).all fun j => (List.range m).all fun k => j == k || dstOf ops j == none || dstOf ops j != dstOf ops k) &&
  ((List.range m).all fun i => (List.range m).all fun j => match ops[i]?, dstOf ops j with | some o, some d => !(o.looksAt ops).contains d || (bindsOf ops i).contains j | _, _ => true) &&
  ((List.range m).all fun i => match ops[i]? with | some o => !isSel o | none => false) &&
  ((List.range ops.size).all fun i => (bindsOf ops i).all fun j => decide (j < i)) &&
  ((List.range ops.size).all fun k => decide (k < m) || (List.range k).all fun j => (reachOf ops 12 k).contains j)
section phi
variable {P : Program} {ops : Array Oper} {Q : Exit → Act → World → Prop} {vs : Nat → Value} {a : Act}

structure RegionOkB (ops : Array Oper) (m : Nat) : Prop where
  apart : ∀ j k, j < m → k < m → ∀ d, dstOf ops j = some d → dstOf ops k = some d → j = k
  reads : ∀ i j, i < m → j < m → ∀ o d, ops[i]? = some o → dstOf ops j = some d → d ∈ o.looksAt ops → j ∈ bindsOf ops i
  noSel : ∀ i, i < m → ∃ o, ops[i]? = some o ∧ isSel o = false
  back : ∀ i j, j ∈ bindsOf ops i → j < i
  tail : ∀ k, k < ops.size → m ≤ k → ∀ j, j < k → j ∈ reachOf ops 12 k
theorem regionOk_specB {m : Nat} (h : regionOkB ops m = true) : RegionOkB ops m := by
  simp only [regionOkB, Bool.and_eq_true, List.all_eq_true, List.mem_range] at h
  obtain ⟨⟨⟨⟨h1, h2⟩, h3⟩, h4⟩, h5⟩ := h
  refine ⟨fun j k hj hk d hdj hdk => ?_, fun i j hi hj o d ho hd hl => ?_, fun i hi => ?_, fun i j hj => ?_, fun k hk hmk j hj => ?_⟩
  · have := h1 j hj k hk
    simpa [hdj, hdk] using this
  · have := h2 i hi j hj
    simpa [ho, hd, hl] using this
  · have := h3 i hi
    cases ho : ops[i]? with
    | none => simp [ho] at this
    | some o => exact ⟨o, rfl, by simpa [ho] using this⟩
  · by_cases hi : i < ops.size
    · have := h4 i hi j hj
      simpa using this
    · rw [bindsOf_out hi] at hj; cases hj
  · have := h5 k hk
    simp only [Bool.or_eq_true, decide_eq_true_eq, List.all_eq_true, List.mem_range] at this
    rcases this with h | h
    · omega
    · simpa using h j hj

theorem tail_anyB {m : Nat} (hok : RegionOkB ops m) : ∀ (fuel k : Nat) (listed : Array Bool) (a : Act) (w : World), m ≤ k → ops.size ≤ k + fuel → k ≤ ops.size → listed.size = ops.size →
    (∀ j, j < ops.size → (listed.getD j false = true ↔ j < k)) → wpList P ops Q (ops.toList.drop k) a w → wpAny P .any ops Q fuel listed a w := by
  intro fuel
  induction fuel with
  | zero =>
    intro k listed a w hmk hf hks hsz hl h
    have hk : k = ops.size := by omega
    refine ⟨?_, ?_⟩
    · apply List.eq_nil_iff_forall_not_mem.2
      intro j hj
      obtain ⟨h0, hlt, -⟩ := ready_iff.1 hj
      rw [getD_both (by omega)] at h0
      have := (hl j hlt).2 (by omega)
      rw [h0] at this; cases this
    · rw [hk, List.drop_of_length_le (by simp)] at h
      exact h
  | succ fuel ih =>
    intro k listed a w hmk hf hks hsz hl h
    by_cases hk : k = ops.size
    · refine wpAny_done (List.eq_nil_iff_forall_not_mem.2 fun j hj => ?_) ?_ _
      · obtain ⟨h0, hlt, -⟩ := ready_iff.1 hj
        rw [getD_both (by omega)] at h0
        have := (hl j hlt).2 (by omega)
        rw [h0] at this; cases this
      · rw [hk, List.drop_of_length_le (by simp)] at h
        exact h
    have hk : k < ops.size := by omega
    have hkr : k ∈ Region.ready .any ops listed := by
      refine ready_iff.2 ⟨?_, hk, fun j hj => (hl j (Nat.lt_trans (hok.back k j hj) hk)).2 (hok.back k j hj)⟩
      rw [getD_both (by omega)]
      cases hc : listed.getD k false with
      | false => rfl
      | true => exact absurd ((hl k hk).1 hc) (by omega)
    refine ⟨fun e => (by rw [e] at hkr; cases hkr), fun i hi => ?_⟩
    obtain ⟨h0, hlt, hb⟩ := ready_iff.1 hi
    rw [getD_both (by omega)] at h0
    have hge : k ≤ i := Nat.le_of_not_lt fun hik => by
      have := (hl i hlt).2 hik
      rw [h0] at this; cases this
    have hle : i ≤ k := Nat.le_of_not_lt fun hki => by
      have hkin := hok.tail i hlt (by omega) k hki
      have hc := reach_closed (ops := ops) (S := (· < k)) (fun j hj k' hk' => Nat.lt_trans (hok.back j k' hk') hj) 12 i (fun j hj => (hl j (Nat.lt_trans (hok.back i j hj) hlt)).1 (hb j hj)) k hkin
      exact absurd hc (Nat.lt_irrefl k)
    obtain rfl : i = k := by omega
    have hd : ops.toList.drop i = ops[i] :: ops.toList.drop (i + 1) := by
      rw [List.drop_eq_getElem_cons (by simpa using hk)]; simp
    rw [hd] at h
    unfold wpOp
    simp only [hk, Array.getElem?_eq_getElem]
    have next : ∀ a w, wpList P ops Q (ops.toList.drop (i + 1)) a w → wpAny P .any ops Q fuel (listed.setIfInBounds i true) a w := fun a w h' => by
      refine ih (i + 1) _ a w (by omega) (by omega) (by omega) (by simpa using hsz) (fun j hj => ?_) h'
      by_cases hji : j = i
      · subst hji
        simp [hsz, hk]
      · rw [getD_set_ne false (Ne.symm hji), hl j hj]
        omega
    unfold wpList at h
    split
    · rename_i hw
      simp only [hw, if_true] at h
      exact h.imp (Oper.wp_mono next) id
    · rename_i hw
      simp only [hw] at h
      exact next _ _ h

/-- what one operation of the head hands on -/

theorem looks_frB {m i : Nat} {o : Oper} {l : List Nat} (hok : RegionOkB ops m) (hi : i < m) (ho : ops[i]? = some o) (hl : ∀ j ∈ l, j < m) (hb : ∀ j ∈ bindsOf ops i, j ∈ l) {t : Tmp} (ht : t ∈ o.looksAt ops) :
    (fr ops vs a l).tmps[t]? = (fr ops vs a (depsOf ops m i)).tmps[t]? := by
  have hdm : ∀ j ∈ depsOf ops m i, j < m ∧ j ∈ bindsOf ops i := fun j hj => by
    simp only [depsOf, List.mem_filter, List.mem_range, List.contains_iff_mem] at hj
    exact hj
  refine fr_same (fun j k hj hk hdj hdk => hok.apart j k (hj.elim (hl j) fun h => (hdm j h).1) (hk.elim (hl k) fun h => (hdm k h).1) t hdj hdk) fun j hdj => ⟨fun hj => ?_, fun hj => hb j (hdm j hj).2⟩
  have := hok.reads i j hi (hl j hj) o t ho hdj ht
  simp only [depsOf, List.mem_filter, List.mem_range, List.contains_iff_mem]
  exact ⟨hl j hj, this⟩

theorem head_anyB {m : Nat} (hok : RegionOkB ops m) (Φ : Nat → Value → World → Prop) (own : List Nat) (w0 : World) (a0 : Act)
    (hΦ : ∀ i v w w', i < m → Φ i v w → Keeps w w' → Φ i v w')
    (hstep : ∀ i, i < m → ∀ vs w, Keeps w0 w → (∀ j ∈ depsOf ops m i, Φ j (vs j) w) → ∀ K : Act → World → Prop,
      (∀ v w', Hands Φ own i w v w' → K ((fr ops vs a0 (depsOf ops m i)).put (dstOf ops i) v) w') → wpOp P ops (fun _ _ _ => False) i K (fr ops vs a0 (depsOf ops m i)) w)
    (htail : ∀ vs w, Keeps w0 w → (∀ i, i < m → Φ i (vs i) w) → (∀ i j, i < m → j < m → i ∈ own → j ∈ own → i ≠ j → vs i ≠ vs j) → wpList P ops Q (ops.toList.drop m) (fr ops vs a0 (List.range m)) w) :
    ∀ (fuel : Nat) (l : List Nat) (vs : Nat → Value) (listed : Array Bool) (w : World), l.Nodup → (∀ j ∈ l, j < m) → ops.size ≤ l.length + fuel → listed.size = ops.size →
      (∀ j, j < ops.size → (listed.getD j false = true ↔ j ∈ l)) → (∀ j ∈ l, ∀ k ∈ bindsOf ops j, k ∈ l) → Keeps w0 w → (∀ j ∈ l, Φ j (vs j) w) →
      (∀ j ∈ l, j ∈ own → ∃ b, vs j = .pointer (some ⟨b, 0, none⟩) ∧ b < w.heap.size) → (∀ i ∈ l, ∀ j ∈ l, i ∈ own → j ∈ own → i ≠ j → vs i ≠ vs j) →
      wpAny P .any ops Q fuel listed (fr ops vs a0 l) w := by
  have hms : m ≤ ops.size := by
    rcases Nat.eq_zero_or_pos m with h | h
    · omega
    · obtain ⟨o, ho, -⟩ := hok.noSel (m - 1) (by omega)
      have := (Array.getElem?_eq_some_iff.1 ho).1
      omega
  intro fuel
  induction fuel with
  | zero =>
    intro l vs listed w hn hl hf hsz hll hcl hk hΦl ho1 ho2
    refine (?_ : wpAny P .any ops Q 0 listed _ w)
    have hlen := nodup_len m l hn hl
    have hall : ∀ j, j < m → j ∈ l := fun j hj => Classical.byContradiction fun hc => by
      have := nodup_len m (j :: l) (List.nodup_cons.2 ⟨hc, hn⟩) (fun x hx => by rcases List.mem_cons.1 hx with rfl | h; exact hj; exact hl x h)
      simp at this
      omega
    have hfr : fr ops vs a0 l = fr ops vs a0 (List.range m) := by
      have ht : (fr ops vs a0 l).tmps = (fr ops vs a0 (List.range m)).tmps := Array.ext_getElem? fun t => fr_same
        (fun j k hj hk hdj hdk => hok.apart j k (hj.elim (hl j) List.mem_range.1) (hk.elim (hl k) List.mem_range.1) t hdj hdk) (fun j _ => ⟨fun h => List.mem_range.2 (hl j h), fun h => hall j (List.mem_range.1 h)⟩)
      have hd : (fr ops vs a0 l).defers = (fr ops vs a0 (List.range m)).defers := by rw [fr_defers, fr_defers]
      exact act_ext ht hd
    rw [hfr]
    refine tail_anyB hok 0 m listed _ w (Nat.le_refl _) (by omega) hms hsz (fun j hj => ?_) (htail vs w hk (fun i hi => hΦl i (hall i hi)) (fun i j hi hj => ho2 i (hall i hi) j (hall j hj)))
    rw [hll j hj]
    exact ⟨hl j, hall j⟩
  | succ fuel ih =>
    intro l vs listed w hn hl hf hsz hll hcl hk hΦl ho1 ho2
    by_cases hall : ∀ j, j < m → j ∈ l
    · have hfr : fr ops vs a0 l = fr ops vs a0 (List.range m) := by
        have ht : (fr ops vs a0 l).tmps = (fr ops vs a0 (List.range m)).tmps := Array.ext_getElem? fun t => fr_same
          (fun j k hj hk hdj hdk => hok.apart j k (hj.elim (hl j) List.mem_range.1) (hk.elim (hl k) List.mem_range.1) t hdj hdk) (fun j _ => ⟨fun h => List.mem_range.2 (hl j h), fun h => hall j (List.mem_range.1 h)⟩)
        have hd : (fr ops vs a0 l).defers = (fr ops vs a0 (List.range m)).defers := by rw [fr_defers, fr_defers]
        exact act_ext ht hd
      have hlen := nodup_len m l hn hl
      rw [hfr]
      refine tail_anyB hok (fuel + 1) m listed _ w (Nat.le_refl _) (by omega) hms hsz (fun j hj => ?_) (htail vs w hk (fun i hi => hΦl i (hall i hi)) (fun i j hi hj => ho2 i (hall i hi) j (hall j hj)))
      rw [hll j hj]
      exact ⟨hl j, hall j⟩
    · refine ⟨fun e => ?_, fun i hi => ?_⟩
      · exfalso
        obtain ⟨j, ⟨hj, hjl⟩, hmin⟩ := least (p := fun j => j < ops.size ∧ j ∉ l) (Classical.byContradiction fun hc => hall fun j hj => Classical.byContradiction fun hjl => hc ⟨j, by omega, hjl⟩)
        have : j ∈ Region.ready .any ops listed := by
          refine ready_iff.2 ⟨?_, hj, fun k hk => ?_⟩
          · rw [getD_both (by omega)]
            cases hc : listed.getD j false with
            | false => rfl
            | true => exact absurd ((hll j hj).1 hc) hjl
          · have hkj := hok.back j k hk
            refine (hll k (by omega)).2 (Classical.byContradiction fun hkl => hmin k hkj ⟨by omega, hkl⟩)
        rw [e] at this
        cases this
      · obtain ⟨h0, hlt, hb⟩ := ready_iff.1 hi
        have hbl : ∀ j ∈ bindsOf ops i, j ∈ l := fun j hj => (hll j (by have := hok.back i j hj; omega)).1 (hb j hj)
        have him : i < m := Nat.lt_of_not_le fun hmi => hall fun j hj => by
          have := reach_closed (ops := ops) (S := (· ∈ l)) hcl 12 i hbl j (hok.tail i hlt hmi j (by omega))
          exact this
        have hil : i ∉ l := fun h => by
          have := (hll i hlt).2 h
          rw [getD_both (by omega), this] at h0
          cases h0
        obtain ⟨o, ho, hsel⟩ := hok.noSel i him
        have hsel' : ∀ cs b, o.op ≠ .select cs b := fun cs b e => by simp [isSel, e] at hsel
        have heval : ∀ t, t ∈ o.looksAt ops → (fr ops vs a0 l).tmps[t]? = (fr ops vs a0 (depsOf ops m i)).tmps[t]? := fun t ht => looks_frB hok him ho hl hbl ht
        have he : execOp (fr ops vs a0 l).eval o = execOp (fr ops vs a0 (depsOf ops m i)).eval o := execOp_congr o hsel' fun x hx => by
          cases x with
          | tmp t =>
            have := heval t (List.mem_append_left _ (List.mem_filterMap.2 ⟨.tmp t, by simpa using hx, rfl⟩))
            simp only [Act.eval, Array.getD_eq_getD_getElem?, this]
          | _ => rfl
        have hw : Region.wanted o (yielded ops (fr ops vs a0 l).tmps) = Region.wanted o (yielded ops (fr ops vs a0 (depsOf ops m i)).tmps) := by
          unfold Region.wanted
          cases hg : o.guard with
          | none => rfl
          | some gw =>
            obtain ⟨g, want⟩ := gw
            have : yielded ops (fr ops vs a0 l).tmps g = yielded ops (fr ops vs a0 (depsOf ops m i)).tmps g := by
              unfold yielded
              cases ht : (ops[g]?).bind (·.dst) with
              | none => rfl
              | some t =>
                have := heval t (by simp [Oper.looksAt, hg, ht])
                simp only [Option.bind_some, this]
            simp only [this]
        have hdst : dstOf ops i = o.dst := by simp [dstOf, ho]
        have hdeps : ∀ j ∈ depsOf ops m i, j ∈ l := fun j hj => by
          simp only [depsOf, List.mem_filter, List.mem_range, List.contains_iff_mem] at hj
          exact hbl j hj.2
        have hmove := wpOp_move (P := P) (Q := Q) (X := Hands Φ own i w) ho he hw (by rw [fr_size, fr_size]) (hdst ▸ hstep i him vs w hk fun j hj => hΦl j (hdeps j hj))
        refine wpOp_mono (fun a' w' hX => ?_) hmove
        obtain ⟨v, rfl, hkw, hv, hown⟩ := hX
        have hfr : (fr ops vs a0 l).put o.dst v = fr ops (fun j => if j = i then v else vs j) a0 (i :: l) := by
          rw [fr, hdst, fr_ext (us := fun j => if j = i then v else vs j) (vs := vs) l (fun j hj => by simp [show j ≠ i from fun e => hil (e ▸ hj)])]
          simp
        have hsize : w.heap.size ≤ w'.heap.size := hkw.size
        rw [hfr]
        refine ih (i :: l) _ _ w' (List.nodup_cons.2 ⟨hil, hn⟩) (fun j hj => ?_) (by simp only [List.length_cons]; omega) (by simpa using hsz) (fun j hj => ?_) (fun j hj k hk' => ?_) (hk.trans' hkw) (fun j hj => ?_) (fun j hj hjo => ?_) (fun j hj k hk' hjo hko hne => ?_)
        · rcases List.mem_cons.1 hj with rfl | h
          · exact him
          · exact hl j h
        · by_cases hji : j = i
          · subst hji
            simp [hsz, hlt]
          · rw [getD_set_ne false (Ne.symm hji), hll j hj]
            simp [hji]
        · rcases List.mem_cons.1 hj with rfl | h
          · exact List.mem_cons_of_mem _ (hbl k hk')
          · exact List.mem_cons_of_mem _ (hcl j h k hk')
        · by_cases hji : j = i
          · subst hji
            simpa using hv
          · have hjl : j ∈ l := (List.mem_cons.1 hj).resolve_left hji
            simp only [hji, if_false]
            exact hΦ j _ w w' (hl j hjl) (hΦl j hjl) hkw
        · by_cases hji : j = i
          · subst hji
            simp only [if_true]
            exact ⟨_, (hown hjo).1, (hown hjo).2⟩
          · have hjl : j ∈ l := (List.mem_cons.1 hj).resolve_left hji
            simp only [hji, if_false]
            obtain ⟨b, hb, hlt⟩ := ho1 j hjl hjo
            exact ⟨b, hb, by omega⟩
        · by_cases hji : j = i
          · subst hji
            have hkj : k ≠ j := fun e => hne e.symm
            have hkl : k ∈ l := (List.mem_cons.1 hk').resolve_left hkj
            simp only [if_true, hkj, if_false]
            obtain ⟨b, hb, hlt⟩ := ho1 k hkl hko
            rw [(hown hjo).1, hb]
            intro e
            simp only [Value.pointer.injEq, Option.some.injEq, Addr.mk.injEq] at e
            omega
          · have hjl : j ∈ l := (List.mem_cons.1 hj).resolve_left hji
            by_cases hki : k = i
            · subst hki
              simp only [if_true, hji, if_false]
              obtain ⟨b, hb, hlt⟩ := ho1 j hjl hjo
              rw [(hown hko).1, hb]
              intro e
              simp only [Value.pointer.injEq, Option.some.injEq, Addr.mk.injEq] at e
              omega
            · have hkl : k ∈ l := (List.mem_cons.1 hk').resolve_left hki
              simp only [hji, hki, if_false]
              exact ho2 j hjl k hkl hjo hko hne

/-- THE LAW -/
theorem wp_region_phiB {id m : Nat} {a0 : Act} {w0 : World} (hm : P.follows .mixedOrders = true) (hok : regionOkB ops m = true) (Φ : Nat → Value → World → Prop) (own : List Nat)
    (hΦ : ∀ i v w w', i < m → Φ i v w → Keeps w w' → Φ i v w')
    (hstep : ∀ i, i < m → ∀ vs w, Keeps w0.drew w → (∀ j ∈ depsOf ops m i, Φ j (vs j) w) → ∀ K : Act → World → Prop,
      (∀ v w', Hands Φ own i w v w' → K ((fr ops vs a0 (depsOf ops m i)).put (dstOf ops i) v) w') → wpOp P ops (fun _ _ _ => False) i K (fr ops vs a0 (depsOf ops m i)) w)
    (htail : ∀ vs w, Keeps w0.drew w → (∀ i, i < m → Φ i (vs i) w) → (∀ i j, i < m → j < m → i ∈ own → j ∈ own → i ≠ j → vs i ≠ vs j) → wpList P ops Q (ops.toList.drop m) (fr ops vs a0 (List.range m)) w) :
    (Code.region id ops true).wp P Q a0 w0 := by
  refine wp_region_any hm ?_
  exact head_anyB (regionOk_specB hok) Φ own w0.drew a0 hΦ hstep htail ops.size [] (fun _ => undef) _ _ List.nodup_nil (fun _ h => by cases h) (by simp) (by simp)
    (fun j hj => by simp [hj]) (fun _ h => by cases h) (RowKit.Below.refl _ _) (fun _ h => by cases h) (fun _ h => by cases h) (fun _ h => by cases h)

theorem wp_region_stepsB {id m : Nat} {w0 : World} (hm : P.follows .mixedOrders = true) (hok : regionOkB ops m = true) (Φ : Nat → Value → World → Prop) (own : List Nat)
    (hΦ : ∀ i v w w', i < m → Φ i v w → Keeps w w' → Φ i v w')
    (hstep : ∀ i, i < m → ∀ vs w, Keeps w0.drew w → (∀ j ∈ depsOf ops m i, Φ j (vs j) w) → Step P ops Φ own m i vs a w)
    (htail : ∀ vs w, Keeps w0.drew w → (∀ i, i < m → Φ i (vs i) w) → (∀ i j, i < m → j < m → i ∈ own → j ∈ own → i ≠ j → vs i ≠ vs j) → wpList P ops Q (ops.toList.drop m) (fr ops vs a (List.range m)) w) :
    (Code.region id ops true).wp P Q a w0 :=
  wp_region_phiB hm hok Φ own hΦ (fun i hi vs w hk hd => (hstep i hi vs w hk hd).go) htail
end phi
end Go.Proofs.YtmochehkkadjnaaGreatDoor
