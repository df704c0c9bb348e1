/- slices.SortFunc of three fractions: the walk. A law for a region that draws its order, with one late operation: it reads no memory and nobody waits for it. No program in sight. The simplest fraction of an interval: its definition by fuel, and that no other one of the interval is simpler. No program in sight. -/
import Derived.Test.YtecibfncnaccjaaGreatPo31
import Derived.Test.YtecibfncnaccjaaGreatPo12
import Derived.Test.YtecibfncnaccjaaGreatPo13
namespace Go.Proofs.YtecibfncnaccjaaGreat
open Go.RowKit Go.Shelf
set_option maxRecDepth 100000 in
set_option maxHeartbeats 1000000 in
theorem pdq_3 {w : World} {g c : Nat} {l : List Rn} {k : Int} (hr : RowQ w g l) (hn : l.length = 3) :
 Calls Tryz.prog 128 #[.slice (some ⟨g, 0, none⟩) 3 c, .int .i64 0, .int .i64 3, .int .i64 k, .func (.func 107) #[] #[]] w fun e w' => e = .returned (.tuple #[]) ∧ RowQ w' g (srtQ 3 l) ∧ Same32 w w' ∧ Turn [g] w w' := by
 have HI : Hid (Calls Tryz.prog 143 #[.slice (some ⟨g, 0, none⟩) 3 c, .int .i64 0, .int .i64 3, .func (.func 107) #[] #[]] w fun e w' => e = .returned (.tuple #[]) ∧ RowQ w' g (srtQ 3 l) ∧ Same32 w w' ∧ Turn [g] w w') := Lib.hid (qins_any (n := 3) (c := c) (m := 3) hr hn.symm (by omega) (by omega))
 clear hr hn
 go_enter Tryz.func128, Tryz.ntmps128
 go_wp2
 go_loopw [1, 2] (fun V1 V2 wr => V1 = .int .i64 0 ∧ V2 = .int .i64 3 ∧ wr = w) (fun _ _ _ => 0)
 case atStart => exact ⟨rfl, rfl, rfl⟩
 case round =>
  obtain ⟨rfl, rfl, rfl⟩ := hrel
  go_wp2_with fail
  refine HI.out.mono ?_
  rintro e w1 ⟨rfl, h⟩
  go_wp2
  refine bodyPost_ret (results_none rfl _ _ _) rfl ?_
  exact ⟨rfl, h⟩
set_option maxRecDepth 100000 in
set_option maxHeartbeats 1000000 in
theorem sortF_3 {w : World} {g c : Nat} {l : List Rn} (hr : RowQ w g l) (hn : l.length = 3) :
 Calls Tryz.prog 106 #[.slice (some ⟨g, 0, none⟩) 3 c, .func (.func 107) #[] #[]] w fun e w' => e = .returned (.tuple #[]) ∧ RowQ w' g (srtQ 3 l) ∧ Same32 w w' ∧ Turn [g] w w' := by
 have HL := Lib.hid (Tryz.bits_Len 3 w (by omega) (by omega))
 have HP := Lib.hid (fun k => pdq_3 (c := c) (k := k) hr hn)
 clear hr hn
 go_enter Tryz.func106, Tryz.ntmps106
 go_wp2_with fail
 refine HL.out.mono ?_
 rintro e w1 ⟨rfl, rfl⟩
 go_wp2_with fail
 refine (HP.out _).mono ?_
 rintro e w2 ⟨rfl, h⟩
 go_wp2
 refine bodyPost_end (results_none rfl _ _ _) rfl ?_
 exact ⟨rfl, h⟩
end Go.Proofs.YtecibfncnaccjaaGreat
namespace Go.Proofs.YtecibfncnaccjaaGreat
open Go.RowKit

structure LateOk (ops : Array Oper) (m d e : Nat) : Prop where
 apart : ∀ j k, j < m → k < m → ∀ d, dstOf ops j = some d → dstOf ops k = some d → j = k
 reads : ∀ i j, i < m → j < m → ∀ o d, ops[i]? = some o → dstOf ops j = some d → d ∈ o.looksAt ops → j ∈ bindsOf ops i
 noSel : ∀ i, i < ops.size → ∃ o, ops[i]? = some o ∧ isSel o = false
 back : ∀ i j, j ∈ bindsOf ops i → j < i
 dm : d < m
 ms : m ≤ ops.size
 me : m ≤ e
 es : e ≤ ops.size
 tail : ∀ k, k < ops.size → m ≤ k → ∀ j, j < k → j ≠ d → j ∈ reachOf ops 5 k
 free : ∀ i, i < e → d ∉ bindsOf ops i
 still : ∀ k, m ≤ k → k < e → dstOf ops k = none
 wait : ∀ k, e ≤ k → k < ops.size → d ∈ reachOf ops 5 k
 blind : ∀ k o t, m ≤ k → k < e → ops[k]? = some o → dstOf ops d = some t → t ∉ o.looksAt ops

section
variable {P : Program} {ops : Array Oper} {Q : Exit → Act → World → Prop} {vs : Nat → Value} {a : Act}
theorem tail_done {m d e : Nat} (hok : LateOk ops m d e) : ∀ (fuel k : Nat) (listed : Array Bool) (a : Act) (w : World), m ≤ k → ops.size ≤ k + fuel → k ≤ ops.size → listed.size = ops.size →
 (∀ j, j < ops.size → (listed.getD j false = true ↔ j < k)) → wpList P ops Q (ops.toList.drop k) a w → wpAny P .any ops Q fuel listed a w := by
 intro fuel
 induction fuel with
 | zero =>
  intro k listed a w hmk hf hks hsz hl h
  have hk : k = ops.size := by omega
  refine ⟨?_, ?_⟩
  ·apply List.eq_nil_iff_forall_not_mem.2
   intro j hj
   obtain ⟨h0, hlt, -⟩ := ready_iff.1 hj
   rw [getD_both (by omega)] at h0
   have := (hl j hlt).2 (by omega)
   rw [h0] at this; cases this
  ·rw [hk, List.drop_of_length_le (by simp)] at h
   exact h
 | succ fuel ih =>
  intro k listed a w hmk hf hks hsz hl h
  by_cases hk : k = ops.size
  ·refine wpAny_done (List.eq_nil_iff_forall_not_mem.2 fun j hj => ?_) ?_ _
   ·obtain ⟨h0, hlt, -⟩ := ready_iff.1 hj
    rw [getD_both (by omega)] at h0
    have := (hl j hlt).2 (by omega)
    rw [h0] at this; cases this
   ·rw [hk, List.drop_of_length_le (by simp)] at h
    exact h
  have hk : k < ops.size := by omega
  have hkr : k ∈ Region.ready .any ops listed := by
   refine ready_iff.2 ⟨?_, hk, fun j hj => (hl j (Nat.lt_trans (hok.back k j hj) hk)).2 (hok.back k j hj)⟩
   rw [getD_both (by omega)]
   cases hc : listed.getD k false with
   | false => rfl
   | true => exact absurd ((hl k hk).1 hc) (by omega)
  refine ⟨fun e => (by rw [e] at hkr; cases hkr), fun i hi => ?_⟩
  obtain ⟨h0, hlt, hb⟩ := ready_iff.1 hi
  rw [getD_both (by omega)] at h0
  have hge : k ≤ i := Nat.le_of_not_lt fun hik => by
   have := (hl i hlt).2 hik
   rw [h0] at this; cases this
  have hle : i ≤ k := Nat.le_of_not_lt fun hki => by
   have hkin := hok.tail i hlt (by omega) k hki (by have := hok.dm; omega)
   have hc := reach_closed (ops := ops) (S := (· < k)) (fun j hj k' hk' => Nat.lt_trans (hok.back j k' hk') hj) 5 i (fun j hj => (hl j (Nat.lt_trans (hok.back i j hj) hlt)).1 (hb j hj)) k hkin
   exact absurd hc (Nat.lt_irrefl k)
  obtain rfl : i = k := by omega
  have hd : ops.toList.drop i = ops[i] :: ops.toList.drop (i + 1) := by
   rw [List.drop_eq_getElem_cons (by simpa using hk)]; simp
  rw [hd] at h
  unfold wpOp
  simp only [hk, Array.getElem?_eq_getElem]
  have next : ∀ a w, wpList P ops Q (ops.toList.drop (i + 1)) a w → wpAny P .any ops Q fuel (listed.setIfInBounds i true) a w := fun a w h' => by
   refine ih (i + 1) _ a w (by omega) (by omega) (by omega) (by simpa using hsz) (fun j hj => ?_) h'
   by_cases hji : j = i
   ·subst hji
    simp [hsz, hk]
   ·rw [getD_set_ne false (Ne.symm hji), hl j hj]
    omega
  unfold wpList at h
  split
  ·rename_i hw
   simp only [hw, if_true] at h
   exact h.imp (Oper.wp_mono next) id
  ·rename_i hw
   simp only [hw] at h
   exact next _ _ h


theorem wpOp_blind {i : Nat} {o : Oper} {t : Option Tmp} {v : Value} {f : Act} {w : World} {K : Act → World → Prop} (hi : ops[i]? = some o) (hs : isSel o = false) (hdst : o.dst = none)
 (hl : ∀ u, t = some u → u ∉ o.looksAt ops) (h : wpOp P ops (fun e a w => e = .normal ∧ Q e a w) i K (f.put t v) w) :
 wpOp P ops Q i (fun a' w' => a'.tmps = f.tmps ∧ K (a'.put t v) w') f w := by
 have hsel' : ∀ cs b, o.op ≠ .select cs b := fun cs b e => by simp [isSel, e] at hs
 have heval : ∀ u, u ∈ o.looksAt ops → f.tmps[u]? = (f.put t v).tmps[u]? := fun u hu => by
  cases t with
  | none => rfl
  | some x =>
   have hne : x ≠ u := fun e => hl x rfl (e ▸ hu)
   simp only [put_tmps]
   rw [Array.getElem?_setIfInBounds_ne hne]
 have he : execOp f.eval o = execOp (f.put t v).eval o := execOp_congr o hsel' fun x hx => by
  cases x with
  | tmp u =>
   have := heval u (List.mem_append_left _ (List.mem_filterMap.2 ⟨.tmp u, by simpa using hx, rfl⟩))
   simp only [Act.eval, Array.getD_eq_getD_getElem?, this]
  | _ => rfl
 have hw : Region.wanted o (yielded ops f.tmps) = Region.wanted o (yielded ops (f.put t v).tmps) := by
  unfold Region.wanted
  cases hg : o.guard with
  | none => rfl
  | some gw =>
   obtain ⟨g, want⟩ := gw
   have : yielded ops f.tmps g = yielded ops (f.put t v).tmps g := by
    unfold yielded
    cases ht : (ops[g]?).bind (·.dst) with
    | none => rfl
    | some u =>
     have := heval u (by simp [Oper.looksAt, hg, ht])
     simp only [Option.bind_some, this]
   simp only [this]
 unfold wpOp at *
 simp only [hi] at *
 rw [hw]
 have no : ¬ LetsOut (fun (e : Exit) (a : Act) (w : World) => e = .normal ∧ Q e a w) := fun ⟨_, _, h, _⟩ => by cases h
 split
 ·rename_i hw1
  simp only [hw1, if_true] at h
  rcases h with h | ⟨_, h⟩
  ·refine .inl ?_
   unfold Oper.wp at *
   rw [he]
   generalize (execOp (f.put t v).eval o).run P w = r at *
   cases r with
   | ok n w' =>
    cases n <;> simp only [Oper.upon, hdst] at h ⊢
    case value u => exact ⟨rfl, h⟩
    case skip => exact ⟨rfl, h⟩
    case defer d =>
     refine ⟨rfl, ?_⟩
     cases t <;> exact h
    case enter g args =>
     refine Calls.mono h fun e w'' he => ?_
     cases e with
     | returned u => exact ⟨rfl, he⟩
     | panicked c => exact absurd he.1 (by intro h; cases h)
     | outgrown => exact absurd he no
    case row row args => exact Rows.mono h fun u w'' he => ⟨rfl, he⟩
   | halt x w' =>
    cases x <;> simp only [Oper.upon] at h ⊢ <;> exact absurd h.1 (by intro h; cases h)
  ·exact absurd h no
 ·rename_i hw1
  simp only [hw1] at h
  simp only [hdst] at h ⊢
  exact ⟨rfl, h⟩

theorem wpList_normal {l : List Oper} {a : Act} {w : World} (h : wpList P ops (fun e a w => e = .normal ∧ Q e a w) l a w) : wpList P ops Q l a w := by
 have no : ¬ LetsOut (fun (e : Exit) (a : Act) (w : World) => e = .normal ∧ Q e a w) := fun ⟨_, _, h, _⟩ => by cases h
 induction l generalizing a w with
 | nil => exact h.2
 | cons o l ih =>
  unfold wpList at h ⊢
  split
  ·rename_i hw
   simp only [hw, if_true] at h
   rcases h with h | ⟨_, h⟩
   ·refine .inl ?_
    unfold Oper.wp at h ⊢
    generalize (execOp a.eval o).run P w = r at h ⊢
    cases r with
    | ok n w' =>
     cases n <;> simp only [Oper.upon] at h ⊢
     case value u => exact ih h
     case skip => exact ih h
     case defer d => exact ih h
     case enter g args =>
      refine Calls.mono h fun e w'' he => ?_
      cases e with
      | returned u => exact ih he
      | panicked c => exact absurd he.1 (by intro h; cases h)
      | outgrown => exact absurd he no
     case row row args => exact Rows.mono h fun u w'' he => ih he
    | halt x w' =>
     cases x <;> simp only [Oper.upon] at h ⊢ <;> exact absurd h.1 (by intro h; cases h)
   ·exact absurd h no
  ·rename_i hw
   simp only [hw, Bool.false_eq_true, if_false] at h
   exact ih h

theorem tail_late {m d e : Nat} {v : Value} {f : Act} (hok : LateOk ops m d e)
 (hd : ∀ a' w (K : Act → World → Prop), a'.tmps = f.tmps → K (a'.put (dstOf ops d) v) w → wpOp P ops Q d K a' w) :
 ∀ (fuel k : Nat) (listed : Array Bool) (a' : Act) (w : World), a'.tmps = f.tmps → m ≤ k → ops.size + 1 ≤ k + fuel → k ≤ e → listed.size = ops.size →
 (∀ j, j < ops.size → (listed.getD j false = true ↔ j < k ∧ j ≠ d)) → wpList P ops (fun e a w => e = .normal ∧ Q e a w) (ops.toList.drop k) (a'.put (dstOf ops d) v) w → wpAny P .any ops Q fuel listed a' w := by
 intro fuel
 induction fuel with
 | zero => intro k listed a' w ha hmk hf hke; have := hok.es; omega
 | succ fuel ih =>
  intro k listed a' w ha hmk hf hke hsz hl h
  have hks := Nat.le_trans hke hok.es
  have hdlt : d < ops.size := Nat.lt_of_lt_of_le hok.dm hok.ms
  have hdr : d ∈ Region.ready .any ops listed := by
   refine ready_iff.2 ⟨?_, hdlt, fun j hj => (hl j (Nat.lt_trans (hok.back d j hj) hdlt)).2 ⟨?_, Nat.ne_of_lt (hok.back d j hj)⟩⟩
   ·rw [getD_both (by omega)]
    cases hc : listed.getD d false with
    | false => rfl
    | true => exact absurd rfl ((hl d hdlt).1 hc).2
   ·exact Nat.lt_of_lt_of_le (Nat.lt_trans (hok.back d j hj) hok.dm) hmk
  refine ⟨fun e => (by rw [e] at hdr; cases hdr), fun i hi => ?_⟩
  obtain ⟨h0, hlt, hb⟩ := ready_iff.1 hi
  rw [getD_both (by omega)] at h0
  by_cases hid : i = d
  ·subst hid
   refine hd a' w _ ha ?_
   refine tail_done hok fuel k _ _ w hmk (by omega) hks (by simpa using hsz) (fun j hj => ?_) (wpList_normal h)
   by_cases hji : j = i
   ·subst hji
    have := hok.dm
    simp [hsz, hdlt]
    omega
   ·rw [getD_set_ne false (Ne.symm hji), hl j hj]
    exact ⟨fun h => h.1, fun h => ⟨h, hji⟩⟩
  have hge : k ≤ i := Nat.le_of_not_lt fun hik => by
   have := (hl i hlt).2 ⟨hik, hid⟩
   rw [h0] at this; cases this
  have hle : i ≤ k := Nat.le_of_not_lt fun hki => by
   have hkin := hok.tail i hlt (by omega) k hki (by have := hok.dm; omega)
   have hc := reach_closed (ops := ops) (S := (· < k)) (fun j hj k' hk' => Nat.lt_trans (hok.back j k' hk') hj) 5 i (fun j hj => ((hl j (Nat.lt_trans (hok.back i j hj) hlt)).1 (hb j hj)).1) k hkin
   exact absurd hc (Nat.lt_irrefl k)
  obtain rfl : i = k := by omega
  have hie : i < e := Nat.lt_of_not_le fun hei => by
   have hc := reach_closed (ops := ops) (S := fun j => j < i ∧ j ≠ d) (fun j hj k' hk' => ⟨Nat.lt_trans (hok.back j k' hk') hj.1, fun h => hok.free j (by omega) (h ▸ hk')⟩) 5 i (fun j hj => (hl j (Nat.lt_trans (hok.back i j hj) hlt)).1 (hb j hj)) d (hok.wait i hei hlt)
   exact hc.2 rfl
  have hdrop : ops.toList.drop i = ops[i] :: ops.toList.drop (i + 1) := by
   rw [List.drop_eq_getElem_cons (by simpa using hlt)]; simp
  rw [hdrop] at h
  have hio : ops[i]? = some ops[i] := by simp [hlt]
  obtain ⟨o, ho, hsel⟩ := hok.noSel i hlt
  have hoi : o = ops[i] := by rw [hio] at ho; exact (Option.some.inj ho).symm
  have hdst : (ops[i]).dst = none := by have := hok.still i hmk hie; simpa [dstOf, hio] using this
  have h' : wpOp P ops (fun e a w => e = .normal ∧ Q e a w) i (wpList P ops (fun e a w => e = .normal ∧ Q e a w) (ops.toList.drop (i + 1))) (a'.put (dstOf ops d) v) w := by
   unfold wpOp
   simp only [hio]
   unfold wpList at h
   exact h
  refine wpOp_mono (fun a2 w2 hx => ?_) (wpOp_blind hio (hoi ▸ hsel) hdst (fun u hu => hok.blind i _ u hmk hie hio hu) h')
  refine ih (i + 1) _ a2 w2 (hx.1.trans ha) (by omega) (by omega) hie (by simpa using hsz) (fun j hj => ?_) hx.2
  by_cases hji : j = i
  ·subst hji
   simp [hsz, hlt, hid]
  ·rw [getD_set_ne false (Ne.symm hji), hl j hj]
   omega
theorem looks_late {m d e i : Nat} {o : Oper} {l : List Nat} (hok : LateOk ops m d e) (hi : i < m) (ho : ops[i]? = some o) (hl : ∀ j ∈ l, j < m) (hb : ∀ j ∈ bindsOf ops i, j ∈ l) {t : Tmp} (ht : t ∈ o.looksAt ops) :
 (fr ops vs a l).tmps[t]? = (fr ops vs a (depsOf ops m i)).tmps[t]? := by
 have hdm : ∀ j ∈ depsOf ops m i, j < m ∧ j ∈ bindsOf ops i := fun j hj => by
  simp only [depsOf, List.mem_filter, List.mem_range, List.contains_iff_mem] at hj
  exact hj
 refine fr_same (fun j k hj hk hdj hdk => hok.apart j k (hj.elim (hl j) fun h => (hdm j h).1) (hk.elim (hl k) fun h => (hdm k h).1) t hdj hdk) fun j hdj => ⟨fun hj => ?_, fun hj => hb j (hdm j hj).2⟩
 have := hok.reads i j hi (hl j hj) o t ho hdj ht
 simp only [depsOf, List.mem_filter, List.mem_range, List.contains_iff_mem]
 exact ⟨hl j hj, this⟩

theorem head_late {m d e : Nat} (hok : LateOk ops m d e) (Φ : Nat → Value → World → Prop) (own : List Nat) (w0 : World) (a0 : Act)
 (hΦ : ∀ i v w w', i < m → Φ i v w → Keeps w w' → Φ i v w')
 (hstep : ∀ i, i < m → ∀ vs w, Keeps w0 w → (∀ j ∈ depsOf ops m i, Φ j (vs j) w) → ∀ K : Act → World → Prop,
  (∀ v w', Hands Φ own i w v w' → K ((fr ops vs a0 (depsOf ops m i)).put (dstOf ops i) v) w') → wpOp P ops (fun _ _ _ => False) i K (fr ops vs a0 (depsOf ops m i)) w)
 (hdo : d ∉ own)
 (hpure : ∀ vs w, Keeps w0 w → (∀ j ∈ depsOf ops m d, Φ j (vs j) w) → ∃ v, Φ d v w ∧ ∀ w' (K : Act → World → Prop), K ((fr ops vs a0 (depsOf ops m d)).put (dstOf ops d) v) w' → wpOp P ops (fun _ _ _ => False) d K (fr ops vs a0 (depsOf ops m d)) w')
 (htail : ∀ vs w, Keeps w0 w → (∀ i, i < m → Φ i (vs i) w) → (∀ i j, i < m → j < m → i ∈ own → j ∈ own → i ≠ j → vs i ≠ vs j) → wpList P ops (fun e a w => e = .normal ∧ Q e a w) (ops.toList.drop m) (fr ops vs a0 (List.range m)) w) :
 ∀ (fuel : Nat) (l : List Nat) (vs : Nat → Value) (listed : Array Bool) (w : World), l.Nodup → (∀ j ∈ l, j < m) → ops.size ≤ l.length + fuel → listed.size = ops.size →
  (∀ j, j < ops.size → (listed.getD j false = true ↔ j ∈ l)) → (∀ j ∈ l, ∀ k ∈ bindsOf ops j, k ∈ l) → Keeps w0 w → (∀ j ∈ l, Φ j (vs j) w) →
  (∀ j ∈ l, j ∈ own → ∃ b, vs j = .pointer (some ⟨b, 0, none⟩) ∧ b < w.heap.size) → (∀ i ∈ l, ∀ j ∈ l, i ∈ own → j ∈ own → i ≠ j → vs i ≠ vs j) →
  wpAny P .any ops Q fuel listed (fr ops vs a0 l) w := by
 have hms := hok.ms
 intro fuel
 induction fuel with
 | zero =>
  intro l vs listed w hn hl hf hsz hll hcl hk hΦl ho1 ho2
  refine (?_ : wpAny P .any ops Q 0 listed _ w)
  have hlen := nodup_len m l hn hl
  have hall : ∀ j, j < m → j ∈ l := fun j hj => Classical.byContradiction fun hc => by
   have := nodup_len m (j :: l) (List.nodup_cons.2 ⟨hc, hn⟩) (fun x hx => by rcases List.mem_cons.1 hx with rfl | h; exact hj; exact hl x h)
   simp at this
   omega
  have hfr : fr ops vs a0 l = fr ops vs a0 (List.range m) := by
   have ht : (fr ops vs a0 l).tmps = (fr ops vs a0 (List.range m)).tmps := Array.ext_getElem? fun t => fr_same
    (fun j k hj hk hdj hdk => hok.apart j k (hj.elim (hl j) List.mem_range.1) (hk.elim (hl k) List.mem_range.1) t hdj hdk) (fun j _ => ⟨fun h => List.mem_range.2 (hl j h), fun h => hall j (List.mem_range.1 h)⟩)
   have hd : (fr ops vs a0 l).defers = (fr ops vs a0 (List.range m)).defers := by rw [fr_defers, fr_defers]
   exact act_ext ht hd
  rw [hfr]
  refine tail_done hok 0 m listed _ w (Nat.le_refl _) (by omega) hms hsz (fun j hj => ?_) (wpList_normal (htail vs w hk (fun i hi => hΦl i (hall i hi)) (fun i j hi hj => ho2 i (hall i hi) j (hall j hj))))
  rw [hll j hj]
  exact ⟨hl j, hall j⟩
 | succ fuel ih =>
  intro l vs listed w hn hl hf hsz hll hcl hk hΦl ho1 ho2
  by_cases hlate : (∀ j, j < m → j ≠ d → j ∈ l) ∧ d ∉ l
  ·obtain ⟨hall, hdl⟩ := hlate
   have hdlt : d < ops.size := Nat.lt_of_lt_of_le hok.dm hms
   obtain ⟨o, ho, hsel⟩ := hok.noSel d hdlt
   have hbd : ∀ j ∈ bindsOf ops d, j ∈ l := fun j hj => hall j (Nat.lt_trans (hok.back d j hj) hok.dm) (Nat.ne_of_lt (hok.back d j hj))
   have hdepd : ∀ j ∈ depsOf ops m d, j ∈ l := fun j hj => by
    simp only [depsOf, List.mem_filter, List.mem_range, List.contains_iff_mem] at hj
    exact hbd j hj.2
   obtain ⟨v, hv, hgo⟩ := hpure vs w hk fun j hj => hΦl j (hdepd j hj)
   have hlen := nodup_len m (d :: l) (List.nodup_cons.2 ⟨hdl, hn⟩) (fun x hx => by
    rcases List.mem_cons.1 hx with rfl | h
    ·exact hok.dm
    ·exact hl x h)
   simp only [List.length_cons] at hlen
   have hsel' : ∀ cs b, o.op ≠ .select cs b := fun cs b e => by simp [isSel, e] at hsel
   have hdst : dstOf ops d = o.dst := by simp [dstOf, ho]
   have heval : ∀ t, t ∈ o.looksAt ops → (fr ops vs a0 l).tmps[t]? = (fr ops vs a0 (depsOf ops m d)).tmps[t]? := fun t ht => looks_late hok hok.dm ho hl hbd ht
   have hfr : (fr ops vs a0 l).put (dstOf ops d) v = fr ops (fun j => if j = d then v else vs j) a0 (List.range m) := by
    have h1 : (fr ops vs a0 l).put (dstOf ops d) v = fr ops (fun j => if j = d then v else vs j) a0 (d :: l) := by
     rw [fr, fr_ext (us := fun j => if j = d then v else vs j) (vs := vs) l (fun j hj => by simp [show j ≠ d from fun e => hdl (e ▸ hj)])]
     simp
    rw [h1]
    have hin : ∀ j, j ∈ d :: l ↔ j < m := fun j => ⟨fun h => by
     rcases List.mem_cons.1 h with rfl | h
     ·exact hok.dm
     ·exact hl j h, fun h => by
     by_cases hjd : j = d
     ·exact hjd ▸ List.mem_cons_self
     ·exact List.mem_cons_of_mem _ (hall j h hjd)⟩
    refine act_ext (Array.ext_getElem? fun t => fr_same (fun j k hj hk hdj hdk => hok.apart j k (hj.elim (hin j).1 List.mem_range.1) (hk.elim (hin k).1 List.mem_range.1) t hdj hdk) (fun j _ => ⟨fun h => List.mem_range.2 ((hin j).1 h), fun h => (hin j).2 (List.mem_range.1 h)⟩)) ?_
    rw [fr_defers, fr_defers]
   have hne : ∀ i, i ∈ own → i ≠ d := fun i hi e => hdo (e ▸ hi)
   refine tail_late (v := v) (f := fr ops vs a0 l) hok ?_ (fuel + 1) m listed _ w rfl (Nat.le_refl _) (by omega) hok.me hsz (fun j hj => ?_) ?_
   ·intro a' w' K ha hK
    have he : execOp a'.eval o = execOp (fr ops vs a0 (depsOf ops m d)).eval o := execOp_congr o hsel' fun x hx => by
     cases x with
     | tmp t =>
      have := heval t (List.mem_append_left _ (List.mem_filterMap.2 ⟨.tmp t, by simpa using hx, rfl⟩))
      simp only [Act.eval, Array.getD_eq_getD_getElem?, ha, this]
     | _ => rfl
    have hw : Region.wanted o (yielded ops a'.tmps) = Region.wanted o (yielded ops (fr ops vs a0 (depsOf ops m d)).tmps) := by
     unfold Region.wanted
     cases hg : o.guard with
     | none => rfl
     | some gw =>
      obtain ⟨g, want⟩ := gw
      have : yielded ops a'.tmps g = yielded ops (fr ops vs a0 (depsOf ops m d)).tmps g := by
       unfold yielded
       cases ht : (ops[g]?).bind (·.dst) with
       | none => rfl
       | some t =>
        have := heval t (by simp [Oper.looksAt, hg, ht])
        simp only [Option.bind_some, ha, this]
      simp only [this]
    refine wpOp_mono (fun a2 w2 hx => ?_) (wpOp_move (Q := Q) (X := fun v' w2 => v' = v ∧ w2 = w') ho he hw (by rw [ha, fr_size, fr_size]) fun K2 hK2 => hgo w' K2 (hdst ▸ hK2 v w' ⟨rfl, rfl⟩))
    obtain ⟨v', rfl, rfl, rfl⟩ := hx
    rw [← hdst]
    exact hK
   ·rw [hll j hj]
    exact ⟨fun h => ⟨hl j h, fun e => hdl (e ▸ h)⟩, fun h => hall j h.1 h.2⟩
   ·rw [hfr]
    refine htail _ w hk (fun i hi => ?_) (fun i j hi hj hio hjo hij => ?_)
    ·by_cases hid : i = d
     ·subst hid; simpa using hv
     ·simp only [hid, if_false]
      exact hΦl i (hall i hi hid)
    ·simp only [hne i hio, hne j hjo, if_false]
     exact ho2 i (hall i hi (hne i hio)) j (hall j hj (hne j hjo)) hio hjo hij
  by_cases hall : ∀ j, j < m → j ∈ l
  ·have hfr : fr ops vs a0 l = fr ops vs a0 (List.range m) := by
    have ht : (fr ops vs a0 l).tmps = (fr ops vs a0 (List.range m)).tmps := Array.ext_getElem? fun t => fr_same
     (fun j k hj hk hdj hdk => hok.apart j k (hj.elim (hl j) List.mem_range.1) (hk.elim (hl k) List.mem_range.1) t hdj hdk) (fun j _ => ⟨fun h => List.mem_range.2 (hl j h), fun h => hall j (List.mem_range.1 h)⟩)
    have hd : (fr ops vs a0 l).defers = (fr ops vs a0 (List.range m)).defers := by rw [fr_defers, fr_defers]
    exact act_ext ht hd
   have hlen := nodup_len m l hn hl
   rw [hfr]
   refine tail_done hok (fuel + 1) m listed _ w (Nat.le_refl _) (by omega) hms hsz (fun j hj => ?_) (wpList_normal (htail vs w hk (fun i hi => hΦl i (hall i hi)) (fun i j hi hj => ho2 i (hall i hi) j (hall j hj))))
   rw [hll j hj]
   exact ⟨hl j, hall j⟩
  ·refine ⟨fun e => ?_, fun i hi => ?_⟩
   ·exfalso
    obtain ⟨j, ⟨hj, hjl⟩, hmin⟩ := least (p := fun j => j < ops.size ∧ j ∉ l) (Classical.byContradiction fun hc => hall fun j hj => Classical.byContradiction fun hjl => hc ⟨j, by omega, hjl⟩)
    have : j ∈ Region.ready .any ops listed := by
     refine ready_iff.2 ⟨?_, hj, fun k hk => ?_⟩
     ·rw [getD_both (by omega)]
      cases hc : listed.getD j false with
      | false => rfl
      | true => exact absurd ((hll j hj).1 hc) hjl
     ·have hkj := hok.back j k hk
      refine (hll k (by omega)).2 (Classical.byContradiction fun hkl => hmin k hkj ⟨by omega, hkl⟩)
    rw [e] at this
    cases this
   ·obtain ⟨h0, hlt, hb⟩ := ready_iff.1 hi
    have hbl : ∀ j ∈ bindsOf ops i, j ∈ l := fun j hj => (hll j (by have := hok.back i j hj; omega)).1 (hb j hj)
    have him : i < m := Nat.lt_of_not_le fun hmi => by
     have hx : ∀ j, j < m → j ≠ d → j ∈ l := fun j hj hjd => reach_closed (ops := ops) (S := (· ∈ l)) hcl 5 i hbl j (hok.tail i hlt hmi j (by omega) hjd)
     have hy : d ∈ l := Classical.byContradiction fun hc => hlate ⟨hx, hc⟩
     exact hall fun j hj => by
      by_cases hjd : j = d
      ·exact hjd ▸ hy
      ·exact hx j hj hjd
    have hil : i ∉ l := fun h => by
     have := (hll i hlt).2 h
     rw [getD_both (by omega), this] at h0
     cases h0
    obtain ⟨o, ho, hsel⟩ := hok.noSel i hlt
    have hsel' : ∀ cs b, o.op ≠ .select cs b := fun cs b e => by simp [isSel, e] at hsel
    have heval : ∀ t, t ∈ o.looksAt ops → (fr ops vs a0 l).tmps[t]? = (fr ops vs a0 (depsOf ops m i)).tmps[t]? := fun t ht => looks_late hok him ho hl hbl ht
    have he : execOp (fr ops vs a0 l).eval o = execOp (fr ops vs a0 (depsOf ops m i)).eval o := execOp_congr o hsel' fun x hx => by
     cases x with
     | tmp t =>
      have := heval t (List.mem_append_left _ (List.mem_filterMap.2 ⟨.tmp t, by simpa using hx, rfl⟩))
      simp only [Act.eval, Array.getD_eq_getD_getElem?, this]
     | _ => rfl
    have hw : Region.wanted o (yielded ops (fr ops vs a0 l).tmps) = Region.wanted o (yielded ops (fr ops vs a0 (depsOf ops m i)).tmps) := by
     unfold Region.wanted
     cases hg : o.guard with
     | none => rfl
     | some gw =>
      obtain ⟨g, want⟩ := gw
      have : yielded ops (fr ops vs a0 l).tmps g = yielded ops (fr ops vs a0 (depsOf ops m i)).tmps g := by
       unfold yielded
       cases ht : (ops[g]?).bind (·.dst) with
       | none => rfl
       | some t =>
        have := heval t (by simp [Oper.looksAt, hg, ht])
        simp only [Option.bind_some, this]
      simp only [this]
    have hdst : dstOf ops i = o.dst := by simp [dstOf, ho]
    have hdeps : ∀ j ∈ depsOf ops m i, j ∈ l := fun j hj => by
     simp only [depsOf, List.mem_filter, List.mem_range, List.contains_iff_mem] at hj
     exact hbl j hj.2
    have hmove := wpOp_move (P := P) (Q := Q) (X := Hands Φ own i w) ho he hw (by rw [fr_size, fr_size]) (hdst ▸ hstep i him vs w hk fun j hj => hΦl j (hdeps j hj))
    refine wpOp_mono (fun a' w' hX => ?_) hmove
    obtain ⟨v, rfl, hkw, hv, hown⟩ := hX
    have hfr : (fr ops vs a0 l).put o.dst v = fr ops (fun j => if j = i then v else vs j) a0 (i :: l) := by
     rw [fr, hdst, fr_ext (us := fun j => if j = i then v else vs j) (vs := vs) l (fun j hj => by simp [show j ≠ i from fun e => hil (e ▸ hj)])]
     simp
    have hsize : w.heap.size ≤ w'.heap.size := hkw.size
    rw [hfr]
    refine ih (i :: l) _ _ w' (List.nodup_cons.2 ⟨hil, hn⟩) (fun j hj => ?_) (by simp only [List.length_cons]; omega) (by simpa using hsz) (fun j hj => ?_) (fun j hj k hk' => ?_) (hk.trans' hkw) (fun j hj => ?_) (fun j hj hjo => ?_) (fun j hj k hk' hjo hko hne => ?_)
    ·rcases List.mem_cons.1 hj with rfl | h
     ·exact him
     ·exact hl j h
    ·by_cases hji : j = i
     ·subst hji
      simp [hsz, hlt]
     ·rw [getD_set_ne false (Ne.symm hji), hll j hj]
      simp [hji]
    ·rcases List.mem_cons.1 hj with rfl | h
     ·exact List.mem_cons_of_mem _ (hbl k hk')
     ·exact List.mem_cons_of_mem _ (hcl j h k hk')
    ·by_cases hji : j = i
     ·subst hji
      simpa using hv
     ·have hjl : j ∈ l := (List.mem_cons.1 hj).resolve_left hji
      simp only [hji, if_false]
      exact hΦ j _ w w' (hl j hjl) (hΦl j hjl) hkw
    ·by_cases hji : j = i
     ·subst hji
      simp only [if_true]
      exact ⟨_, (hown hjo).1, (hown hjo).2⟩
     ·have hjl : j ∈ l := (List.mem_cons.1 hj).resolve_left hji
      simp only [hji, if_false]
      obtain ⟨b, hb, hlt⟩ := ho1 j hjl hjo
      exact ⟨b, hb, by omega⟩
    ·by_cases hji : j = i
     ·subst hji
      have hkj : k ≠ j := fun e => hne e.symm
      have hkl : k ∈ l := (List.mem_cons.1 hk').resolve_left hkj
      simp only [if_true, hkj, if_false]
      obtain ⟨b, hb, hlt⟩ := ho1 k hkl hko
      rw [(hown hjo).1, hb]
      intro e
      simp only [Value.pointer.injEq, Option.some.injEq, Addr.mk.injEq] at e
      omega
     ·have hjl : j ∈ l := (List.mem_cons.1 hj).resolve_left hji
      by_cases hki : k = i
      ·subst hki
       simp only [if_true, hji, if_false]
       obtain ⟨b, hb, hlt⟩ := ho1 j hjl hjo
       rw [(hown hko).1, hb]
       intro e
       simp only [Value.pointer.injEq, Option.some.injEq, Addr.mk.injEq] at e
       omega
      ·have hkl : k ∈ l := (List.mem_cons.1 hk').resolve_left hki
       simp only [hji, hki, if_false]
       exact ho2 j hjl k hkl hjo hko hne


def lateOk (ops : Array Oper) (m d e : Nat) : Bool :=
 ((List.range m).all fun j => (List.range m).all fun k => j == k || dstOf ops j == none || dstOf ops j != dstOf ops k) &&
 ((List.range m).all fun i => (List.range m).all fun j => match ops[i]?, dstOf ops j with | some o, some d => !(o.looksAt ops).contains d || (bindsOf ops i).contains j | _, _ => true) &&
 ((List.range ops.size).all fun i => match ops[i]? with | some o => !isSel o | none => false) &&
 ((List.range ops.size).all fun i => (bindsOf ops i).all fun j => decide (j < i) && (j != d || decide (e ≤ i))) &&
 ((List.range ops.size).all fun k => decide (k < m) || ((List.range k).all fun j => j == d || (reachOf ops 5 k).contains j) && (if e ≤ k then (reachOf ops 5 k).contains d else dstOf ops k == none &&
  match ops[k]?, dstOf ops d with | some o, some t => !(o.looksAt ops).contains t | _, _ => true)) &&
 decide (d < m) && decide (m ≤ ops.size) && decide (m ≤ e) && decide (e ≤ ops.size)

theorem lateOk_spec {m d e : Nat} (h : lateOk ops m d e = true) : LateOk ops m d e := by
 simp only [lateOk, Bool.and_eq_true, List.all_eq_true, List.mem_range, decide_eq_true_eq] at h
 obtain ⟨⟨⟨⟨⟨⟨⟨⟨h1, h2⟩, h3⟩, h4⟩, h5⟩, h6⟩, h7⟩, h8⟩, h9⟩ := h
 have h5' : ∀ k, k < ops.size → m ≤ k → (∀ j, j < k → j ≠ d → j ∈ reachOf ops 5 k) ∧ (if e ≤ k then (reachOf ops 5 k).contains d else dstOf ops k == none && (match ops[k]?, dstOf ops d with | some o, some t => !(o.looksAt ops).contains t | _, _ => true)) = true := fun k hk hmk => by
  have := h5 k hk
  rw [Bool.or_eq_true, Bool.and_eq_true] at this
  rcases this with h | ⟨ha, hc⟩
  ·have := of_decide_eq_true h; omega
  ·refine ⟨fun j hj hjd => ?_, hc⟩
   have := List.all_eq_true.1 ha j (List.mem_range.2 hj)
   simpa [hjd] using this
 refine ⟨fun j k hj hk d hdj hdk => ?_, fun i j hi hj o d ho hd hl => ?_, fun i hi => ?_, fun i j hj => ?_, h6, h7, h8, h9, fun k hk hmk => (h5' k hk hmk).1, fun i hie hd => ?_, fun k hmk hke => ?_, fun k hek hk => ?_, fun k o t hmk hke ho hd hl => ?_⟩
 ·have := h1 j hj k hk
  simpa [hdj, hdk] using this
 ·have := h2 i hi j hj
  simpa [ho, hd, hl] using this
 ·have := h3 i hi
  cases ho : ops[i]? with
  | none => simp [ho] at this
  | some o => exact ⟨o, rfl, by simpa [ho] using this⟩
 ·by_cases hi : i < ops.size
  ·exact (h4 i hi j hj).1
  ·rw [bindsOf_out hi] at hj; cases hj
 ·have := (h4 i (by omega) d hd).2
  simp at this
  omega
 ·have := (h5' k (by omega) hmk).2
  rw [if_neg (by omega), Bool.and_eq_true] at this
  simpa using this.1
 ·have := (h5' k hk (by omega)).2
  rw [if_pos hek] at this
  simpa using this
 ·have := (h5' k (by omega) hmk).2
  rw [if_neg (by omega), Bool.and_eq_true] at this
  have := this.2
  simp only [ho, hd] at this
  simp [hl] at this

structure Late (P : Program) (ops : Array Oper) (Φ : Nat → Value → World → Prop) (m d : Nat) (vs : Nat → Value) (a : Act) (w : World) : Prop where
 go : ∃ v, Φ d v w ∧ ∀ w' (K : Act → World → Prop), K ((fr ops vs a (depsOf ops m d)).put (dstOf ops d) v) w' → wpOp P ops (fun _ _ _ => False) d K (fr ops vs a (depsOf ops m d)) w'
theorem wp_region_late {id m : Nat} (d e : Nat) {w0 : World} (hm : P.follows .mixedOrders = true) (hok : lateOk ops m d e = true) (Φ : Nat → Value → World → Prop) (own : List Nat)
 (hdo : d ∉ own)
 (hΦ : ∀ i v w w', i < m → Φ i v w → Keeps w w' → Φ i v w')
 (hstep : ∀ i, i < m → ∀ vs w, Keeps w0.drew w → (∀ j ∈ depsOf ops m i, Φ j (vs j) w) → Step P ops Φ own m i vs a w)
 (hpure : ∀ vs w, Keeps w0.drew w → (∀ j ∈ depsOf ops m d, Φ j (vs j) w) → Late P ops Φ m d vs a w)
 (htail : ∀ vs w, Keeps w0.drew w → (∀ i, i < m → Φ i (vs i) w) → (∀ i j, i < m → j < m → i ∈ own → j ∈ own → i ≠ j → vs i ≠ vs j) → wpList P ops (fun e a w => e = .normal ∧ Q e a w) (ops.toList.drop m) (fr ops vs a (List.range m)) w) :
 (Code.region id ops true).wp P Q a w0 := by
 refine wp_region_any hm ?_
 exact head_late (lateOk_spec hok) Φ own w0.drew a hΦ (fun i hi vs w hk hd => (hstep i hi vs w hk hd).go) hdo (fun vs w hk hd => (hpure vs w hk hd).go) htail ops.size [] (fun _ => undef) _ _ List.nodup_nil (fun _ h => by cases h) (by simp) (by simp)
  (fun j hj => by simp [hj]) (fun _ h => by cases h) (RowKit.Below.refl _ _) (fun _ h => by cases h) (fun _ h => by cases h) (fun _ h => by cases h)

theorem pure_at {m d : Nat} {o : Oper} {v : Value} {w : World} {Φ : Nat → Value → World → Prop} (ds : List (Nat × Option Tmp)) (hi : ops[d]? = some o) (hl : (depsOf ops m d).map (fun j => (j, dstOf ops j)) = ds) (hΦ : Φ d v w)
 (h : ∀ w' (K : Act → World → Prop), K ((frD vs a ds).put o.dst v) w' → Region.wanted o (yielded ops (frD vs a ds).tmps) = true ∧ Oper.wp P o (frD vs a ds) w' K (fun _ _ _ => False)) :
 Late P ops Φ m d vs a w := by
 refine ⟨v, hΦ, fun w' K hK => ?_⟩
 have hd : dstOf ops d = o.dst := by simp [dstOf, hi]
 rw [fr_frD, hl, hd] at hK
 rw [fr_frD, hl]
 obtain ⟨hw, hh⟩ := h w' K hK
 unfold wpOp
 simp only [hi, hw, if_true]
 exact .inl hh
end
end Go.Proofs.YtecibfncnaccjaaGreat
