/- A region that draws its order, whose operations yield known values and whose stores come in one order: the law, outside of a round and in one. No program in sight. Division by one group: plain arithmetic; the binary logarithm. The walk of the reference's short. -/
import Derived.Test.YtomjnjpehokjbaaGreatDoorRound
import Derived.Test.YtomjnjpehokjbaaGreatDoorMgNum
import Derived.Test.YtomjnjpehokjbaaGreatDoorMgIntA
namespace Go.Proofs.YtomjnjpehokjbaaGreatDoor
open Go.RowKit Go.Shelf

section det
variable {P : Program} {ops : Array Oper} {Q : Exit → Act → World → Prop} {vals : Nat → Value} {a0 : Act} {W : (Nat → Bool) → World}

/-- what one operation does, where the operations of p are done -/
def StepDet (P : Program) (ops : Array Oper) (vals : Nat → Value) (a0 : Act) (W : (Nat → Bool) → World) (i : Nat) : Prop :=
  ∀ p : Nat → Bool, p i = false → (∀ j ∈ bindsOf ops i, p j = true) → (∀ j k, p j = true → k ∈ bindsOf ops j → p k = true) → ∀ K : Act → World → Prop,
    K ((fr ops vals a0 (depsOf ops ops.size i)).put (dstOf ops i) (vals i)) (W (fun j => j == i || p j)) → wpOp P ops (fun _ _ _ => False) i K (fr ops vals a0 (depsOf ops ops.size i)) (W p)

theorem det_any (hok : RegionOk ops ops.size) (hW : ∀ p q : Nat → Bool, (∀ j, j < ops.size → p j = q j) → W p = W q) (hstep : ∀ i, i < ops.size → StepDet P ops vals a0 W i)
    (hend : Q .normal (fr ops vals a0 (List.range ops.size)) (W (fun _ => true))) :
    ∀ (fuel : Nat) (l : List Nat) (listed : Array Bool), l.Nodup → (∀ j ∈ l, j < ops.size) → ops.size ≤ l.length + fuel → listed.size = ops.size →
      (∀ j, j < ops.size → (listed.getD j false = true ↔ j ∈ l)) → (∀ j ∈ l, ∀ k ∈ bindsOf ops j, k ∈ l) → wpAny P .any ops Q fuel listed (fr ops vals a0 l) (W (fun j => decide (j ∈ l))) := by
  have fin : ∀ l : List Nat, (∀ j ∈ l, j < ops.size) → (∀ j, j < ops.size → j ∈ l) → Q .normal (fr ops vals a0 l) (W (fun j => decide (j ∈ l))) := fun l hl hall => by
    have hfr : fr ops vals a0 l = fr ops vals a0 (List.range ops.size) := by
      have ht : (fr ops vals a0 l).tmps = (fr ops vals a0 (List.range ops.size)).tmps := Array.ext_getElem? fun t => fr_same
        (fun j k hj hk hdj hdk => hok.apart j k (hj.elim (hl j) List.mem_range.1) (hk.elim (hl k) List.mem_range.1) t hdj hdk) (fun j _ => ⟨fun h => List.mem_range.2 (hl j h), fun h => hall j (List.mem_range.1 h)⟩)
      exact act_ext ht (by rw [fr_defers, fr_defers])
    rw [hfr, hW _ (fun _ => true) (fun j hj => by simp [hall j hj])]
    exact hend
  intro fuel
  induction fuel with
  | zero =>
    intro l listed hn hl hf hsz hll hcl
    have hall : ∀ j, j < ops.size → j ∈ l := fun j hj => Classical.byContradiction fun hc => by
      have := nodup_len ops.size (j :: l) (List.nodup_cons.2 ⟨hc, hn⟩) (fun x hx => by rcases List.mem_cons.1 hx with rfl | h; exact hj; exact hl x h)
      simp at this
      omega
    refine ⟨?_, fin l hl hall⟩
    refine List.eq_nil_iff_forall_not_mem.2 fun j hj => ?_
    obtain ⟨h0, hlt, -⟩ := ready_iff.1 hj
    rw [getD_both (by omega), (hll j hlt).2 (hall j hlt)] at h0
    cases h0
  | succ fuel ih =>
    intro l listed hn hl hf hsz hll hcl
    refine ⟨fun e => ?_, fun i hi => ?_⟩
    · refine fin l hl fun j0 hj0 => Classical.byContradiction fun hjl0 => ?_
      obtain ⟨j, ⟨hj, hjl⟩, hmin⟩ := least (p := fun j => j < ops.size ∧ j ∉ l) ⟨j0, hj0, hjl0⟩
      have : j ∈ Region.ready .any ops listed := by
        refine ready_iff.2 ⟨?_, hj, fun k hk => ?_⟩
        · rw [getD_both (by omega)]
          cases hc : listed.getD j false with
          | false => rfl
          | true => exact absurd ((hll j hj).1 hc) hjl
        · have hkj := hok.back j k hk
          refine (hll k (by omega)).2 (Classical.byContradiction fun hkl => hmin k hkj ⟨by omega, hkl⟩)
      rw [e] at this
      cases this
    · obtain ⟨h0, hlt, hb⟩ := ready_iff.1 hi
      have hbl : ∀ j ∈ bindsOf ops i, j ∈ l := fun j hj => (hll j (by have := hok.back i j hj; omega)).1 (hb j hj)
      have hil : i ∉ l := fun h => by
        have := (hll i hlt).2 h
        rw [getD_both (by omega), this] at h0
        cases h0
      obtain ⟨o, ho, hsel⟩ := hok.noSel i hlt
      have hsel' : ∀ cs b, o.op ≠ .select cs b := fun cs b e => by simp [isSel, e] at hsel
      have heval : ∀ t, t ∈ o.looksAt ops → (fr ops vals a0 l).tmps[t]? = (fr ops vals a0 (depsOf ops ops.size i)).tmps[t]? := fun t ht => looks_fr hok hlt ho hl hbl ht
      have he : execOp (fr ops vals a0 l).eval o = execOp (fr ops vals a0 (depsOf ops ops.size i)).eval o := execOp_congr o hsel' fun x hx => by
        cases x with
        | tmp t =>
          have := heval t (List.mem_append_left _ (List.mem_filterMap.2 ⟨.tmp t, by simpa using hx, rfl⟩))
          simp only [Act.eval, Array.getD_eq_getD_getElem?, this]
        | _ => rfl
      have hw : Region.wanted o (yielded ops (fr ops vals a0 l).tmps) = Region.wanted o (yielded ops (fr ops vals a0 (depsOf ops ops.size i)).tmps) := by
        unfold Region.wanted
        cases hg : o.guard with
        | none => rfl
        | some gw =>
          obtain ⟨g, want⟩ := gw
          have : yielded ops (fr ops vals a0 l).tmps g = yielded ops (fr ops vals a0 (depsOf ops ops.size i)).tmps g := by
            unfold yielded
            cases ht : (ops[g]?).bind (·.dst) with
            | none => rfl
            | some t =>
              have := heval t (by simp [Oper.looksAt, hg, ht])
              simp only [Option.bind_some, this]
          simp only [this]
      have hdst : dstOf ops i = o.dst := by simp [dstOf, ho]
      have hs := hstep i hlt (fun j => decide (j ∈ l)) (by simpa using hil) (fun j hj => by simpa using hbl j hj) (fun j k hj hk => by simpa using hcl j (by simpa using hj) k hk)
      have hmove := wpOp_move (P := P) (Q := Q) (X := fun v w' => v = vals i ∧ w' = W (fun j => j == i || decide (j ∈ l))) ho he hw (by rw [fr_size, fr_size]) (fun K hK => hs K (hdst ▸ hK _ _ ⟨rfl, rfl⟩))
      refine wpOp_mono (fun a' w' hX => ?_) hmove
      obtain ⟨v, rfl, rfl, rfl⟩ := hX
      have hfr : (fr ops vals a0 l).put o.dst (vals i) = fr ops vals a0 (i :: l) := by rw [fr, hdst]
      rw [hfr, hW (fun j => j == i || decide (j ∈ l)) (fun j => decide (j ∈ i :: l)) (fun j _ => by by_cases e : j = i <;> simp [e])]
      refine ih (i :: l) _ (List.nodup_cons.2 ⟨hil, hn⟩) (fun j hj => ?_) (by simp only [List.length_cons]; omega) (by simpa using hsz) (fun j hj => ?_) (fun j hj k hk' => ?_)
      · rcases List.mem_cons.1 hj with rfl | h
        · exact hlt
        · exact hl j h
      · by_cases hji : j = i
        · subst hji
          simp [hsz, hlt]
        · rw [getD_set_ne false (Ne.symm hji), hll j hj]
          simp [hji]
      · rcases List.mem_cons.1 hj with rfl | h
        · exact List.mem_cons_of_mem _ (hbl k hk')
        · exact List.mem_cons_of_mem _ (hcl j h k hk')

/-- THE LAW, outside of a round -/
theorem wp_region_det {id : Nat} {w0 : World} (hm : P.follows .mixedOrders = true) (hok : regionOk ops ops.size = true) (vals : Nat → Value) (W : (Nat → Bool) → World) (h0 : W (fun _ => false) = w0.drew)
    (hW : ∀ p q : Nat → Bool, (∀ j, j < ops.size → p j = q j) → W p = W q) (hstep : ∀ i, i < ops.size → StepDet P ops vals a0 W i)
    (hend : Q .normal (fr ops vals a0 (List.range ops.size)) (W (fun _ => true))) : (Code.region id ops true).wp P Q a0 w0 := by
  refine wp_region_any hm ?_
  have := det_any (P := P) (Q := Q) (regionOk_spec hok) hW hstep hend ops.size [] (Array.replicate ops.size false) List.nodup_nil (fun _ h => by cases h) (by simp) (by simp) (fun j hj => by simp [hj]) (fun _ h => by cases h)
  rw [show W (fun j => decide (j ∈ [])) = w0.drew from by rw [← h0]; rfl] at this
  exact this
/-- THE LAW, in a round -/
theorem wpIn_region_det {id l n : Nat} {w0 : World} (hm : P.follows .mixedOrders = true) (hok : regionOk ops ops.size = true) (hnd : noDefer ops = true) (vals : Nat → Value) (W : (Nat → Bool) → World) (h0 : W (fun _ => false) = w0.drew)
    (hW : ∀ p q : Nat → Bool, (∀ j, j < ops.size → p j = q j) → W p = W q) (hstep : ∀ i, i < ops.size → StepDet P ops vals a0 W i)
    (hend : Q .normal (fr ops vals a0 (List.range ops.size)) (W (fun _ => true))) : (Code.region id ops true).wpIn (Fence.wide.inRound l) n P Q a0 w0 := by
  refine wpIn_region_any hm (wpAnyIn_of (noDefer_spec hnd) _ _ _ _ ?_)
  have := det_any (P := P) (Q := onlyN Q) (regionOk_spec hok) hW hstep hend ops.size [] (Array.replicate ops.size false) List.nodup_nil (fun _ h => by cases h) (by simp) (by simp) (fun j hj => by simp [hj]) (fun _ h => by cases h)
  rw [show W (fun j => decide (j ∈ [])) = w0.drew from by rw [← h0]; rfl] at this
  exact this
/-- one operation, from its run -/
theorem stepDet_at {i : Nat} {o : Oper} (ds : List (Nat × Option Tmp)) (d : Option Tmp) (hi : ops[i]? = some o) (hdd : dstOf ops i = d) (hg : o.guard = none) (hl : (depsOf ops ops.size i).map (fun j => (j, dstOf ops j)) = ds)
    (h : ∀ p : Nat → Bool, p i = false → (∀ j ∈ bindsOf ops i, p j = true) → (∀ j k, p j = true → k ∈ bindsOf ops j → p k = true) → ∀ K : Act → World → Prop,
      K ((frD vals a0 ds).put d (vals i)) (W (fun j => j == i || p j)) → Oper.wp P o (frD vals a0 ds) (W p) K (fun _ _ _ => False)) : StepDet P ops vals a0 W i := by
  intro p h1 h2 h3 K hK
  rw [fr_frD, hl, hdd] at hK
  rw [fr_frD, hl]
  unfold wpOp
  have hw : Region.wanted o (yielded ops (frD vals a0 ds).tmps) = true := by simp [Region.wanted, hg]
  simp only [hi, hw, if_true]
  exact .inl (h p h1 h2 h3 K hK)
end det
/-- the worlds of a region with two stores, a before b -/
def two (w0 w1 w2 : World) (a b : Nat) (p : Nat → Bool) : World := if p b = true then w2 else if p a = true then w1 else w0
section two
variable {w0 w1 w2 : World} {a b : Nat} {p : Nat → Bool}
theorem two_other {i : Nat} (h1 : i ≠ a) (h2 : i ≠ b) : two w0 w1 w2 a b (fun j => j == i || p j) = two w0 w1 w2 a b p := by
  simp [two, Ne.symm h1, Ne.symm h2]
theorem two_cong {n : Nat} (ha : a < n) (hb : b < n) (p q : Nat → Bool) (h : ∀ j, j < n → p j = q j) : two w0 w1 w2 a b p = two w0 w1 w2 a b q := by
  simp [two, h a ha, h b hb]
theorem two_a (hab : a ≠ b) (h1 : p a = false) (h2 : p b = false) : two w0 w1 w2 a b p = w0 ∧ two w0 w1 w2 a b (fun j => j == a || p j) = w1 := by
  simp [two, h1, h2, Ne.symm hab]
theorem two_b (h1 : p a = true) (h2 : p b = false) : two w0 w1 w2 a b p = w1 ∧ two w0 w1 w2 a b (fun j => j == b || p j) = w2 := by
  simp [two, h1, h2]
theorem two_all {X : World → Prop} (h0 : X w0) (h1 : X w1) (h2 : X w2) (p : Nat → Bool) : X (two w0 w1 w2 a b p) := by
  unfold two; split
  · exact h2
  · split
    · exact h1
    · exact h0
end two
/-- the worlds of a region with one store -/
def one (w0 w1 : World) (a : Nat) (p : Nat → Bool) : World := if p a = true then w1 else w0
section one
variable {w0 w1 : World} {a : Nat} {p : Nat → Bool}
theorem one_other {i : Nat} (h1 : i ≠ a) : one w0 w1 a (fun j => j == i || p j) = one w0 w1 a p := by
  simp [one, Ne.symm h1]
theorem one_cong {n : Nat} (ha : a < n) (p q : Nat → Bool) (h : ∀ j, j < n → p j = q j) : one w0 w1 a p = one w0 w1 a q := by
  simp [one, h a ha]
theorem one_a (h1 : p a = false) : one w0 w1 a p = w0 ∧ one w0 w1 a (fun j => j == a || p j) = w1 := by
  simp [one, h1]
theorem one_all {X : World → Prop} (h0 : X w0) (h1 : X w1) (p : Nat → Bool) : X (one w0 w1 a p) := by
  unfold one; split
  · exact h1
  · exact h0
end one
end Go.Proofs.YtomjnjpehokjbaaGreatDoor

namespace Go.Proofs.YtomjnjpehokjbaaGreatDoor

theorem cast_md (r x d : Nat) : ((r : Int) * 1000000000 + (x : Int)) % (d : Int) = (((r * 1000000000 + x) % d : Nat) : Int) := by
  rw [Int.natCast_emod, Int.natCast_add, Int.natCast_mul]; rfl
theorem cast_dv (r x d : Nat) : ((r : Int) * 1000000000 + (x : Int)) / (d : Int) = (((r * 1000000000 + x) / d : Nat) : Int) := by
  rw [Int.natCast_ediv, Int.natCast_add, Int.natCast_mul]; rfl
theorem short_step (Q r d x : Nat) (hd : 0 < d) :
    (x + 1000000000 * (d * Q + r)) / d = (r * 1000000000 + x) / d + 1000000000 * Q ∧ (x + 1000000000 * (d * Q + r)) % d = (r * 1000000000 + x) % d := by
  have e : x + 1000000000 * (d * Q + r) = (r * 1000000000 + x) + d * (1000000000 * Q) := by grind
  rw [e]
  exact ⟨Nat.add_mul_div_left _ _ hd, Nat.add_mul_mod_self_left _ _ _⟩
theorem short_lt (r d x : Nat) (hr : r < d) (hx : x < 1000000000) : (r * 1000000000 + x) / d < 1000000000 := by
  rw [Nat.div_lt_iff_lt_mul (by omega)]
  have := Nat.mul_le_mul_right 1000000000 (show r + 1 ≤ d from hr)
  omega
/-- what the loop's step does to the whole -/
theorem short_val {xs out : List Nat} {q d r n : Nat} (hd : 0 < d) (hn : xs.length = n) (ho : out.length = n) (hq : q < n) (hr : r = val (xs.drop (q + 1)) % d) (hv : val (out.drop (q + 1)) = val (xs.drop (q + 1)) / d) :
    (r * 1000000000 + ix xs q) % d = val (xs.drop q) % d ∧ val ((out.set q ((r * 1000000000 + ix xs q) / d)).drop q) = val (xs.drop q) / d := by
  have e := Nat.div_add_mod (val (xs.drop (q + 1))) d
  have h1 := val_drop xs q (by omega)
  have h2 := short_step (val (xs.drop (q + 1)) / d) r d (ix xs q) hd
  rw [← hr] at e
  rw [e] at h2
  rw [← h1] at h2
  refine ⟨h2.2.symm, ?_⟩
  rw [val_drop (out.set q _) q (by simpa [ho] using hq), ix_set out q _ q (by omega), if_pos rfl, List.drop_set_of_lt (by omega), hv, h2.1]

/-- the greatest k with 2^k at most m, -1 for 0 -/
def log2 (m : Nat) : Int := if m = 0 then -1 else (Nat.log2 m : Nat)
theorem log2_zero : log2 0 = -1 := rfl
theorem log2_pos {m : Nat} (h : m ≠ 0) : log2 m = (Nat.log2 m : Nat) := if_neg h
theorem log2_is {m k : Nat} (h1 : 2 ^ k ≤ m) (h2 : m < 2 ^ (k + 1)) : log2 m = (k : Nat) := by
  have h0 : m ≠ 0 := by have := Nat.two_pow_pos k; omega
  rw [log2_pos h0, (Nat.log2_eq_iff h0).2 ⟨h1, h2⟩]
theorem log2_half {m : Nat} (h : m ≠ 0) : log2 m = log2 (m / 2) + 1 := by
  rw [log2_pos h]
  by_cases h2 : m / 2 = 0
  · have : m = 1 := by omega
    subst this; rfl
  · rw [log2_pos h2]
    have := Nat.log2_def m
    rw [if_pos (by omega)] at this
    omega
theorem log2_shift : ∀ (k m : Nat), 2 ^ k ≤ m → log2 m = log2 (m / 2 ^ k) + k
  | 0, m, _ => by simp
  | k + 1, m, h => by
    have hp := Nat.two_pow_pos k
    rw [Nat.pow_succ] at h
    rw [log2_half (by omega), log2_shift k (m / 2) (by omega), Nat.div_div_eq_div_mul, Nat.pow_succ, Nat.mul_comm 2]
    omega
theorem log2_ge (m : Nat) : -1 ≤ log2 m := by unfold log2; split <;> omega
theorem log2_lt {m K : Nat} (h : m < 2 ^ K) : log2 m < (K : Nat) := by
  by_cases h0 : m = 0
  · subst h0; rw [log2_zero]; omega
  · rw [log2_pos h0]
    have := (Nat.log2_lt h0).2 h
    omega
theorem log2_len (m : Nat) : log2 m < 30 * (dig m).length := by
  have h1 := dig_lt m
  have h2 : 1000000000 ^ (dig m).length ≤ (2 ^ 30) ^ (dig m).length := Nat.pow_le_pow_left (by omega) _
  rw [← Nat.pow_mul] at h2
  exact log2_lt (Nat.lt_of_lt_of_le h1 h2)
theorem log2_29 {r : Nat} (h : 1 < (dig r).length) : log2 r = log2 (r / 536870912) + 29 := by
  have h1 := dig_ge (n := r) (by intro e; rw [e, dig_zero] at h; simp at h)
  have h2 : 1000000000 ^ 1 ≤ 1000000000 ^ ((dig r).length - 1) := Nat.pow_le_pow_right (by omega) (by omega)
  exact log2_shift 29 r (by omega)
theorem ix_small {r : Nat} (h : (dig r).length ≤ 1) : ix (dig r) 0 = r := by
  by_cases h0 : r = 0
  · subst h0; rw [dig_zero]; rfl
  · have := dig_lt r
    have h2 : 1000000000 ^ (dig r).length ≤ 1000000000 ^ 1 := Nat.pow_le_pow_right (by omega) h
    rw [dig_small h0 (by omega)]; rfl
end Go.Proofs.YtomjnjpehokjbaaGreatDoor

namespace Go.Proofs.YtomjnjpehokjbaaGreatDoor
open Go.RowKit Go.Shelf

set_option maxRecDepth 100000 in
set_option maxHeartbeats 400000 in
theorem rshort_any (v : Value) (m d : Nat) (w : World) (h : U32 w v (dig m)) (hl : (dig m).length ≤ 1000000) (hd : 0 < d) (hdb : d ≤ 1000000000) :
    Calls Tryz.prog 124 #[v, .int .u64 (d : Nat)] w fun e w' => ∃ v', e = .returned (.tuple #[v', .int .u64 ((m % d : Nat) : Int)]) ∧ U32 w' v' (dig (m / d)) ∧ Keeps w w' := by
  obtain ⟨A, n, c, rfl, e1, hc, -, h0, hr⟩ := h.open_
  have hn : n ≤ 1000000 := by omega
  have hmk := make_u32 n n rfl (by omega)
  have hown := Own.new w 51 (u32s (List.replicate n 0))
  have hk : Keeps w (w.alloc (.cells (u32s (List.replicate n 0)).toArray 51)) := (Below.refl _ _).alloc (Nat.le_refl _) _
  have hdI : (0 : Int) < (d : Int) := by omega
  have hdB : (d : Int) ≤ 1000000000 := by omega
  have HE := Lib.hid e1
  clear e1 h
  go_enter Tryz.func124, Tryz.ntmps124
  go_wp2
  go_loopw [7, 8, 9] (fun r i _ wr => ∃ (k rr : Nat) (out : List Nat), k ≤ n ∧ i = .int .i64 ((n : Int) - 1 - (k : Nat)) ∧ r = .int .u64 (rr : Nat) ∧ rr = val ((dig m).drop (n - k)) % d ∧ out.length = n ∧ AllB out ∧ val (out.drop (n - k)) = val ((dig m).drop (n - k)) / d ∧
      Own wr w.heap.size 51 (u32s out) ∧ Keeps w wr)
    (fun _ i _ _ => (intOf i + 1).toNat)
  case atStart => exact ⟨0, 0, List.replicate n 0, by omega, by go_num, rfl, by rw [List.drop_of_length_le (by rw [HE.out]; omega)]; simp [val], by simp, AllB.replicate n, by rw [List.drop_of_length_le (by simp), List.drop_of_length_le (by rw [HE.out]; omega)]; simp [val], hown, hk⟩
  case round =>
    obtain ⟨k, rr, out, hkn, rfl, rfl, hrr, hol, hob, hval, hown1, hk1⟩ := hrel
    by_cases hlt : k < n
    · obtain ⟨q, hq⟩ : ∃ q, n - 1 - k = q := ⟨_, rfl⟩
      have e : (n : Int) - 1 - (k : Int) = (q : Int) := by omega
      rw [e]
      clear e
      rw [show n - k = q + 1 by omega] at hrr hval
      have hqn : q < n := by omega
      have h00 : (0 : Int) ≤ (q : Int) := by omega
      have h01 : (q : Int) < (n : Int) := by omega
      have hsv := short_val hd HE.out hol hqn hrr hval
      have hrd : rr < d := by rw [hrr]; exact Nat.mod_lt _ hd
      have hxb := (AllB.dig m).ix q
      have hsl := short_lt rr d (ix (dig m) q) hrd hxb
      obtain ⟨b1, o1, rfl, hb1, hcell⟩ := (hr.below hk1) (by omega)
      have hx : wr.cell? ⟨b1, o1 + q, none⟩ = some (.int .u32 (ix (dig m) q : Nat)) := hcell q hqn
      have hc0 := hown1.u32cell (i := q) (by rw [hol]; exact hqn)
      have hf0 := hown1.frozen q
      clear hcell
      generalize ix (dig m) q = x at *
      have hI1 : (rr : Int) ≤ 1000000000 := by omega
      have hI2 : (x : Int) < 1000000000 := by omega
      have hI3 : ((rr : Int) * 1000000000 + (x : Int)) / (d : Int) < 1000000000 := by rw [cast_dv]; exact Int.ofNat_lt.2 hsl
      have hI4 : 0 ≤ ((rr : Int) * 1000000000 + (x : Int)) / (d : Int) := by rw [cast_dv]; exact Int.natCast_nonneg _
      have HQ := Lib.hid hq
      have HV := Lib.hid hval
      have HL := Lib.hid hol
      have HS := Lib.hid hsv
      have HB := Lib.hid hsl
      clear hq hrr hval hol hsv hsl hrd hxb
      go_wp2
      go_roundw
      case rel => exact ⟨k + 1, (rr * 1000000000 + x) % d, out.set q ((rr * 1000000000 + x) / d), by omega, by have := HQ.out; congr 1; omega, congrArg (Value.int .u64) (cast_md rr x d), by rw [show n - (k + 1) = q by have := HQ.out; omega]; exact HS.out.1, by rw [List.length_set]; exact HL.out,
        hob.set _ _ HB.out, by rw [show n - (k + 1) = q by have := HQ.out; omega]; exact HS.out.2, hown1.put q _ (cast_dv rr x d), hk1.setCell (Nat.le_refl _) _⟩
      case measure => have := HQ.out; simp [intOf]
    · obtain rfl : k = n := by omega
      rw [Nat.sub_self, List.drop_zero] at hrr hval
      rw [List.drop_zero] at hval
      rw [val_dig] at hrr hval
      have HR := Lib.hid hrr
      have HV := Lib.hid hval
      have HL := Lib.hid hol
      clear hrr hval hol
      go_wp2_with fail
      refine (rmade_u false _ out _ (by rw [← HL.out]; exact U32.mk hown1.row (Nat.le_refl _) (by rw [HL.out]; simp only [maxLen]; omega) (by intro e; cases e)) hob (by rw [HL.out]; omega)).mono ?_
      rintro e w3 ⟨V3, rfl, hr3, hk3⟩
      obtain ⟨A3, n3, c3, rfl, hv3⟩ := hr3.open_
      have hfd := field_groups (.bool (decide (sgn false (val out) < 0))) (.slice A3 n3 c3)
      go_wp2
      go_ret2
      rw [sgn_natAbs, HV.out] at hv3
      exact ⟨_, by rw [← HR.out]; rfl, hv3, hk1.trans' hk3⟩
end Go.Proofs.YtomjnjpehokjbaaGreatDoor
