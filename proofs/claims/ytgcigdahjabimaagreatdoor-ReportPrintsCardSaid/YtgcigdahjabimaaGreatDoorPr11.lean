/- A region that draws its order, whose operations yield known values and whose stores come in one order: the law, outside of a round and in one. No program in sight. Division by one group: plain arithmetic; the binary logarithm. The walk of the reference's short. The walk of short. A row of the call's own, in a block that may have room behind it. No program in sight. Long division in groups: plain arithmetic, no program in sight. -/
import Derived.Test.YtgcigdahjabimaaGreatDoorPr10
import Derived.Test.YtgcigdahjabimaaGreatDoorPr1
import Derived.Test.YtgcigdahjabimaaGreatDoorPr5
import Derived.Test.YtgcigdahjabimaaGreatDoorPr2
import Derived.Test.YtgcigdahjabimaaGreatDoorPr3
import Derived.Maps.AppendAt
namespace Go.Proofs.YtgcigdahjabimaaGreatDoor
open Go.RowKit Go.Shelf

section det
variable {P : Program} {ops : Array Oper} {Q : Exit → Act → World → Prop} {vals : Nat → Value} {a0 : Act} {W : (Nat → Bool) → World}

def StepDet (P : Program) (ops : Array Oper) (vals : Nat → Value) (a0 : Act) (W : (Nat → Bool) → World) (i : Nat) : Prop :=
 ∀ p : Nat → Bool, p i = false → (∀ j ∈ bindsOf ops i, p j = true) → (∀ j k, p j = true → k ∈ bindsOf ops j → p k = true) → ∀ K : Act → World → Prop,
  K ((fr ops vals a0 (depsOf ops ops.size i)).put (dstOf ops i) (vals i)) (W (fun j => j == i || p j)) → wpOp P ops (fun _ _ _ => False) i K (fr ops vals a0 (depsOf ops ops.size i)) (W p)

theorem det_any (hok : RegionOk ops ops.size) (hW : ∀ p q : Nat → Bool, (∀ j, j < ops.size → p j = q j) → W p = W q) (hstep : ∀ i, i < ops.size → StepDet P ops vals a0 W i)
 (hend : Q .normal (fr ops vals a0 (List.range ops.size)) (W (fun _ => true))) :
 ∀ (fuel : Nat) (l : List Nat) (listed : Array Bool), l.Nodup → (∀ j ∈ l, j < ops.size) → ops.size ≤ l.length + fuel → listed.size = ops.size →
  (∀ j, j < ops.size → (listed.getD j false = true ↔ j ∈ l)) → (∀ j ∈ l, ∀ k ∈ bindsOf ops j, k ∈ l) → wpAny P .any ops Q fuel listed (fr ops vals a0 l) (W (fun j => decide (j ∈ l))) := by
 have fin : ∀ l : List Nat, (∀ j ∈ l, j < ops.size) → (∀ j, j < ops.size → j ∈ l) → Q .normal (fr ops vals a0 l) (W (fun j => decide (j ∈ l))) := fun l hl hall => by
  have hfr : fr ops vals a0 l = fr ops vals a0 (List.range ops.size) := by
   have ht : (fr ops vals a0 l).tmps = (fr ops vals a0 (List.range ops.size)).tmps := Array.ext_getElem? fun t => fr_same
    (fun j k hj hk hdj hdk => hok.apart j k (hj.elim (hl j) List.mem_range.1) (hk.elim (hl k) List.mem_range.1) t hdj hdk) (fun j _ => ⟨fun h => List.mem_range.2 (hl j h), fun h => hall j (List.mem_range.1 h)⟩)
   exact act_ext ht (by rw [fr_defers, fr_defers])
  rw [hfr, hW _ (fun _ => true) (fun j hj => by simp [hall j hj])]
  exact hend
 intro fuel
 induction fuel with
 | zero =>
  intro l listed hn hl hf hsz hll hcl
  have hall : ∀ j, j < ops.size → j ∈ l := fun j hj => Classical.byContradiction fun hc => by
   have := nodup_len ops.size (j :: l) (List.nodup_cons.2 ⟨hc, hn⟩) (fun x hx => by rcases List.mem_cons.1 hx with rfl | h; exact hj; exact hl x h)
   simp at this
   omega
  refine ⟨?_, fin l hl hall⟩
  refine List.eq_nil_iff_forall_not_mem.2 fun j hj => ?_
  obtain ⟨h0, hlt, -⟩ := ready_iff.1 hj
  rw [getD_both (by omega), (hll j hlt).2 (hall j hlt)] at h0
  cases h0
 | succ fuel ih =>
  intro l listed hn hl hf hsz hll hcl
  refine ⟨fun e => ?_, fun i hi => ?_⟩
  ·refine fin l hl fun j0 hj0 => Classical.byContradiction fun hjl0 => ?_
   obtain ⟨j, ⟨hj, hjl⟩, hmin⟩ := least (p := fun j => j < ops.size ∧ j ∉ l) ⟨j0, hj0, hjl0⟩
   have : j ∈ Region.ready .any ops listed := by
    refine ready_iff.2 ⟨?_, hj, fun k hk => ?_⟩
    ·rw [getD_both (by omega)]
     cases hc : listed.getD j false with
     | false => rfl
     | true => exact absurd ((hll j hj).1 hc) hjl
    ·have hkj := hok.back j k hk
     refine (hll k (by omega)).2 (Classical.byContradiction fun hkl => hmin k hkj ⟨by omega, hkl⟩)
   rw [e] at this
   cases this
  ·obtain ⟨h0, hlt, hb⟩ := ready_iff.1 hi
   have hbl : ∀ j ∈ bindsOf ops i, j ∈ l := fun j hj => (hll j (by have := hok.back i j hj; omega)).1 (hb j hj)
   have hil : i ∉ l := fun h => by
    have := (hll i hlt).2 h
    rw [getD_both (by omega), this] at h0
    cases h0
   obtain ⟨o, ho, hsel⟩ := hok.noSel i hlt
   have hsel' : ∀ cs b, o.op ≠ .select cs b := fun cs b e => by simp [isSel, e] at hsel
   have heval : ∀ t, t ∈ o.looksAt ops → (fr ops vals a0 l).tmps[t]? = (fr ops vals a0 (depsOf ops ops.size i)).tmps[t]? := fun t ht => looks_fr hok hlt ho hl hbl ht
   have he : execOp (fr ops vals a0 l).eval o = execOp (fr ops vals a0 (depsOf ops ops.size i)).eval o := execOp_congr o hsel' fun x hx => by
    cases x with
    | tmp t =>
     have := heval t (List.mem_append_left _ (List.mem_filterMap.2 ⟨.tmp t, by simpa using hx, rfl⟩))
     simp only [Act.eval, Array.getD_eq_getD_getElem?, this]
    | _ => rfl
   have hw : Region.wanted o (yielded ops (fr ops vals a0 l).tmps) = Region.wanted o (yielded ops (fr ops vals a0 (depsOf ops ops.size i)).tmps) := by
    unfold Region.wanted
    cases hg : o.guard with
    | none => rfl
    | some gw =>
     obtain ⟨g, want⟩ := gw
     have : yielded ops (fr ops vals a0 l).tmps g = yielded ops (fr ops vals a0 (depsOf ops ops.size i)).tmps g := by
      unfold yielded
      cases ht : (ops[g]?).bind (·.dst) with
      | none => rfl
      | some t =>
       have := heval t (by simp [Oper.looksAt, hg, ht])
       simp only [Option.bind_some, this]
     simp only [this]
   have hdst : dstOf ops i = o.dst := by simp [dstOf, ho]
   have hs := hstep i hlt (fun j => decide (j ∈ l)) (by simpa using hil) (fun j hj => by simpa using hbl j hj) (fun j k hj hk => by simpa using hcl j (by simpa using hj) k hk)
   have hmove := wpOp_move (P := P) (Q := Q) (X := fun v w' => v = vals i ∧ w' = W (fun j => j == i || decide (j ∈ l))) ho he hw (by rw [fr_size, fr_size]) (fun K hK => hs K (hdst ▸ hK _ _ ⟨rfl, rfl⟩))
   refine wpOp_mono (fun a' w' hX => ?_) hmove
   obtain ⟨v, rfl, rfl, rfl⟩ := hX
   have hfr : (fr ops vals a0 l).put o.dst (vals i) = fr ops vals a0 (i :: l) := by rw [fr, hdst]
   rw [hfr, hW (fun j => j == i || decide (j ∈ l)) (fun j => decide (j ∈ i :: l)) (fun j _ => by by_cases e : j = i <;> simp [e])]
   refine ih (i :: l) _ (List.nodup_cons.2 ⟨hil, hn⟩) (fun j hj => ?_) (by simp only [List.length_cons]; omega) (by simpa using hsz) (fun j hj => ?_) (fun j hj k hk' => ?_)
   ·rcases List.mem_cons.1 hj with rfl | h
    ·exact hlt
    ·exact hl j h
   ·by_cases hji : j = i
    ·subst hji
     simp [hsz, hlt]
    ·rw [getD_set_ne false (Ne.symm hji), hll j hj]
     simp [hji]
   ·rcases List.mem_cons.1 hj with rfl | h
    ·exact List.mem_cons_of_mem _ (hbl k hk')
    ·exact List.mem_cons_of_mem _ (hcl j h k hk')

theorem wp_region_det {id : Nat} {w0 : World} (hm : P.follows .mixedOrders = true) (hok : regionOk ops ops.size = true) (vals : Nat → Value) (W : (Nat → Bool) → World) (h0 : W (fun _ => false) = w0.drew)
 (hW : ∀ p q : Nat → Bool, (∀ j, j < ops.size → p j = q j) → W p = W q) (hstep : ∀ i, i < ops.size → StepDet P ops vals a0 W i)
 (hend : Q .normal (fr ops vals a0 (List.range ops.size)) (W (fun _ => true))) : (Code.region id ops true).wp P Q a0 w0 := by
 refine wp_region_any hm ?_
 have := det_any (P := P) (Q := Q) (regionOk_spec hok) hW hstep hend ops.size [] (Array.replicate ops.size false) List.nodup_nil (fun _ h => by cases h) (by simp) (by simp) (fun j hj => by simp [hj]) (fun _ h => by cases h)
 rw [show W (fun j => decide (j ∈ [])) = w0.drew from by rw [← h0]; rfl] at this
 exact this
theorem wpIn_region_det {id l n : Nat} {w0 : World} (hm : P.follows .mixedOrders = true) (hok : regionOk ops ops.size = true) (hnd : noDefer ops = true) (vals : Nat → Value) (W : (Nat → Bool) → World) (h0 : W (fun _ => false) = w0.drew)
 (hW : ∀ p q : Nat → Bool, (∀ j, j < ops.size → p j = q j) → W p = W q) (hstep : ∀ i, i < ops.size → StepDet P ops vals a0 W i)
 (hend : Q .normal (fr ops vals a0 (List.range ops.size)) (W (fun _ => true))) : (Code.region id ops true).wpIn (Fence.wide.inRound l) n P Q a0 w0 := by
 refine wpIn_region_any hm (wpAnyIn_of (noDefer_spec hnd) _ _ _ _ ?_)
 have := det_any (P := P) (Q := onlyN Q) (regionOk_spec hok) hW hstep hend ops.size [] (Array.replicate ops.size false) List.nodup_nil (fun _ h => by cases h) (by simp) (by simp) (fun j hj => by simp [hj]) (fun _ h => by cases h)
 rw [show W (fun j => decide (j ∈ [])) = w0.drew from by rw [← h0]; rfl] at this
 exact this
theorem stepDet_at {i : Nat} {o : Oper} (ds : List (Nat × Option Tmp)) (d : Option Tmp) (hi : ops[i]? = some o) (hdd : dstOf ops i = d) (hg : o.guard = none) (hl : (depsOf ops ops.size i).map (fun j => (j, dstOf ops j)) = ds)
 (h : ∀ p : Nat → Bool, p i = false → (∀ j ∈ bindsOf ops i, p j = true) → (∀ j k, p j = true → k ∈ bindsOf ops j → p k = true) → ∀ K : Act → World → Prop,
  K ((frD vals a0 ds).put d (vals i)) (W (fun j => j == i || p j)) → Oper.wp P o (frD vals a0 ds) (W p) K (fun _ _ _ => False)) : StepDet P ops vals a0 W i := by
 intro p h1 h2 h3 K hK
 rw [fr_frD, hl, hdd] at hK
 rw [fr_frD, hl]
 unfold wpOp
 have hw : Region.wanted o (yielded ops (frD vals a0 ds).tmps) = true := by simp [Region.wanted, hg]
 simp only [hi, hw, if_true]
 exact .inl (h p h1 h2 h3 K hK)
end det
def two (w0 w1 w2 : World) (a b : Nat) (p : Nat → Bool) : World := if p b = true then w2 else if p a = true then w1 else w0
section two
variable {w0 w1 w2 : World} {a b : Nat} {p : Nat → Bool}
theorem two_other {i : Nat} (h1 : i ≠ a) (h2 : i ≠ b) : two w0 w1 w2 a b (fun j => j == i || p j) = two w0 w1 w2 a b p := by
 simp [two, Ne.symm h1, Ne.symm h2]
theorem two_cong {n : Nat} (ha : a < n) (hb : b < n) (p q : Nat → Bool) (h : ∀ j, j < n → p j = q j) : two w0 w1 w2 a b p = two w0 w1 w2 a b q := by
 simp [two, h a ha, h b hb]
theorem two_a (hab : a ≠ b) (h1 : p a = false) (h2 : p b = false) : two w0 w1 w2 a b p = w0 ∧ two w0 w1 w2 a b (fun j => j == a || p j) = w1 := by
 simp [two, h1, h2, Ne.symm hab]
theorem two_b (h1 : p a = true) (h2 : p b = false) : two w0 w1 w2 a b p = w1 ∧ two w0 w1 w2 a b (fun j => j == b || p j) = w2 := by
 simp [two, h1, h2]
theorem two_all {X : World → Prop} (h0 : X w0) (h1 : X w1) (h2 : X w2) (p : Nat → Bool) : X (two w0 w1 w2 a b p) := by
 unfold two; split
 ·exact h2
 ·split
  ·exact h1
  ·exact h0
end two
def one (w0 w1 : World) (a : Nat) (p : Nat → Bool) : World := if p a = true then w1 else w0
section one
variable {w0 w1 : World} {a : Nat} {p : Nat → Bool}
theorem one_other {i : Nat} (h1 : i ≠ a) : one w0 w1 a (fun j => j == i || p j) = one w0 w1 a p := by
 simp [one, Ne.symm h1]
theorem one_cong {n : Nat} (ha : a < n) (p q : Nat → Bool) (h : ∀ j, j < n → p j = q j) : one w0 w1 a p = one w0 w1 a q := by
 simp [one, h a ha]
theorem one_a (h1 : p a = false) : one w0 w1 a p = w0 ∧ one w0 w1 a (fun j => j == a || p j) = w1 := by
 simp [one, h1]
theorem one_all {X : World → Prop} (h0 : X w0) (h1 : X w1) (p : Nat → Bool) : X (one w0 w1 a p) := by
 unfold one; split
 ·exact h1
 ·exact h0
end one
end Go.Proofs.YtgcigdahjabimaaGreatDoor
namespace Go.Proofs.YtgcigdahjabimaaGreatDoor

theorem cast_md (r x d : Nat) : ((r : Int) * 1000000000 + (x : Int)) % (d : Int) = (((r * 1000000000 + x) % d : Nat) : Int) := by
 rw [Int.natCast_emod, Int.natCast_add, Int.natCast_mul]; rfl
theorem cast_dv (r x d : Nat) : ((r : Int) * 1000000000 + (x : Int)) / (d : Int) = (((r * 1000000000 + x) / d : Nat) : Int) := by
 rw [Int.natCast_ediv, Int.natCast_add, Int.natCast_mul]; rfl
theorem short_step (Q r d x : Nat) (hd : 0 < d) :
 (x + 1000000000 * (d * Q + r)) / d = (r * 1000000000 + x) / d + 1000000000 * Q ∧ (x + 1000000000 * (d * Q + r)) % d = (r * 1000000000 + x) % d := by
 have e : x + 1000000000 * (d * Q + r) = (r * 1000000000 + x) + d * (1000000000 * Q) := by grind
 rw [e]
 exact ⟨Nat.add_mul_div_left _ _ hd, Nat.add_mul_mod_self_left _ _ _⟩
theorem short_lt (r d x : Nat) (hr : r < d) (hx : x < 1000000000) : (r * 1000000000 + x) / d < 1000000000 := by
 rw [Nat.div_lt_iff_lt_mul (by omega)]
 have := Nat.mul_le_mul_right 1000000000 (show r + 1 ≤ d from hr)
 omega
theorem short_val {xs out : List Nat} {q d r n : Nat} (hd : 0 < d) (hn : xs.length = n) (ho : out.length = n) (hq : q < n) (hr : r = val (xs.drop (q + 1)) % d) (hv : val (out.drop (q + 1)) = val (xs.drop (q + 1)) / d) :
 (r * 1000000000 + ix xs q) % d = val (xs.drop q) % d ∧ val ((out.set q ((r * 1000000000 + ix xs q) / d)).drop q) = val (xs.drop q) / d := by
 have e := Nat.div_add_mod (val (xs.drop (q + 1))) d
 have h1 := val_drop xs q (by omega)
 have h2 := short_step (val (xs.drop (q + 1)) / d) r d (ix xs q) hd
 rw [← hr] at e
 rw [e] at h2
 rw [← h1] at h2
 refine ⟨h2.2.symm, ?_⟩
 rw [val_drop (out.set q _) q (by simpa [ho] using hq), ix_set out q _ q (by omega), if_pos rfl, List.drop_set_of_lt (by omega), hv, h2.1]

end Go.Proofs.YtgcigdahjabimaaGreatDoor
namespace Go.Proofs.YtgcigdahjabimaaGreatDoor
open Go.RowKit Go.Shelf

set_option maxRecDepth 100000 in
set_option maxHeartbeats 400000 in
theorem rshort_any (v : Value) (m d : Nat) (w : World) (h : U32 w v (dig m)) (hl : (dig m).length ≤ 1000000) (hd : 0 < d) (hdb : d ≤ 1000000000) :
 Calls Tryz.prog 149 #[v, .int .u64 (d : Nat)] w fun e w' => ∃ v', e = .returned (.tuple #[v', .int .u64 ((m % d : Nat) : Int)]) ∧ U32 w' v' (dig (m / d)) ∧ Keeps w w' := by
 obtain ⟨A, n, c, rfl, e1, hc, -, h0, hr⟩ := h.open_
 have hn : n ≤ 1000000 := by omega
 have hmk := make_u32 n n rfl (by omega)
 have hown := Own.new w 109 (u32s (List.replicate n 0))
 have hk : Keeps w (w.alloc (.cells (u32s (List.replicate n 0)).toArray 109)) := bl.alloc (Nat.le_refl _) _
 have hdI : (0 : Int) < (d : Int) := by omega
 have hdB : (d : Int) ≤ 1000000000 := by omega
 have HE := Lib.hid e1
 clear e1 h
 go_enter Tryz.func149, Tryz.ntmps149
 go_wp2
 go_loopw [7, 8, 9] (fun r i _ wr => ∃ (k rr : Nat) (out : List Nat), k ≤ n ∧ i = .int .i64 ((n : Int) - 1 - (k : Nat)) ∧ r = .int .u64 (rr : Nat) ∧ rr = val ((dig m).drop (n - k)) % d ∧ out.length = n ∧ AllB out ∧ val (out.drop (n - k)) = val ((dig m).drop (n - k)) / d ∧
  Own wr w.heap.size 109 (u32s out) ∧ Keeps w wr)
  (fun _ i _ _ => (intOf i + 1).toNat)
 case atStart => exact ⟨0, 0, List.replicate n 0, by omega, by go_num, rfl, by rw [List.drop_of_length_le (by rw [HE.out]; omega)]; simp [val], by simp, AllB.replicate n, by rw [List.drop_of_length_le (by simp), List.drop_of_length_le (by rw [HE.out]; omega)]; simp [val], hown, hk⟩
 case round =>
  obtain ⟨k, rr, out, hkn, rfl, rfl, hrr, hol, hob, hval, hown1, hk1⟩ := hrel
  by_cases hlt : k < n
  ·obtain ⟨q, hq⟩ : ∃ q, n - 1 - k = q := ⟨_, rfl⟩
   have e : (n : Int) - 1 - (k : Int) = (q : Int) := by omega
   rw [e]
   clear e
   rw [show n - k = q + 1 by omega] at hrr hval
   have hqn : q < n := by omega
   have h00 : (0 : Int) ≤ (q : Int) := by omega
   have h01 : (q : Int) < (n : Int) := by omega
   have hsv := short_val hd HE.out hol hqn hrr hval
   have hrd : rr < d := by rw [hrr]; exact Nat.mod_lt _ hd
   have hxb := (AllB.dig m).ix q
   have hsl := short_lt rr d (ix (dig m) q) hrd hxb
   obtain ⟨b1, o1, rfl, hb1, hcell⟩ := (hr.below hk1) (by omega)
   have hx : wr.cell? ⟨b1, o1 + q, none⟩ = some (.int .u32 (ix (dig m) q : Nat)) := hcell q hqn
   have hc0 := hown1.u32cell (i := q) (by rw [hol]; exact hqn)
   have hf0 := hown1.frozen q
   clear hcell
   generalize ix (dig m) q = x at *
   have hI1 : (rr : Int) ≤ 1000000000 := by omega
   have hI2 : (x : Int) < 1000000000 := by omega
   have hI3 : ((rr : Int) * 1000000000 + (x : Int)) / (d : Int) < 1000000000 := by rw [cast_dv]; exact Int.ofNat_lt.2 hsl
   have hI4 : 0 ≤ ((rr : Int) * 1000000000 + (x : Int)) / (d : Int) := by rw [cast_dv]; exact Int.natCast_nonneg _
   have HQ := Lib.hid hq
   have HV := Lib.hid hval
   have HL := Lib.hid hol
   have HS := Lib.hid hsv
   have HB := Lib.hid hsl
   clear hq hrr hval hol hsv hsl hrd hxb
   go_wp2
   go_roundw
   case rel => exact ⟨k + 1, (rr * 1000000000 + x) % d, out.set q ((rr * 1000000000 + x) / d), by omega, by have := HQ.out; congr 1; omega, congrArg (Value.int .u64) (cast_md rr x d), by rw [show n - (k + 1) = q by have := HQ.out; omega]; exact HS.out.1, by rw [List.length_set]; exact HL.out,
    hob.set _ _ HB.out, by rw [show n - (k + 1) = q by have := HQ.out; omega]; exact HS.out.2, hown1.put q _ (cast_dv rr x d), hk1.setCell (Nat.le_refl _) _⟩
   case measure => have := HQ.out; simp [intOf]
  ·obtain rfl : k = n := by omega
   rw [Nat.sub_self, List.drop_zero] at hrr hval
   rw [List.drop_zero] at hval
   rw [val_dig] at hrr hval
   have HR := Lib.hid hrr
   have HV := Lib.hid hval
   have HL := Lib.hid hol
   clear hrr hval hol
   go_wp2_with fail
   refine (rmade_u false _ out _ (by rw [← HL.out]; exact U32.mk hown1.row (Nat.le_refl _) (by rw [HL.out]; simp only [maxLen]; omega) (by intro e; cases e)) hob (by rw [HL.out]; omega)).mono ?_
   rintro e w3 ⟨V3, rfl, hr3, hk3⟩
   obtain ⟨A3, n3, c3, rfl, hv3⟩ := hr3.open_
   have hfd := field_groups (.bool (decide (sgn false (val out) < 0))) (.slice A3 n3 c3)
   go_wp2
   go_ret2
   rw [sgn_natAbs, HV.out] at hv3
   exact ⟨_, by rw [← HR.out]; rfl, hv3, hk1.trans' hk3⟩
attribute [local go_sem] Oper.semAt_some

def shortV (bo n q N d : Nat) : Nat → Value
 | 0 => .slice (some ⟨bo, 0, none⟩) n n
 | 1 => .int .i64 (q : Nat)
 | 2 => .int .u64 (N : Nat)
 | 3 => .int .u32 (d : Nat)
 | 4 => .int .u64 (d : Nat)
 | 5 => .int .u64 ((N : Int) / (d : Int))
 | 6 => .int .u32 ((N : Int) / (d : Int))
 | 7 => .int .u64 (N : Nat)
 | 8 => .int .u32 (d : Nat)
 | 9 => .int .u64 (d : Nat)
 | 10 => .int .u64 ((N : Int) % (d : Int))
 | 11 => .pointer (some ⟨bo, q, none⟩)
 | _ => undef
def shortE (bo n l rr : Nat) : Nat → Value
 | 0 => .slice (some ⟨bo, 0, none⟩) n n
 | 1 => .slice (some ⟨bo, 0, none⟩) l n
 | 2 => .int .u64 (rr : Nat)
 | 3 => .int .u32 (rr : Nat)
 | 5 => .int .u32 (rr : Nat)
 | _ => undef
set_option maxRecDepth 100000 in
set_option maxHeartbeats 2000000 in
theorem mshort_any (v : Value) (m d : Nat) (w : World) (h : U32 w v (dig m)) (hl : (dig m).length ≤ 1000000) (hd : 0 < d) (hdb : d < 1000000000) :
 Calls Tryz.prog 169 #[v, .int .u32 (d : Nat)] w fun e w' => ∃ v', e = .returned (.tuple #[v', .int .u32 ((m % d : Nat) : Int)]) ∧ U32 w' v' (dig (m / d)) ∧ Keeps w w' := by
 obtain ⟨A, n, c, rfl, e1, hc, -, h0, hr⟩ := h.open_
 have hn : n ≤ 1000000 := by omega
 have hmk := make_u32 n n rfl (by omega)
 have hdI : (0 : Int) < (d : Int) := by omega
 have hdB : (d : Int) < 1000000000 := by omega
 have HE := Lib.hid e1
 clear e1 h
 refine (callsIn_wide (n := 4)).1 ?_
 refine callsIn_of_wp_marks Tryz.func169 rfl trivial ?_ rfl
 simp only [Tryz.ntmps169, List.size_toArray, List.length_cons, List.length_nil, Nat.reduceAdd, Nat.reduceSub, Array.replicate_succ, Array.replicate_zero, List.push_toArray, List.append_toArray, List.nil_append, List.cons_append]
 refine wpIn_wide.2 ?_
 go_wp2_with fail
 refine (back_any A n c _).mono ?_
 rintro e w' ⟨rfl, rfl⟩
 go_wp2_with fail
 have o0 := ((((Own.new w 109 [.int .u32 (d : Nat)]).alloc (.cells #[.slice (some ⟨w.heap.size + 1 + 1, 0, none⟩) n n] 27)).alloc (.cells (u32s (List.replicate n 0)).toArray 109)).alloc (.cells #[.int .u64 0] 111)).alloc (.cells #[.slice A n c] 27)
 have o1 := (((own2 w (.cells #[.int .u32 (d : Nat)] 109) 27 [.slice (some ⟨w.heap.size + 1 + 1, 0, none⟩) n n]).alloc (.cells (u32s (List.replicate n 0)).toArray 109)).alloc (.cells #[.int .u64 0] 111)).alloc (.cells #[.slice A n c] 27)
 have o2 := ((own3 w (.cells #[.int .u32 (d : Nat)] 109) (.cells #[.slice (some ⟨w.heap.size + 1 + 1, 0, none⟩) n n] 27) 109 (u32s (List.replicate n 0))).alloc (.cells #[.int .u64 0] 111)).alloc (.cells #[.slice A n c] 27)
 have o3 := (Own.new (((w.alloc (.cells #[.int .u32 (d : Nat)] 109)).alloc (.cells #[.slice (some ⟨w.heap.size + 1 + 1, 0, none⟩) n n] 27)).alloc (.cells (u32s (List.replicate n 0)).toArray 109)) 111 [.int .u64 0]).alloc (.cells #[.slice A n c] 27)
 have o4 := Own.new ((((w.alloc (.cells #[.int .u32 (d : Nat)] 109)).alloc (.cells #[.slice (some ⟨w.heap.size + 1 + 1, 0, none⟩) n n] 27)).alloc (.cells (u32s (List.replicate n 0)).toArray 109)).alloc (.cells #[.int .u64 0] 111)) 27 [.slice A n c]
 simp only [World.size_alloc] at o3 o4
 have hK : Keeps w (((((w.alloc (.cells #[.int .u32 (d : Nat)] 109)).alloc (.cells #[.slice (some ⟨w.heap.size + 1 + 1, 0, none⟩) n n] 27)).alloc (.cells (u32s (List.replicate n 0)).toArray 109)).alloc (.cells #[.int .u64 0] 111)).alloc (.cells #[.slice A n c] 27)) := ((keep3 w (.cells #[.int .u32 (d : Nat)] 109) (.cells #[.slice (some ⟨w.heap.size + 1 + 1, 0, none⟩) n n] 27) (.cells (u32s (List.replicate n 0)).toArray 109)).alloc (by simp; omega) _).alloc (by simp; omega) _
 have hlt : ∀ b o, A = some ⟨b, o, none⟩ → 0 < n → b < w.heap.size := fun b o e hp => hr.lt e hp
 refine (wpIn_wide (n := 4)).1 ?_
 apply wpIn_range_idx (N := n) rfl (by omega) (gf := 194) (lb := #[.pointer (some ⟨w.heap.size + 1 + 1 + 1 + 1, 0, none⟩)]) rfl trivial (enters_of Tryz.func194 (by kernel_rfl) rfl)
  (back_seq Fence.wide _ trivial rfl (by omega) (w.heap.size + 1 + 1 + 1 + 1) w.heap.size n c A (dig m) (by omega) _ o4 (hr.below hK) hlt) BackKp.t (BackKp.b (by simp; omega) (by simp)) bl (fun _ => rfl)
  (fun k W => ∃ (rr : Nat) (out : List Nat), rr = val ((dig m).drop (n - k)) % d ∧ out.length = n ∧ AllB out ∧ val (out.drop (n - k)) = val ((dig m).drop (n - k)) / d ∧ Own W w.heap.size 109 [.int .u32 (d : Nat)] ∧ Own W (w.heap.size + 1) 27 [.slice (some ⟨w.heap.size + 1 + 1, 0, none⟩) n n] ∧
   Own W (w.heap.size + 1 + 1) 109 (u32s out) ∧ Own W (w.heap.size + 1 + 1 + 1) 111 [.int .u64 (rr : Nat)] ∧ Own W (w.heap.size + 1 + 1 + 1 + 1) 27 [.slice A n c] ∧ Keeps w W) (fun _ _ _ => False)
  (fun k A B row hs hg hr => by
   obtain ⟨rr, out, i1, i2, i3, i4, i5, i6, i7, i8, i9, i10⟩ := hs
   exact ⟨rr, out, i1, i2, i3, i4, i5.nc hg (fun r e => (hr r e).2), i6.nc hg (fun r e => (hr r e).2), i7.nc hg (fun r e => (hr r e).2), i8.nc hg (fun r e => (hr r e).2), i9.nc hg (fun r e => (hr r e).2), ownFrom_below (β := Nat) (Nat.le_refl _) (by simp; omega) k A B row i10 hg hr⟩)
  (fun _ _ _ _ _ hs _ _ => hs)
  ⟨0, List.replicate n 0, by rw [List.drop_of_length_le (by rw [HE.out]; omega)]; simp [val], by simp, AllB.replicate n, by rw [List.drop_of_length_le (by simp), List.drop_of_length_le (by rw [HE.out]; omega)]; simp [val], o0, o1, o2, o3, o4, hK⟩
 case hassign =>
  intro l x W K hK
  unfold backEnc
  gi_wp2
  exact hK
 case hbody =>
  rintro l k W ⟨rr, out, hrr, hol, hob, hval, i5, i6, i7, i8, i9, i10⟩ hk
  obtain ⟨q, hq⟩ : ∃ q, n - 1 - k = q := ⟨_, rfl⟩
  rw [show n - k = q + 1 by omega] at hrr hval
  have hqn : q < n := by omega
  have h00 : (0 : Int) ≤ (q : Int) := by omega
  have h01 : (q : Int) < (n : Int) := by omega
  have hsv := short_val hd HE.out hol hqn hrr hval
  have hrd : rr < d := by rw [hrr]; exact Nat.mod_lt _ hd
  have hxb := (AllB.dig m).ix q
  have hsl := short_lt rr d (ix (dig m) q) hrd hxb
  have c3 := i8.c0
  rw [hq]
  generalize ix (dig m) q = x at *
  have hI1 : (rr : Int) < 999999999 := by omega
  have hI2 : (x : Int) < 1000000000 := by omega
  have HQ := Lib.hid hq
  have HL := Lib.hid hol
  have HS := Lib.hid hsv
  have HB := Lib.hid hsl
  clear hq hrr hval hol hsv hsl hrd hxb
  gi_wp2_with fail
  obtain ⟨N, hN⟩ : ∃ N, rr * 1000000000 + x = N := ⟨_, rfl⟩
  rw [hN] at HS HB
  rw [show (rr : Int) * 1000000000 + (x : Int) = (N : Int) by omega]
  have hN1 : (N : Int) < 1000000000000000000 := by omega
  clear hN hI1 hI2
  have hb1 : (N : Int) / (d : Int) < 1000000000 := by rw [← Int.natCast_ediv]; exact Int.ofNat_lt.2 HB.out
  have hb2 : 0 ≤ (N : Int) / (d : Int) := by rw [← Int.natCast_ediv]; exact Int.natCast_nonneg _
  obtain ⟨W1, hW1⟩ : ∃ W1, W.drew.setCell ⟨w.heap.size + 1 + 1, q, none⟩ (.int .u32 ((N : Int) / (d : Int))) = W1 := ⟨_, rfl⟩
  obtain ⟨W2, hW2⟩ : ∃ W2, W1.setCell ⟨w.heap.size + 1 + 1 + 1, 0, none⟩ (.int .u64 ((N : Int) % (d : Int))) = W2 := ⟨_, rfl⟩
  have j5 := (i5.drew.far (p := ⟨w.heap.size + 1 + 1, q, none⟩) (by simp only [ne_eq]; omega) (.int .u32 ((N : Int) / (d : Int))))
  have j6 := (i6.drew.far (p := ⟨w.heap.size + 1 + 1, q, none⟩) (by simp only [ne_eq]; omega) (.int .u32 ((N : Int) / (d : Int))))
  have j7 := i7.drew.put q (N / d) (z := (N : Int) / (d : Int)) (by rw [Int.natCast_ediv])
  have j8 := (i8.drew.far (p := ⟨w.heap.size + 1 + 1, q, none⟩) (by simp only [ne_eq]; omega) (.int .u32 ((N : Int) / (d : Int))))
  have j9 := (i9.drew.far (p := ⟨w.heap.size + 1 + 1, q, none⟩) (by simp only [ne_eq]; omega) (.int .u32 ((N : Int) / (d : Int))))
  rw [hW1] at j5 j6 j7 j8 j9
  have k5 := (j5.far (p := ⟨w.heap.size + 1 + 1 + 1, 0, none⟩) (by simp only [ne_eq]; omega) (.int .u64 ((N : Int) % (d : Int))))
  have k6 := (j6.far (p := ⟨w.heap.size + 1 + 1 + 1, 0, none⟩) (by simp only [ne_eq]; omega) (.int .u64 ((N : Int) % (d : Int))))
  have k7 := (j7.far (p := ⟨w.heap.size + 1 + 1 + 1, 0, none⟩) (by simp only [ne_eq]; omega) (.int .u64 ((N : Int) % (d : Int))))
  have k8 := (j8.set 0 (.int .u64 ((N : Int) % (d : Int))))
  have k9 := (j9.far (p := ⟨w.heap.size + 1 + 1 + 1, 0, none⟩) (by simp only [ne_eq]; omega) (.int .u64 ((N : Int) % (d : Int))))
  rw [hW2] at k5 k6 k7 k8 k9
  have C0 : ∀ p, (two W.drew W1 W2 12 13 p).cell? ⟨w.heap.size + 1, 0, none⟩ = some (.slice (some ⟨w.heap.size + 1 + 1, 0, none⟩) n n) := fun p => two_all (X := fun w' => w'.cell? ⟨w.heap.size + 1, 0, none⟩ = some (.slice (some ⟨w.heap.size + 1 + 1, 0, none⟩) n n)) i6.drew.c0 j6.c0 k6.c0 p
  have C1 : ∀ p, (two W.drew W1 W2 12 13 p).cell? ⟨w.heap.size, 0, none⟩ = some (.int .u32 (d : Nat)) := fun p => two_all (X := fun w' => w'.cell? ⟨w.heap.size, 0, none⟩ = some (.int .u32 (d : Nat))) i5.drew.c0 j5.c0 k5.c0 p
  have t0 : ¬ d = 0 := by omega
  have t1 : ((N : Int).tdiv (d : Int)) = (N : Int) / (d : Int) := Int.tdiv_eq_ediv_of_nonneg (by omega)
  have t2 : ((N : Int).tmod (d : Int)) = (N : Int) % (d : Int) := IntWalk.rem_in _ _ (by omega)
  have t3 : IntKind.u64.wrap (d : Int) = (d : Int) := IntWalk.u64_in _ (by omega)
  have t4 : IntKind.u64.wrap ((N : Int) / (d : Int)) = (N : Int) / (d : Int) := IntWalk.u64_in _ (by omega)
  have t5 : IntKind.u32.wrap ((N : Int) / (d : Int)) = (N : Int) / (d : Int) := IntWalk.u32_in _ (by omega)
  have t6 : IntKind.u64.wrap ((N : Int) % (d : Int)) = (N : Int) % (d : Int) := IntWalk.u64_in _ (by rw [← Int.natCast_emod]; have := Nat.mod_lt N hd; omega)
  have hst0 := i7.drew.u32cell (i := q) (by rw [HL.out]; exact hqn)
  have hst1 := i7.drew.frozen q
  have hst2 := j8.c0
  have hst3 := j8.frozen 0
  refine wpIn_region_det rfl (by kernel_rfl) (by kernel_rfl) (shortV (w.heap.size + 1 + 1) n q N d) (two W.drew W1 W2 12 13) rfl (two_cong (by decide) (by decide)) ?_ ?_
  ·intro i hi
   have hi' : i < 14 := hi
   match i, hi' with
   | 0, _ =>
    refine stepDet_at [] (some 22) rfl (by kernel_rfl) rfl (by kernel_rfl) fun p h1 h2 h3 K hK => ?_
    rw [two_other (by decide) (by decide)] at hK
    have c0 := C0 p; have c1 := C1 p
    simp only [frD, Act.put, List.setIfInBounds_toArray, List.set_cons_zero, List.set_cons_succ, (show (shortV (w.heap.size + 1 + 1) n q N d) 0 = .slice (some ⟨w.heap.size + 1 + 1, 0, none⟩) n n from rfl)] at hK ⊢
    clear h2 h3
    go_simp
    with_reducible exact hK
   | 1, _ =>
    refine stepDet_at [] (some 23) rfl (by kernel_rfl) rfl (by kernel_rfl) fun p h1 h2 h3 K hK => ?_
    rw [two_other (by decide) (by decide)] at hK
    have c0 := C0 p; have c1 := C1 p
    simp only [frD, Act.put, List.setIfInBounds_toArray, List.set_cons_zero, List.set_cons_succ, (show (shortV (w.heap.size + 1 + 1) n q N d) 1 = .int .i64 (q : Nat) from rfl)] at hK ⊢
    clear h2 h3
    go_simp
    with_reducible exact hK
   | 2, _ =>
    refine stepDet_at [] (some 24) rfl (by kernel_rfl) rfl (by kernel_rfl) fun p h1 h2 h3 K hK => ?_
    rw [two_other (by decide) (by decide)] at hK
    have c0 := C0 p; have c1 := C1 p
    simp only [frD, Act.put, List.setIfInBounds_toArray, List.set_cons_zero, List.set_cons_succ, (show (shortV (w.heap.size + 1 + 1) n q N d) 2 = .int .u64 (N : Nat) from rfl)] at hK ⊢
    clear h2 h3
    go_simp
    with_reducible exact hK
   | 3, _ =>
    refine stepDet_at [] (some 25) rfl (by kernel_rfl) rfl (by kernel_rfl) fun p h1 h2 h3 K hK => ?_
    rw [two_other (by decide) (by decide)] at hK
    have c0 := C0 p; have c1 := C1 p
    simp only [frD, Act.put, List.setIfInBounds_toArray, List.set_cons_zero, List.set_cons_succ, (show (shortV (w.heap.size + 1 + 1) n q N d) 3 = .int .u32 (d : Nat) from rfl)] at hK ⊢
    clear h2 h3
    go_simp
    with_reducible exact hK
   | 4, _ =>
    refine stepDet_at [(3, some 25)] (some 26) rfl (by kernel_rfl) rfl (by kernel_rfl) fun p h1 h2 h3 K hK => ?_
    rw [two_other (by decide) (by decide)] at hK
    have c0 := C0 p; have c1 := C1 p
    simp only [frD, Act.put, List.setIfInBounds_toArray, List.set_cons_zero, List.set_cons_succ, (show (shortV (w.heap.size + 1 + 1) n q N d) 3 = .int .u32 (d : Nat) from rfl), (show (shortV (w.heap.size + 1 + 1) n q N d) 4 = .int .u64 (d : Nat) from rfl)] at hK ⊢
    clear h2 h3
    go_simp
    with_reducible exact hK
   | 5, _ =>
    refine stepDet_at [(2, some 24), (4, some 26)] (some 27) rfl (by kernel_rfl) rfl (by kernel_rfl) fun p h1 h2 h3 K hK => ?_
    rw [two_other (by decide) (by decide)] at hK
    have c0 := C0 p; have c1 := C1 p
    simp only [frD, Act.put, List.setIfInBounds_toArray, List.set_cons_zero, List.set_cons_succ, (show (shortV (w.heap.size + 1 + 1) n q N d) 2 = .int .u64 (N : Nat) from rfl), (show (shortV (w.heap.size + 1 + 1) n q N d) 4 = .int .u64 (d : Nat) from rfl), (show (shortV (w.heap.size + 1 + 1) n q N d) 5 = .int .u64 ((N : Int) / (d : Int)) from rfl)] at hK ⊢
    clear h2 h3
    go_simp
    with_reducible exact hK
   | 6, _ =>
    refine stepDet_at [(5, some 27)] (some 28) rfl (by kernel_rfl) rfl (by kernel_rfl) fun p h1 h2 h3 K hK => ?_
    rw [two_other (by decide) (by decide)] at hK
    have c0 := C0 p; have c1 := C1 p
    simp only [frD, Act.put, List.setIfInBounds_toArray, List.set_cons_zero, List.set_cons_succ, (show (shortV (w.heap.size + 1 + 1) n q N d) 5 = .int .u64 ((N : Int) / (d : Int)) from rfl), (show (shortV (w.heap.size + 1 + 1) n q N d) 6 = .int .u32 ((N : Int) / (d : Int)) from rfl)] at hK ⊢
    clear h2 h3
    go_simp
    with_reducible exact hK
   | 7, _ =>
    refine stepDet_at [] (some 29) rfl (by kernel_rfl) rfl (by kernel_rfl) fun p h1 h2 h3 K hK => ?_
    rw [two_other (by decide) (by decide)] at hK
    have c0 := C0 p; have c1 := C1 p
    simp only [frD, Act.put, List.setIfInBounds_toArray, List.set_cons_zero, List.set_cons_succ, (show (shortV (w.heap.size + 1 + 1) n q N d) 7 = .int .u64 (N : Nat) from rfl)] at hK ⊢
    clear h2 h3
    go_simp
    with_reducible exact hK
   | 8, _ =>
    refine stepDet_at [] (some 30) rfl (by kernel_rfl) rfl (by kernel_rfl) fun p h1 h2 h3 K hK => ?_
    rw [two_other (by decide) (by decide)] at hK
    have c0 := C0 p; have c1 := C1 p
    simp only [frD, Act.put, List.setIfInBounds_toArray, List.set_cons_zero, List.set_cons_succ, (show (shortV (w.heap.size + 1 + 1) n q N d) 8 = .int .u32 (d : Nat) from rfl)] at hK ⊢
    clear h2 h3
    go_simp
    with_reducible exact hK
   | 9, _ =>
    refine stepDet_at [(8, some 30)] (some 31) rfl (by kernel_rfl) rfl (by kernel_rfl) fun p h1 h2 h3 K hK => ?_
    rw [two_other (by decide) (by decide)] at hK
    have c0 := C0 p; have c1 := C1 p
    simp only [frD, Act.put, List.setIfInBounds_toArray, List.set_cons_zero, List.set_cons_succ, (show (shortV (w.heap.size + 1 + 1) n q N d) 8 = .int .u32 (d : Nat) from rfl), (show (shortV (w.heap.size + 1 + 1) n q N d) 9 = .int .u64 (d : Nat) from rfl)] at hK ⊢
    clear h2 h3
    go_simp
    with_reducible exact hK
   | 10, _ =>
    refine stepDet_at [(7, some 29), (9, some 31)] (some 32) rfl (by kernel_rfl) rfl (by kernel_rfl) fun p h1 h2 h3 K hK => ?_
    rw [two_other (by decide) (by decide)] at hK
    have c0 := C0 p; have c1 := C1 p
    simp only [frD, Act.put, List.setIfInBounds_toArray, List.set_cons_zero, List.set_cons_succ, (show (shortV (w.heap.size + 1 + 1) n q N d) 7 = .int .u64 (N : Nat) from rfl), (show (shortV (w.heap.size + 1 + 1) n q N d) 9 = .int .u64 (d : Nat) from rfl), (show (shortV (w.heap.size + 1 + 1) n q N d) 10 = .int .u64 ((N : Int) % (d : Int)) from rfl)] at hK ⊢
    clear h2 h3
    go_simp
    with_reducible exact hK
   | 11, _ =>
    refine stepDet_at [(0, some 22), (1, some 23), (2, some 24), (3, some 25), (4, some 26), (5, some 27), (6, some 28)] (some 33) rfl (by kernel_rfl) rfl (by kernel_rfl) fun p h1 h2 h3 K hK => ?_
    rw [two_other (by decide) (by decide)] at hK
    have c0 := C0 p; have c1 := C1 p
    simp only [frD, Act.put, List.setIfInBounds_toArray, List.set_cons_zero, List.set_cons_succ, (show (shortV (w.heap.size + 1 + 1) n q N d) 0 = .slice (some ⟨w.heap.size + 1 + 1, 0, none⟩) n n from rfl), (show (shortV (w.heap.size + 1 + 1) n q N d) 1 = .int .i64 (q : Nat) from rfl), (show (shortV (w.heap.size + 1 + 1) n q N d) 2 = .int .u64 (N : Nat) from rfl), (show (shortV (w.heap.size + 1 + 1) n q N d) 3 = .int .u32 (d : Nat) from rfl), (show (shortV (w.heap.size + 1 + 1) n q N d) 4 = .int .u64 (d : Nat) from rfl), (show (shortV (w.heap.size + 1 + 1) n q N d) 5 = .int .u64 ((N : Int) / (d : Int)) from rfl), (show (shortV (w.heap.size + 1 + 1) n q N d) 6 = .int .u32 ((N : Int) / (d : Int)) from rfl), (show (shortV (w.heap.size + 1 + 1) n q N d) 11 = .pointer (some ⟨w.heap.size + 1 + 1, q, none⟩) from rfl)] at hK ⊢
    clear h2 h3
    go_simp
    with_reducible exact hK
   | 12, _ =>
    refine stepDet_at [(0, some 22), (1, some 23), (2, some 24), (3, some 25), (4, some 26), (5, some 27), (6, some 28), (11, some 33)] (none) rfl (by kernel_rfl) rfl (by kernel_rfl) fun p h1 h2 h3 K hK => ?_
    have pb : p 13 = false := by
     cases hc : p 13 with
     | false => rfl
     | true => exact absurd (h3 13 12 hc (List.contains_iff_mem.1 (by kernel_rfl))) (by simp [h1])
    have x := two_a (w0 := W.drew) (w1 := W1) (w2 := W2) (a := 12) (b := 13) (by decide) h1 pb
    rw [x.1]
    rw [x.2] at hK
    clear x
    simp only [frD, Act.put, List.setIfInBounds_toArray, List.set_cons_zero, List.set_cons_succ, (show (shortV (w.heap.size + 1 + 1) n q N d) 0 = .slice (some ⟨w.heap.size + 1 + 1, 0, none⟩) n n from rfl), (show (shortV (w.heap.size + 1 + 1) n q N d) 1 = .int .i64 (q : Nat) from rfl), (show (shortV (w.heap.size + 1 + 1) n q N d) 2 = .int .u64 (N : Nat) from rfl), (show (shortV (w.heap.size + 1 + 1) n q N d) 3 = .int .u32 (d : Nat) from rfl), (show (shortV (w.heap.size + 1 + 1) n q N d) 4 = .int .u64 (d : Nat) from rfl), (show (shortV (w.heap.size + 1 + 1) n q N d) 5 = .int .u64 ((N : Int) / (d : Int)) from rfl), (show (shortV (w.heap.size + 1 + 1) n q N d) 6 = .int .u32 ((N : Int) / (d : Int)) from rfl), (show (shortV (w.heap.size + 1 + 1) n q N d) 11 = .pointer (some ⟨w.heap.size + 1 + 1, q, none⟩) from rfl)] at hK ⊢
    clear h2 h3
    go_simp
    with_reducible exact hK
   | 13, _ =>
    refine stepDet_at [(0, some 22), (1, some 23), (2, some 24), (3, some 25), (4, some 26), (5, some 27), (6, some 28), (7, some 29), (8, some 30), (9, some 31), (10, some 32), (11, some 33), (12, none)] (none) rfl (by kernel_rfl) rfl (by kernel_rfl) fun p h1 h2 h3 K hK => ?_
    have pa : p 12 = true := h2 12 (List.contains_iff_mem.1 (by kernel_rfl))
    have x := two_b (w0 := W.drew) (w1 := W1) (w2 := W2) (a := 12) (b := 13) pa h1
    rw [x.1]
    rw [x.2] at hK
    clear x
    simp only [frD, Act.put, List.setIfInBounds_toArray, List.set_cons_zero, List.set_cons_succ, (show (shortV (w.heap.size + 1 + 1) n q N d) 0 = .slice (some ⟨w.heap.size + 1 + 1, 0, none⟩) n n from rfl), (show (shortV (w.heap.size + 1 + 1) n q N d) 1 = .int .i64 (q : Nat) from rfl), (show (shortV (w.heap.size + 1 + 1) n q N d) 2 = .int .u64 (N : Nat) from rfl), (show (shortV (w.heap.size + 1 + 1) n q N d) 3 = .int .u32 (d : Nat) from rfl), (show (shortV (w.heap.size + 1 + 1) n q N d) 4 = .int .u64 (d : Nat) from rfl), (show (shortV (w.heap.size + 1 + 1) n q N d) 5 = .int .u64 ((N : Int) / (d : Int)) from rfl), (show (shortV (w.heap.size + 1 + 1) n q N d) 6 = .int .u32 ((N : Int) / (d : Int)) from rfl), (show (shortV (w.heap.size + 1 + 1) n q N d) 7 = .int .u64 (N : Nat) from rfl), (show (shortV (w.heap.size + 1 + 1) n q N d) 8 = .int .u32 (d : Nat) from rfl), (show (shortV (w.heap.size + 1 + 1) n q N d) 9 = .int .u64 (d : Nat) from rfl), (show (shortV (w.heap.size + 1 + 1) n q N d) 10 = .int .u64 ((N : Int) % (d : Int)) from rfl), (show (shortV (w.heap.size + 1 + 1) n q N d) 11 = .pointer (some ⟨w.heap.size + 1 + 1, q, none⟩) from rfl)] at hK ⊢
    clear h2 h3
    go_simp
    with_reducible exact hK
  ·rw [show two W.drew W1 W2 12 13 (fun _ => true) = W2 from rfl]
   refine ⟨?_, ⟨?_, ?_⟩, (N % d), out.set q (N / d), ?_, by rw [List.length_set]; exact HL.out, hob.set _ _ HB.out, ?_, k5, k6, k7, ?_, k9, ?_⟩
   ·rw [← hW2, ← hW1]; exact (((KeepsOthers.drew _).trans (KeepsOthers.setCell _ _ _)).trans (KeepsOthers.setCell _ _ _)).from _
   ·rw [← hW2, ← hW1]; exact ((Below.drew bl).setCell (p := ⟨w.heap.size + 1 + 1, q, none⟩) (by simp only; omega) _).setCell (p := ⟨w.heap.size + 1 + 1 + 1, 0, none⟩) (by simp only; omega) _
   ·exact k9.trans i9.symm
   ·rw [show n - (k + 1) = q by have := HQ.out; omega]; exact HS.out.1
   ·rw [show n - (k + 1) = q by have := HQ.out; omega]; exact HS.out.2
   ·rw [Int.natCast_emod]; exact k8
   ·rw [← hW2, ← hW1]; exact ((Below.drew i10).setCell (p := ⟨w.heap.size + 1 + 1, q, none⟩) (by simp only; omega) _).setCell (p := ⟨w.heap.size + 1 + 1 + 1, 0, none⟩) (by simp only; omega) _
 case hdone =>
  rintro D W hD ⟨rr, out, hrr, hol, hob, hval, i5, i6, i7, i8, i9, i10⟩ hDf
  simp only [World.size_alloc] at hD
  simp only [Nat.sub_self, List.drop_zero, val_dig] at hrr hval
  have hrb : (rr : Int) < 1000000000 := by have := Nat.mod_lt m hd; omega
  have HR := Lib.hid hrr
  have HL := Lib.hid hol
  have HV := Lib.hid hval
  clear hrr hol hval
  have t1 : IntKind.u32.wrap (rr : Int) = (rr : Int) := IntWalk.u32_in _ (by omega)
  have f1 := i6.frozen 0
  obtain ⟨W1, hW1⟩ : ∃ W1, W.drew.setCell ⟨w.heap.size + 1, 0, none⟩ (.slice (some ⟨w.heap.size + 1 + 1, 0, none⟩) (trimL out).length n) = W1 := ⟨_, rfl⟩
  have j6 := i6.drew.set 0 (.slice (some ⟨w.heap.size + 1 + 1, 0, none⟩) (trimL out).length n)
  have j7 := i7.drew.far (p := ⟨w.heap.size + 1, 0, none⟩) (by simp only [ne_eq]; omega) (.slice (some ⟨w.heap.size + 1 + 1, 0, none⟩) (trimL out).length n)
  have j8 := i8.drew.far (p := ⟨w.heap.size + 1, 0, none⟩) (by simp only [ne_eq]; omega) (.slice (some ⟨w.heap.size + 1 + 1, 0, none⟩) (trimL out).length n)
  rw [hW1] at j6 j7 j8
  have C1 : ∀ p, (one W.drew W1 4 p).cell? ⟨w.heap.size + 1 + 1 + 1, 0, none⟩ = some (.int .u64 (rr : Nat)) := fun p => one_all (X := fun w' => w'.cell? ⟨w.heap.size + 1 + 1 + 1, 0, none⟩ = some (.int .u64 (rr : Nat))) i8.drew.c0 j8.c0 p
  have Cr : ∀ p, Own (one W.drew W1 4 p) (w.heap.size + 1 + 1) 109 (u32s out) := fun p => one_all (X := fun w' => Own w' (w.heap.size + 1 + 1) 109 (u32s out)) i7.drew j7 p
  have CR := Lib.hid Cr
  have hst0 := i6.drew.c0
  have hst1 := i6.drew.frozen 0
  clear Cr
  go_wp2_with fail
  refine wp_region_det rfl (by kernel_rfl) (shortE (w.heap.size + 1 + 1) n (trimL out).length rr) (one W.drew W1 4) rfl (one_cong (by decide)) ?_ ?_
  ·intro i hi
   have hi' : i < 6 := hi
   match i, hi' with
   | 0, _ =>
    refine stepDet_at [] (some 34) rfl (by kernel_rfl) rfl (by kernel_rfl) fun p h1 h2 h3 K hK => ?_
    rw [one_other (by decide)] at hK
    have pb : p 4 = false := by
     cases hc : p 4 with
     | false => rfl
     | true => exact absurd (h3 4 0 hc (List.contains_iff_mem.1 (by kernel_rfl))) (by simp [h1])
    rw [(one_a (w0 := W.drew) (w1 := W1) (a := 4) pb).1] at hK ⊢
    have c0 := i6.drew.c0
    simp only [frD, Act.put, List.setIfInBounds_toArray, List.set_cons_zero, List.set_cons_succ, (show (shortE (w.heap.size + 1 + 1) n (trimL out).length rr) 0 = .slice (some ⟨w.heap.size + 1 + 1, 0, none⟩) n n from rfl)] at hK ⊢
    clear h2 h3
    go_simp
    with_reducible exact hK
   | 1, _ =>
    refine stepDet_at [(0, some 34)] (some 35) rfl (by kernel_rfl) rfl (by kernel_rfl) fun p h1 h2 h3 K hK => ?_
    rw [one_other (by decide)] at hK
    have c1 := C1 p
    simp only [frD, Act.put, List.setIfInBounds_toArray, List.set_cons_zero, List.set_cons_succ, (show (shortE (w.heap.size + 1 + 1) n (trimL out).length rr) 0 = .slice (some ⟨w.heap.size + 1 + 1, 0, none⟩) n n from rfl), (show (shortE (w.heap.size + 1 + 1) n (trimL out).length rr) 1 = .slice (some ⟨w.heap.size + 1 + 1, 0, none⟩) (trimL out).length n from rfl)] at hK ⊢
    clear h2 h3
    go_simp
    refine (trim_n (some ⟨w.heap.size + 1 + 1, 0, none⟩) n n out _ HL.out (by have := (CR.out p).row; rwa [HL.out] at this) (Nat.le_refl _) (by simp only [maxLen]; omega)).mono ?_
    rintro e W5 ⟨rfl, rfl⟩
    with_reducible exact hK
   | 2, _ =>
    refine stepDet_at [] (some 36) rfl (by kernel_rfl) rfl (by kernel_rfl) fun p h1 h2 h3 K hK => ?_
    rw [one_other (by decide)] at hK
    have c1 := C1 p
    simp only [frD, Act.put, List.setIfInBounds_toArray, List.set_cons_zero, List.set_cons_succ, (show (shortE (w.heap.size + 1 + 1) n (trimL out).length rr) 2 = .int .u64 (rr : Nat) from rfl)] at hK ⊢
    clear h2 h3
    go_simp
    with_reducible exact hK
   | 3, _ =>
    refine stepDet_at [(2, some 36)] (some 37) rfl (by kernel_rfl) rfl (by kernel_rfl) fun p h1 h2 h3 K hK => ?_
    rw [one_other (by decide)] at hK
    have c1 := C1 p
    simp only [frD, Act.put, List.setIfInBounds_toArray, List.set_cons_zero, List.set_cons_succ, (show (shortE (w.heap.size + 1 + 1) n (trimL out).length rr) 2 = .int .u64 (rr : Nat) from rfl), (show (shortE (w.heap.size + 1 + 1) n (trimL out).length rr) 3 = .int .u32 (rr : Nat) from rfl)] at hK ⊢
    clear h2 h3
    go_simp
    with_reducible exact hK
   | 4, _ =>
    refine stepDet_at [(0, some 34), (1, some 35)] (none) rfl (by kernel_rfl) rfl (by kernel_rfl) fun p h1 h2 h3 K hK => ?_
    have x := one_a (w0 := W.drew) (w1 := W1) (a := 4) h1
    rw [x.1]
    rw [x.2] at hK
    clear x
    simp only [frD, Act.put, List.setIfInBounds_toArray, List.set_cons_zero, List.set_cons_succ, (show (shortE (w.heap.size + 1 + 1) n (trimL out).length rr) 0 = .slice (some ⟨w.heap.size + 1 + 1, 0, none⟩) n n from rfl), (show (shortE (w.heap.size + 1 + 1) n (trimL out).length rr) 1 = .slice (some ⟨w.heap.size + 1 + 1, 0, none⟩) (trimL out).length n from rfl)] at hK ⊢
    clear h2 h3
    go_simp
    with_reducible exact hK
   | 5, _ =>
    refine stepDet_at [(0, some 34), (1, some 35), (2, some 36), (3, some 37), (4, none)] (some 5) rfl (by kernel_rfl) rfl (by kernel_rfl) fun p h1 h2 h3 K hK => ?_
    rw [one_other (by decide)] at hK
    have c1 := C1 p
    simp only [frD, Act.put, List.setIfInBounds_toArray, List.set_cons_zero, List.set_cons_succ, (show (shortE (w.heap.size + 1 + 1) n (trimL out).length rr) 0 = .slice (some ⟨w.heap.size + 1 + 1, 0, none⟩) n n from rfl), (show (shortE (w.heap.size + 1 + 1) n (trimL out).length rr) 1 = .slice (some ⟨w.heap.size + 1 + 1, 0, none⟩) (trimL out).length n from rfl), (show (shortE (w.heap.size + 1 + 1) n (trimL out).length rr) 2 = .int .u64 (rr : Nat) from rfl), (show (shortE (w.heap.size + 1 + 1) n (trimL out).length rr) 3 = .int .u32 (rr : Nat) from rfl), (show (shortE (w.heap.size + 1 + 1) n (trimL out).length rr) 5 = .int .u32 (rr : Nat) from rfl)] at hK ⊢
    clear h2 h3
    go_simp
    with_reducible exact hK
  ·rw [show one W.drew W1 4 (fun _ => true) = W1 from rfl, fr_frD, show (List.range _).map _ = [(0, some 34), (1, some 35), (2, some 36), (3, some 37), (4, none), (5, some 5)] by kernel_rfl]
   simp only [frD, Act.put, List.setIfInBounds_toArray, List.set_cons_zero, List.set_cons_succ, (show shortE (w.heap.size + 1 + 1) n (trimL out).length rr 5 = .int .u32 (rr : Nat) from rfl)]
   clear C1 CR hst0 hst1
   have hDf' : W1.heap[D]? = some (.deferred (some [])) := by rw [← hW1]; exact (Below.heap_setCell _ _ _ _ (by simp only [ne_eq]; omega)).trans hDf
   have hkf : Keeps w W1 := by rw [← hW1]; exact (Below.drew i10).setCell (p := ⟨w.heap.size + 1, 0, none⟩) (by simp only; omega) _
   have hrow := j7.row
   clear hW1
   go_wp2
   refine ⟨by simp, .inl ⟨_, _, rfl, run_takeDeferred hDf', ?_⟩⟩
   have j6n := j6.nc (grownBy_putObj' _ D (.deferred none)) (fun r e => by cases e; exact ⟨_, hDf', rfl⟩)
   refine ⟨.tuple #[.slice (some ⟨w.heap.size + 1 + 1, 0, none⟩) (trimL out).length n, .int .u32 (rr : Nat)], by simp [results, Tryz.results169, go_sem, j6n.c0], ⟨.slice (some ⟨w.heap.size + 1 + 1, 0, none⟩) (trimL out).length n, ?_, ?_, hkf.trans (belowK_b (w := w) (Nat.le_refl _) _ D _ _ (by omega) hDf' rfl rfl)⟩⟩
   ·rw [← HR.out]
   ·have hu : U32 W1 (.slice (some ⟨w.heap.size + 1 + 1, 0, none⟩) (trimL out).length n) (dig (m / d)) := by
     rw [← HV.out, ← trimL_eq hob]
     exact U32.trim hrow (by rw [HL.out]; exact Nat.le_refl _) (by simp only [maxLen]; omega) (by intro h; cases h)
    exact hu.nc (grownBy_putObj' _ D (.deferred none)) (fun r e => by cases e; exact ⟨_, hDf', rfl⟩)
 case hstop =>
  rintro D c k W _ _ h _
  exact h.elim
end Go.Proofs.YtgcigdahjabimaaGreatDoor
namespace Go.Proofs.YtgcigdahjabimaaGreatDoor
open Go.RowKit

def OwnP (w : World) (g : Nat) (t : TypeId) (us : List Nat) : Prop := ∃ cur : Array Value, w.heap[g]? = some (.cells cur t (0, 0)) ∧ cur.toList.take us.length = u32s us
theorem owns_keep {w w' : World} {base : Nat} {t : TypeId} {x : Value} {L : Nat} {xs : List Value} (h : w.ownsRow base t 1 x L xs) (hb : Keeps w w') : w'.ownsRow base t 1 x L xs := by
 refine ⟨h.1, ?_⟩
 rcases h.2 with hn | ⟨g, cap, cur, rfl, hbg, hg, rest⟩
 ·exact .inl hn
 ·exact .inr ⟨g, cap, cur, rfl, hbg, (hb.block g (Array.getElem?_eq_some_iff.1 hg).1).trans hg, rest⟩
section
variable {w w' : World} {g : Nat} {t : TypeId} {us : List Nat}
theorem OwnP.lt (h : OwnP w g t us) : g < w.heap.size := by
 obtain ⟨cur, h, -⟩ := h
 exact (Array.getElem?_eq_some_iff.1 h).1
theorem OwnP.cell (h : OwnP w g t us) {i : Nat} (hi : i < us.length) : w.cell? ⟨g, i, none⟩ = some (.int .u32 (ix us i : Nat)) := by
 obtain ⟨cur, h, ht⟩ := h
 rw [cell_of_row w g i cur t (0, 0) h]
 have := u32s_get us i hi
 rw [← ht, List.getElem?_take, if_pos hi] at this
 simpa [u32] using this
theorem OwnP.frozen (h : OwnP w g t us) (i : Nat) : w.frozen? ⟨g, i, none⟩ = false := by
 obtain ⟨cur, h, -⟩ := h
 simp [World.frozen?, h]
theorem OwnP.put (h : OwnP w g t us) (i x : Nat) {z : Int} (e : z = (x : Int)) : OwnP (w.setCell ⟨g, i, none⟩ (.int .u32 z)) g t (us.set i x) := by
 subst e
 obtain ⟨cur, h, ht⟩ := h
 refine ⟨cur.setIfInBounds i (.int .u32 (x : Nat)), by simp [World.setCell, Array.getElem?_modify, h], ?_⟩
 rw [Array.toList_setIfInBounds, List.length_set, ← u32s_set, ← ht, List.take_set]
theorem OwnP.row (h : OwnP w g t us) : Row w (some ⟨g, 0, none⟩) us.length (u32 us) := fun _ =>
 ⟨g, 0, rfl, h.lt, fun j hj => by rw [Nat.zero_add]; exact h.cell hj⟩
theorem OwnP.below (h : OwnP w g t us) (hb : Below w.heap.size w w') : OwnP w' g t us := by
 obtain ⟨cur, hc, ht⟩ := h
 exact ⟨cur, (hb.block g (Array.getElem?_eq_some_iff.1 hc).1).trans hc, ht⟩
theorem OwnP.drewN (h : OwnP w g t us) (n : Nat) : OwnP (w.drewN n) g t us := h
theorem OwnP.drew (h : OwnP w g t us) : OwnP w.drew g t us := h
theorem OwnP.far (h : OwnP w g t us) {p : Addr} (hp : g ≠ p.block) (u : Value) : OwnP (w.setCell p u) g t us := by
 obtain ⟨cur, hc, ht⟩ := h
 exact ⟨cur, (Below.heap_setCell w p u g hp).trans hc, ht⟩
theorem OwnP.grown {row : Option Nat} (h : OwnP w g t us) (hg : w.grownBy w' row) (hne : some g ≠ row) : OwnP w' g t us := by
 obtain ⟨cur, hc, ht⟩ := h
 exact ⟨cur, (hg.block g (Array.getElem?_eq_some_iff.1 hc).1 hne).trans hc, ht⟩
theorem OwnP.of_owns {base : Nat} {v : Value} {n : Nat} (h : w.ownsRow base t 1 v n (u32s us)) (hn : 0 < us.length) : ∃ k cap, v = .slice (some ⟨k, 0, none⟩) us.length cap ∧ base ≤ k ∧ us.length ≤ cap ∧ cap ≤ maxLen ∧ OwnP w k t us := by
 have hl : us.length = n := by have := h.1; rw [u32s_length] at this; omega
 subst hl
 rcases h.2 with ⟨rfl, h0⟩ | ⟨k, cap, cur, rfl, hb, hg, hc, hm, hs, ht⟩
 ·omega
 ·exact ⟨k, cap, rfl, hb, hc, hm, cur, hg, by simpa using ht⟩
theorem OwnP.u32 (h : OwnP w g t us) {c : Nat} (h1 : us.length ≤ c) (h2 : c ≤ maxLen) : U32 w (.slice (some ⟨g, 0, none⟩) us.length c) us := U32.mk h.row h1 h2 (by intro e; cases e)
end
end Go.Proofs.YtgcigdahjabimaaGreatDoor
namespace Go.Proofs.YtgcigdahjabimaaGreatDoor

def wv (us : List Nat) (j i : Nat) : Nat := val ((us.drop j).take i)
theorem wv_zero (us : List Nat) (j : Nat) : wv us j 0 = 0 := by simp [wv, val]
theorem wv_succ (us : List Nat) (j i : Nat) : wv us j (i + 1) = wv us j i + ix us (j + i) * 1000000000 ^ i := by
 unfold wv; rw [val_take_succ, ix_drop]
theorem wv_congr {us vs : List Nat} {j : Nat} : ∀ i, (∀ k, k < i → ix us (j + k) = ix vs (j + k)) → wv us j i = wv vs j i
 | 0, _ => by rw [wv_zero, wv_zero]
 | i + 1, h => by rw [wv_succ, wv_succ, wv_congr i (fun k hk => h k (by omega)), h i (by omega)]
theorem wv_set {us : List Nat} {j i k s : Nat} (hk : k < us.length) (h : j + i ≤ k) : wv (us.set k s) j i = wv us j i :=
 wv_congr i fun m hm => by rw [ix_set us k s _ hk, if_neg (by omega)]
theorem wv_put {us : List Nat} {j i s : Nat} (hk : j + i < us.length) : wv (us.set (j + i) s) j (i + 1) = wv us j i + s * 1000000000 ^ i := by
 rw [wv_succ, wv_set hk (Nat.le_refl _), ix_set us _ s _ hk, if_pos rfl]
theorem wv_rest (us : List Nat) (j i : Nat) : val (us.drop j) = wv us j i + 1000000000 ^ i * val (us.drop (j + i)) := by
 induction i with
 | zero => simp [wv_zero]
 | succ i ih =>
  rw [ih, wv_succ]
  rcases Nat.lt_or_ge (j + i) us.length with h | h
  ·rw [val_drop us (j + i) h, show j + (i + 1) = j + i + 1 by omega, Nat.pow_succ]; grind
  ·rw [ix_past us _ h, List.drop_of_length_le h, List.drop_of_length_le (by omega)]; simp [val]
theorem wv_low (us : List Nat) (i : Nat) : wv us 0 i = val (us.take i) := by simp [wv]
theorem wv_lt {us : List Nat} (h : AllB us) (j i : Nat) : wv us j i < 1000000000 ^ i := by
 unfold wv
 refine Nat.lt_of_lt_of_le (val_lt ((h.drop j).take i)) (Nat.pow_le_pow_right (by omega) ?_)
 rw [List.length_take]; omega

section
variable {v1 v2 yl P top u2 wl guess rest : Nat}
theorem guess_first (hu2 : u2 < 1000000000) (hwl : wl < P) {q : Nat} (hq : q * ((v1 * 1000000000 + v2) * P + yl) ≤ (top * 1000000000 + u2) * P + wl) : q * v1 ≤ top := by
 rcases Nat.lt_or_ge top (q * v1) with h | h
 ·exfalso
  have h1 : (top + 1) * (1000000000 * P) ≤ q * v1 * (1000000000 * P) := Nat.mul_le_mul_right _ h
  have h2 : q * v1 * (1000000000 * P) ≤ q * ((v1 * 1000000000 + v2) * P + yl) := by
   have : q * ((v1 * 1000000000 + v2) * P + yl) = q * v1 * (1000000000 * P) + q * (v2 * P + yl) := by grind
   omega
  have h3 : (top * 1000000000 + u2) * P + P ≤ (top + 1) * (1000000000 * P) := by
   have e : (top * 1000000000 + u2) * P + P = (top * 1000000000 + (u2 + 1)) * P := by grind
   rw [e, show (top + 1) * (1000000000 * P) = (top * 1000000000 + 1000000000) * P by grind]
   exact Nat.mul_le_mul_right _ (by omega)
  omega
 ·exact h
theorem guess_down (hwl : wl < P) (ht : guess * v1 + rest = top) (h : rest * 1000000000 + u2 < guess * v2) : (top * 1000000000 + u2) * P + wl < guess * ((v1 * 1000000000 + v2) * P + yl) := by
 have e : guess * ((v1 * 1000000000 + v2) * P + yl) = (guess * v1 * 1000000000 + guess * v2) * P + guess * yl := by grind
 have h1 : (top * 1000000000 + u2 + 1) * P ≤ (guess * v1 * 1000000000 + guess * v2) * P := Nat.mul_le_mul_right _ (by omega)
 have h2 : (top * 1000000000 + u2 + 1) * P = (top * 1000000000 + u2) * P + P := by grind
 omega
theorem guess_up (hyl : yl < P) (hv1 : 1 ≤ v1) (hg : guess ≤ 1000000000) (ht : guess * v1 + rest = top) (h : guess * v2 ≤ rest * 1000000000 + u2) :
 guess * ((v1 * 1000000000 + v2) * P + yl) < (top * 1000000000 + u2) * P + wl + ((v1 * 1000000000 + v2) * P + yl) := by
 have e : guess * ((v1 * 1000000000 + v2) * P + yl) = (guess * v1 * 1000000000 + guess * v2) * P + guess * yl := by grind
 have h1 : (guess * v1 * 1000000000 + guess * v2) * P ≤ (top * 1000000000 + u2) * P := Nat.mul_le_mul_right _ (by omega)
 have h2 : guess * yl ≤ 1000000000 * yl := Nat.mul_le_mul_right _ hg
 have h3 : 1000000000 * yl < 1000000000 * P := by omega
 have h4 : 1000000000 * P ≤ (v1 * 1000000000 + v2) * P := by
  exact Nat.mul_le_mul_right _ (by omega)
 omega
theorem guess_break (ht : guess * v1 + rest = top) (hr : 1000000000 ≤ rest) (hb : top < v1 * 1000000000 + 1000000000) : guess < 1000000000 := by
 rcases Nat.lt_or_ge guess 1000000000 with h | h
 ·exact h
 ·have := Nat.mul_le_mul_right v1 h
  omega
end
theorem two_top {V : List Nat} {n : Nat} (hn : V.length = n) (h2 : 2 ≤ n) : val V = (ix V (n - 1) * 1000000000 + ix V (n - 2)) * 1000000000 ^ (n - 2) + val (V.take (n - 2)) := by
 obtain ⟨m, rfl⟩ : ∃ m, n = m + 2 := ⟨n - 2, by omega⟩
 have e : V = V.take (m + 2) := by rw [List.take_of_length_le (by omega)]
 rw [show m + 2 - 1 = m + 1 by omega, show m + 2 - 2 = m by omega]
 conv => lhs; rw [e]
 rw [show m + 2 = m + 1 + 1 by omega, val_take_succ, val_take_succ, Nat.pow_succ]
 grind
theorem three_top (us : List Nat) (j n : Nat) (h2 : 2 ≤ n) :
 wv us j (n + 1) = ((ix us (j + n) * 1000000000 + ix us (j + n - 1)) * 1000000000 + ix us (j + n - 2)) * 1000000000 ^ (n - 2) + wv us j (n - 2) := by
 obtain ⟨m, rfl⟩ : ∃ m, n = m + 2 := ⟨n - 2, by omega⟩
 rw [show j + (m + 2) - 1 = j + (m + 1) by omega, show j + (m + 2) - 2 = j + m by omega, show m + 2 - 2 = m by omega, show m + 2 + 1 = m + 1 + 1 + 1 by omega,
  wv_succ, wv_succ, wv_succ, Nat.pow_succ, Nat.pow_succ, show j + (m + 1 + 1) = j + (m + 2) by omega]
 grind
theorem window {us : List Nat} {t n Y : Nat} (hw : val (us.drop (t + 1)) < Y) (hY : Y < 1000000000 ^ n) : val (us.drop t) = wv us t (n + 1) := by
 have h1 := wv_rest us (t + 1) n
 have h2 : val (us.drop (t + 1 + n)) = 0 := by
  rcases Nat.eq_zero_or_pos (val (us.drop (t + 1 + n))) with h | h
  ·exact h
  ·have := Nat.mul_le_mul_left (1000000000 ^ n) h
   omega
 rw [wv_rest us t (n + 1), show t + (n + 1) = t + 1 + n by omega, h2]; omega
theorem window_lt {us : List Nat} {t Y : Nat} (hA : AllB us) (ht : t < us.length) (hw : val (us.drop (t + 1)) < Y) : val (us.drop t) < Y * 1000000000 := by
 rw [val_drop us t ht]
 have := hA.ix t
 omega
theorem top_le {u0 v1 Y r s w P : Nat} (hw : w < Y * 1000000000) (e : w = u0 * (P * 1000000000) + r) (e' : Y = v1 * P + s) (hs : s < P) : u0 ≤ v1 := by
 rcases Nat.lt_or_ge v1 u0 with h | h
 ·have h1 : (v1 + 1) * (P * 1000000000) ≤ u0 * (P * 1000000000) := Nat.mul_le_mul_right _ h
  have h2 : (v1 + 1) * (P * 1000000000) = (v1 * P + P) * 1000000000 := by grind
  omega
 ·exact h
theorem msub_step {us vs V : List Nat} {j i cc bb guess s bb' : Nat} (hk : j + i < us.length)
 (hv : wv us j i + guess * val (V.take i) = wv vs j i + (cc + bb) * 1000000000 ^ i)
 (e : s + (guess * ix V i + cc) % 1000000000 + bb = ix vs (j + i) + bb' * 1000000000) :
 wv (us.set (j + i) s) j (i + 1) + guess * val (V.take (i + 1)) = wv vs j (i + 1) + ((guess * ix V i + cc) / 1000000000 + bb') * 1000000000 ^ (i + 1) := by
 rw [wv_put hk, wv_succ, val_take_succ]
 have h1 : (guess * ix V i + cc) % 1000000000 + 1000000000 * ((guess * ix V i + cc) / 1000000000) = guess * ix V i + cc := Nat.mod_add_div _ _
 generalize (guess * ix V i + cc) % 1000000000 = p at *
 generalize (guess * ix V i + cc) / 1000000000 = c at *
 have h2 : (s + p + bb) * 1000000000 ^ i = (ix vs (j + i) + bb' * 1000000000) * 1000000000 ^ i := by rw [e]
 have h3 : (p + 1000000000 * c) * 1000000000 ^ i = (guess * ix V i + cc) * 1000000000 ^ i := by rw [h1]
 rw [Nat.pow_succ]
 grind
theorem aback_step {us vs V : List Nat} {j i c s c' : Nat} (hk : j + i < us.length)
 (hv : wv us j i + c * 1000000000 ^ i = wv vs j i + val (V.take i)) (e : s + c' * 1000000000 = ix vs (j + i) + ix V i + c) :
 wv (us.set (j + i) s) j (i + 1) + c' * 1000000000 ^ (i + 1) = wv vs j (i + 1) + val (V.take (i + 1)) := by
 rw [wv_put hk, wv_succ, val_take_succ]
 have h2 : (s + c' * 1000000000) * 1000000000 ^ i = (ix vs (j + i) + ix V i + c) * 1000000000 ^ i := by rw [e]
 rw [Nat.pow_succ]
 grind
theorem guess_end {w Y guess : Nat} (hY : 0 < Y) (h1 : w / Y ≤ guess) (h2 : guess * Y < w + Y) : (guess = w / Y ∧ guess * Y ≤ w) ∨ (guess = w / Y + 1 ∧ w < guess * Y) := by
 have e := Nat.div_add_mod w Y
 have hm := Nat.mod_lt w hY
 rcases Nat.eq_or_lt_of_le h1 with h | h
 ·left; refine ⟨h.symm, ?_⟩; rw [← h, Nat.mul_comm]; omega
 ·right
  have h3 : guess ≤ w / Y + 1 := by
   rcases Nat.lt_or_ge (w / Y + 1) guess with h4 | h4
   ·have := Nat.mul_le_mul_right Y h4
    rw [Nat.succ_mul, Nat.add_mul, Nat.one_mul, Nat.mul_comm] at this
    omega
   ·exact h4
  have h5 : guess = w / Y + 1 := by omega
  refine ⟨h5, ?_⟩
  rw [h5, Nat.add_mul, Nat.one_mul, Nat.mul_comm]
  omega
theorem long_step {us us' q : List Nat} {t X Y qs : Nat} (ht : t < us.length) (hq : t < q.length) (hq0 : ix q t = 0) (hl : us'.length = us.length) (hlow : us'.take t = us.take t)
 (hd : val (us'.drop t) + qs * Y = val (us.drop t)) (hX : X = val q * Y + val us) : X = val (q.set t qs) * Y + val us' := by
 have h1 := val_set q t qs hq
 rw [hq0] at h1
 have h2 := val_split us t (by omega)
 have h3 := val_split us' t (by omega)
 rw [hlow] at h3
 have h4 : 1000000000 ^ t * (val (us'.drop t) + qs * Y) = 1000000000 ^ t * val (us.drop t) := by rw [hd]
 have h5 : (val (q.set t qs)) * Y = (val q + qs * 1000000000 ^ t) * Y := by rw [← h1]; simp
 grind
structure LongFacts (us V : List Nat) (j n Y w u0 u1 u2 y1 y2 P yl wl : Nat) : Prop where
 hY : Y = (y1 * 1000000000 + y2) * P + yl
 hyl : yl < P
 hw : w = ((u0 * 1000000000 + u1) * 1000000000 + u2) * P + wl
 hwl : wl < P
 lt : w < Y * 1000000000
 top : u0 ≤ y1
 win : w = wv us j (n + 1)
theorem long_facts {us V : List Nat} {j n Y : Nat} (hV : val V = Y) (hVB : AllB V) (hn : V.length = n) (h2 : 2 ≤ n) (hA : AllB us) (hj : j + n < us.length) (hY : Y < 1000000000 ^ n) (hd : val (us.drop (j + 1)) < Y) :
 LongFacts us V j n Y (val (us.drop j)) (ix us (j + n)) (ix us (j + n - 1)) (ix us (j + n - 2)) (ix V (n - 1)) (ix V (n - 2)) (1000000000 ^ (n - 2)) (val (V.take (n - 2))) (wv us j (n - 2)) := by
 have hwin := window hd hY
 have hlt := window_lt hA (by omega) hd
 have hY2 := two_top hn h2
 rw [hV] at hY2
 have hw3 := three_top us j n h2
 refine ⟨hY2, ?_, hwin.trans hw3, wv_lt hA _ _, hlt, ?_, hwin⟩
 ·have := val_lt (hVB.take (n - 2))
  rwa [List.length_take, Nat.min_eq_left (by omega)] at this
 ·have e1 : val (us.drop j) = ix us (j + n) * (1000000000 ^ (n - 1) * 1000000000) + wv us j n := by
   have e3 : 1000000000 ^ (n - 1) * 1000000000 = 1000000000 ^ n := by rw [← Nat.pow_succ]; congr 1; omega
   rw [hwin, wv_succ, e3]; omega
  have e2 : Y = ix V (n - 1) * 1000000000 ^ (n - 1) + val (V.take (n - 1)) := by
   have := val_take_succ V (n - 1)
   rw [show n - 1 + 1 = n by omega, List.take_of_length_le (by omega), hV] at this
   omega
  have h3 : val (V.take (n - 1)) < 1000000000 ^ (n - 1) := by
   have := val_lt (hVB.take (n - 1))
   rwa [List.length_take, Nat.min_eq_left (by omega)] at this
  exact top_le hlt e1 e2 h3
section
variable {us V : List Nat} {j n Y w u0 u1 u2 y1 y2 P yl wl G R : Nat}
theorem LongFacts.first (h : LongFacts us V j n Y w u0 u1 u2 y1 y2 P yl wl) (hu2 : u2 < 1000000000) (hy : 0 < y1) : w / Y ≤ (u0 * 1000000000 + u1) / y1 := by
 rw [Nat.le_div_iff_mul_le hy]
 refine guess_first (v2 := y2) (yl := yl) (P := P) (u2 := u2) (wl := wl) hu2 h.hwl ?_
 rw [← h.hY, ← h.hw]
 exact Nat.div_mul_le_self w Y
theorem LongFacts.down (h : LongFacts us V j n Y w u0 u1 u2 y1 y2 P yl wl) (hq : G * y1 + R = u0 * 1000000000 + u1) (hg : w / Y ≤ G) (hc : 1000000000 ≤ G ∨ R * 1000000000 + u2 < G * y2) : w / Y ≤ G - 1 := by
 rcases hc with hc | hc
 ·have hY : 0 < Y := by
   rcases Nat.eq_zero_or_pos Y with h0 | h0
   ·have := h.lt; rw [h0] at this; omega
   ·exact h0
  have : w / Y < 1000000000 := by rw [Nat.div_lt_iff_lt_mul hY, Nat.mul_comm]; exact h.lt
  omega
 ·have := guess_down (v1 := y1) (yl := yl) (P := P) (wl := wl) h.hwl hq hc
  rw [← h.hY, ← h.hw] at this
  have h2 := Nat.div_mul_le_self w Y
  have h3 : w / Y < G := by
   rcases Nat.lt_or_ge (w / Y) G with h4 | h4
   ·exact h4
   ·have := Nat.mul_le_mul_right Y h4
    omega
  omega
theorem LongFacts.up (h : LongFacts us V j n Y w u0 u1 u2 y1 y2 P yl wl) (hy : 1 ≤ y1) (hg : G ≤ 1000000000) (hq : G * y1 + R = u0 * 1000000000 + u1) (hc : G * y2 ≤ R * 1000000000 + u2) : G * Y < w + Y := by
 have := guess_up (v2 := y2) (yl := yl) (P := P) (wl := wl) (u2 := u2) h.hyl hy hg hq hc
 rwa [← h.hY, ← h.hw] at this
end
theorem val_eq_zero : ∀ {xs : List Nat}, val xs = 0 → ∀ k, ix xs k = 0
 | [], _, k => ix_nil k
 | x :: r, h, 0 => by simp only [val] at h; rw [ix_zero]; omega
 | x :: r, h, k + 1 => by simp only [val] at h; rw [ix_succ]; exact val_eq_zero (by omega) k
theorem zero_val : ∀ {xs : List Nat}, (∀ k, k < xs.length → ix xs k = 0) → val xs = 0
 | [], _ => rfl
 | x :: r, h => by
  have h0 := h 0 (by simp)
  have h1 := zero_val (xs := r) (fun k hk => by have := h (k + 1) (by simpa using hk); rwa [ix_succ] at this)
  rw [ix_zero] at h0
  simp only [val, h0, h1]
theorem high_zero {us : List Nat} {t n : Nat} (h : val (us.drop t) < 1000000000 ^ n) (k : Nat) (hk : t + n ≤ k) : ix us k = 0 := by
 have h1 := wv_rest us t n
 have h2 : val (us.drop (t + n)) = 0 := by
  rcases Nat.eq_zero_or_pos (val (us.drop (t + n))) with h3 | h3
  ·exact h3
  ·have := Nat.mul_le_mul_left (1000000000 ^ n) h3
   omega
 have := val_eq_zero h2 (k - (t + n))
 rwa [ix_drop, show t + n + (k - (t + n)) = k by omega] at this
theorem drop_val {us : List Nat} {j n : Nat} (hz : ∀ k, j + n < k → ix us k = 0) : val (us.drop j) = wv us j n + ix us (j + n) * 1000000000 ^ n := by
 rw [wv_rest us j (n + 1), wv_succ, show val (us.drop (j + (n + 1))) = 0 from zero_val fun k _ => by rw [ix_drop]; exact hz _ (by omega)]
 omega
theorem take_same {us us2 : List Nat} {j : Nat} (hl : us2.length = us.length) (h : ∀ k, k < j → ix us2 k = ix us k) : us2.take j = us.take j := by
 refine ext_ix _ _ (by simp [hl]) fun k hk => ?_
 rw [List.length_take] at hk
 rw [ix_take _ _ _ (by omega), ix_take _ _ _ (by omega)]
 exact h k (by omega)
theorem put_top {us us' : List Nat} {j n x : Nat} (hl : us'.length = us.length) (hj : j + n < us.length) (hz : ∀ k, j + n < k → ix us k = 0) (ho : ∀ k, k < j ∨ j + n < k → ix us' k = ix us k) :
 val ((us'.set (j + n) x).drop j) = wv us' j n + x * 1000000000 ^ n ∧ (us'.set (j + n) x).take j = us.take j ∧ ∀ k, j + n < k → ix (us'.set (j + n) x) k = 0 := by
 have hs : ∀ k, j + n < k → ix (us'.set (j + n) x) k = 0 := fun k hk => by
  rw [ix_set _ _ _ _ (by omega), if_neg (by omega), ho k (by omega), hz k hk]
 refine ⟨?_, take_same (by simpa using hl) fun k hk => ?_, hs⟩
 ·rw [drop_val hs, ix_set _ _ _ _ (by omega), if_pos rfl, wv_set (by omega) (Nat.le_refl _)]
 ·rw [ix_set _ _ _ _ (by omega), if_neg (by omega), ho k (by omega)]
theorem sub_end {w0 w1 G Y cb u0 wd Bn : Nat} (hY : 0 < Y) (h1 : w1 + G * Y = w0 + cb * Bn) (h2 : wd = w0 + u0 * Bn) (hcb : cb ≤ u0) (hq : wd / Y ≤ G) (hG : G * Y < wd + Y) :
 w1 + (u0 - cb) * Bn + G * Y = wd ∧ G = wd / Y ∧ w1 + (u0 - cb) * Bn < Y := by
 obtain ⟨x, rfl⟩ : ∃ x, u0 = cb + x := ⟨u0 - cb, by omega⟩
 have e : w1 + (cb + x - cb) * Bn + G * Y = wd := by
  rw [show cb + x - cb = x by omega, h2, Nat.add_mul]; omega
 have hm := Nat.mod_lt wd hY
 have hd := Nat.div_add_mod wd Y
 rcases guess_end hY hq hG with ⟨h3, h4⟩ | ⟨h3, h4⟩
 ·refine ⟨e, h3, ?_⟩
  rw [h3, Nat.mul_comm (wd / Y)] at e
  omega
 ·omega
theorem aback_end {w0 w1 w4 G Y cb c u0 wd Bn : Nat} (hY : 0 < Y) (hYB : Y < Bn) (h1 : w1 + G * Y = w0 + cb * Bn) (h2 : wd = w0 + u0 * Bn) (hcb : u0 < cb) (hw1 : w1 < Bn) (hw4 : w4 < Bn) (h4 : w4 + c * Bn = w1 + Y) (hc : c ≤ 1)
 (hq : wd / Y ≤ G) (hG : G * Y < wd + Y) : G = wd / Y + 1 ∧ c = 1 ∧ cb = u0 + 1 ∧ w4 + wd / Y * Y = wd ∧ w4 < Y := by
 have hm := Nat.mod_lt wd hY
 have hd := Nat.div_add_mod wd Y
 obtain ⟨e, rfl⟩ : ∃ e, cb = u0 + 1 + e := ⟨cb - u0 - 1, by omega⟩
 rcases guess_end hY hq hG with ⟨h3, h5⟩ | ⟨h3, h5⟩
 ·exfalso
  rw [Nat.add_mul, Nat.add_mul] at h1
  omega
 ·rw [h3, Nat.add_mul, Nat.mul_comm (wd / Y)] at h1
  rw [Nat.add_mul, Nat.add_mul] at h1
  have e0 : e = 0 := by
   rcases Nat.eq_zero_or_pos e with h | h
   ·exact h
   ·have := Nat.mul_le_mul_right Bn h
    omega
  subst e0
  have hc1 : c = 1 := by
   rcases Nat.lt_or_ge c 1 with h | h
   ·have : c = 0 := by omega
    subst this
    omega
   ·omega
  subst hc1
  refine ⟨h3, rfl, rfl, ?_, ?_⟩
  ·rw [Nat.mul_comm]; omega
  ·omega
theorem div_of {X Y q r : Nat} (h : X = q * Y + r) (hr : r < Y) : q = X / Y ∧ r = X % Y := by
 subst h
 have hY : 0 < Y := by omega
 constructor
 ·rw [Nat.add_comm, Nat.mul_comm, Nat.add_mul_div_left _ _ hY, Nat.div_eq_of_lt hr]; omega
 ·rw [Nat.add_comm, Nat.mul_comm, Nat.add_mul_mod_self_left, Nat.mod_eq_of_lt hr]
end Go.Proofs.YtgcigdahjabimaaGreatDoor
