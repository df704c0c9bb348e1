/- The law for a region that draws its order, one of whose head operations changes what lay (an append in place). No program in sight. mul and sub of the reports' laws: the walks. ReportChecks' test of a spot, and of a list of spots: the walks. Moving all points changes no error, plainly. No program in sight. Rows of structs that no group of digits lies in: append keeps them so. No program in sight. fiducialref02.Brief and Short: the walks. -/
import Derived.Test.YtgcigdahjabimaaGreatDoorPr9
import Derived.Test.YtgcigdahjabimaaGreatDoorPr37
import Derived.Test.YtgcigdahjabimaaGreatDoorPr26
import Derived.Test.YtgcigdahjabimaaGreatDoorPr28
import Derived.Test.YtgcigdahjabimaaGreatDoorPr27
import Derived.Test.YtgcigdahjabimaaGreatDoorPr33
import Derived.Deep.AppendLies
namespace Go.Proofs.YtgcigdahjabimaaGreatDoor
open Go.RowKit

section
variable {P : Program} {ops : Array Oper} {Q : Exit → Act → World → Prop} {vs : Nat → Value} {a : Act}
theorem head_s {m s : Nat} (hok : RegionOk ops m) (Φ : Nat → Value → World → Prop) (J I : World → Prop) (a0 : Act)
 (hΦ : ∀ i v w w', i < m → Φ i v w → Keeps w w' → Φ i v w') (hJ : ∀ w w', J w → Keeps w w' → J w') (hI : ∀ w w', I w → Keeps w w' → I w')
 (hstep : ∀ i, i < m → i ≠ s → ∀ vs w, J w → (∀ j ∈ depsOf ops m i, Φ j (vs j) w) → ∀ K : Act → World → Prop,
  (∀ v w', Hands Φ [] i w v w' → K ((fr ops vs a0 (depsOf ops m i)).put (dstOf ops i) v) w') → wpOp P ops (fun _ _ _ => False) i K (fr ops vs a0 (depsOf ops m i)) w)
 (hspec : ∀ vs w, J w → I w → (∀ j ∈ depsOf ops m s, Φ j (vs j) w) → ∀ K : Act → World → Prop,
  (∀ v w', J w' → (∀ j u, j < m → j ≠ s → Φ j u w → Φ j u w') → Φ s v w' → K ((fr ops vs a0 (depsOf ops m s)).put (dstOf ops s) v) w') → wpOp P ops (fun _ _ _ => False) s K (fr ops vs a0 (depsOf ops m s)) w)
 (htail : ∀ vs w, J w → (∀ i, i < m → Φ i (vs i) w) → wpList P ops Q (ops.toList.drop m) (fr ops vs a0 (List.range m)) w) :
 ∀ (fuel : Nat) (l : List Nat) (vs : Nat → Value) (listed : Array Bool) (w : World), l.Nodup → (∀ j ∈ l, j < m) → ops.size ≤ l.length + fuel → listed.size = ops.size →
  (∀ j, j < ops.size → (listed.getD j false = true ↔ j ∈ l)) → (∀ j ∈ l, ∀ k ∈ bindsOf ops j, k ∈ l) → J w → (s ∉ l → I w) → (∀ j ∈ l, Φ j (vs j) w) →
  wpAny P .any ops Q fuel listed (fr ops vs a0 l) w := by
 have hms : m ≤ ops.size := by
  rcases Nat.eq_zero_or_pos m with h | h
  ·omega
  ·obtain ⟨o, ho, -⟩ := hok.noSel (m - 1) (by omega)
   have := (Array.getElem?_eq_some_iff.1 ho).1
   omega
 intro fuel
 induction fuel with
 | zero =>
  intro l vs listed w hn hl hf hsz hll hcl hk hI0 hΦl
  refine (?_ : wpAny P .any ops Q 0 listed _ w)
  have hlen := nodup_len m l hn hl
  have hall : ∀ j, j < m → j ∈ l := fun j hj => Classical.byContradiction fun hc => by
   have := nodup_len m (j :: l) (List.nodup_cons.2 ⟨hc, hn⟩) (fun x hx => by rcases List.mem_cons.1 hx with rfl | h; exact hj; exact hl x h)
   simp at this
   omega
  have hfr : fr ops vs a0 l = fr ops vs a0 (List.range m) := by
   have ht : (fr ops vs a0 l).tmps = (fr ops vs a0 (List.range m)).tmps := Array.ext_getElem? fun t => fr_same
    (fun j k hj hk hdj hdk => hok.apart j k (hj.elim (hl j) List.mem_range.1) (hk.elim (hl k) List.mem_range.1) t hdj hdk) (fun j _ => ⟨fun h => List.mem_range.2 (hl j h), fun h => hall j (List.mem_range.1 h)⟩)
   have hd : (fr ops vs a0 l).defers = (fr ops vs a0 (List.range m)).defers := by rw [fr_defers, fr_defers]
   exact act_ext ht hd
  rw [hfr]
  refine tail_any hok 0 m listed _ w (Nat.le_refl _) (by omega) hms hsz (fun j hj => ?_) (htail vs w hk (fun i hi => hΦl i (hall i hi)))
  rw [hll j hj]
  exact ⟨hl j, hall j⟩
 | succ fuel ih =>
  intro l vs listed w hn hl hf hsz hll hcl hk hI0 hΦl
  by_cases hall : ∀ j, j < m → j ∈ l
  ·have hfr : fr ops vs a0 l = fr ops vs a0 (List.range m) := by
    have ht : (fr ops vs a0 l).tmps = (fr ops vs a0 (List.range m)).tmps := Array.ext_getElem? fun t => fr_same
     (fun j k hj hk hdj hdk => hok.apart j k (hj.elim (hl j) List.mem_range.1) (hk.elim (hl k) List.mem_range.1) t hdj hdk) (fun j _ => ⟨fun h => List.mem_range.2 (hl j h), fun h => hall j (List.mem_range.1 h)⟩)
    have hd : (fr ops vs a0 l).defers = (fr ops vs a0 (List.range m)).defers := by rw [fr_defers, fr_defers]
    exact act_ext ht hd
   have hlen := nodup_len m l hn hl
   rw [hfr]
   refine tail_any hok (fuel + 1) m listed _ w (Nat.le_refl _) (by omega) hms hsz (fun j hj => ?_) (htail vs w hk (fun i hi => hΦl i (hall i hi)))
   rw [hll j hj]
   exact ⟨hl j, hall j⟩
  ·refine ⟨fun e => ?_, fun i hi => ?_⟩
   ·exfalso
    obtain ⟨j, ⟨hj, hjl⟩, hmin⟩ := least (p := fun j => j < ops.size ∧ j ∉ l) (Classical.byContradiction fun hc => hall fun j hj => Classical.byContradiction fun hjl => hc ⟨j, by omega, hjl⟩)
    have : j ∈ Region.ready .any ops listed := by
     refine ready_iff.2 ⟨?_, hj, fun k hk => ?_⟩
     ·rw [getD_both (by omega)]
      cases hc : listed.getD j false with
      | false => rfl
      | true => exact absurd ((hll j hj).1 hc) hjl
     ·have hkj := hok.back j k hk
      refine (hll k (by omega)).2 (Classical.byContradiction fun hkl => hmin k hkj ⟨by omega, hkl⟩)
    rw [e] at this
    cases this
   ·obtain ⟨h0, hlt, hb⟩ := ready_iff.1 hi
    have hbl : ∀ j ∈ bindsOf ops i, j ∈ l := fun j hj => (hll j (by have := hok.back i j hj; omega)).1 (hb j hj)
    have him : i < m := Nat.lt_of_not_le fun hmi => hall fun j hj => by
     obtain ⟨fu, hfu⟩ := hok.tail i hlt hmi j (by omega)
     have := reach_closed (ops := ops) (S := (· ∈ l)) hcl fu i hbl j hfu
     exact this
    have hil : i ∉ l := fun h => by
     have := (hll i hlt).2 h
     rw [getD_both (by omega), this] at h0
     cases h0
    obtain ⟨o, ho, hsel⟩ := hok.noSel i him
    have hsel' : ∀ cs b, o.op ≠ .select cs b := fun cs b e => by simp [isSel, e] at hsel
    have heval : ∀ t, t ∈ o.looksAt ops → (fr ops vs a0 l).tmps[t]? = (fr ops vs a0 (depsOf ops m i)).tmps[t]? := fun t ht => looks_fr hok him ho hl hbl ht
    have he : execOp (fr ops vs a0 l).eval o = execOp (fr ops vs a0 (depsOf ops m i)).eval o := execOp_congr o hsel' fun x hx => by
     cases x with
     | tmp t =>
      have := heval t (List.mem_append_left _ (List.mem_filterMap.2 ⟨.tmp t, by simpa using hx, rfl⟩))
      simp only [Act.eval, Array.getD_eq_getD_getElem?, this]
     | _ => rfl
    have hw : Region.wanted o (yielded ops (fr ops vs a0 l).tmps) = Region.wanted o (yielded ops (fr ops vs a0 (depsOf ops m i)).tmps) := by
     unfold Region.wanted
     cases hg : o.guard with
     | none => rfl
     | some gw =>
      obtain ⟨g, want⟩ := gw
      have : yielded ops (fr ops vs a0 l).tmps g = yielded ops (fr ops vs a0 (depsOf ops m i)).tmps g := by
       unfold yielded
       cases ht : (ops[g]?).bind (·.dst) with
       | none => rfl
       | some t =>
        have := heval t (by simp [Oper.looksAt, hg, ht])
        simp only [Option.bind_some, this]
      simp only [this]
    have hdst : dstOf ops i = o.dst := by simp [dstOf, ho]
    have hdeps : ∀ j ∈ depsOf ops m i, j ∈ l := fun j hj => by
     simp only [depsOf, List.mem_filter, List.mem_range, List.contains_iff_mem] at hj
     exact hbl j hj.2
    have hmove : wpOp P ops Q i (fun a' w' => ∃ v, a' = (fr ops vs a0 l).put o.dst v ∧ (J w' ∧ (s ∉ i :: l → I w') ∧ Φ i v w' ∧ ∀ j ∈ l, Φ j (vs j) w')) (fr ops vs a0 l) w := by
     refine wpOp_move (P := P) (Q := Q) (X := fun v w' => J w' ∧ (s ∉ i :: l → I w') ∧ Φ i v w' ∧ ∀ j ∈ l, Φ j (vs j) w') ho he hw (by rw [fr_size, fr_size]) ?_
     intro K hK
     by_cases his : i = s
     ·subst his
      refine hspec vs w hk (hI0 hil) (fun j hj => hΦl j (hdeps j hj)) K fun v w' h1 h2 h3 => hdst ▸ hK v w' ⟨h1, fun h => absurd List.mem_cons_self h, h3, fun j hj => h2 j _ (hl j hj) (fun e => hil (e ▸ hj)) (hΦl j hj)⟩
     ·refine hstep i him his vs w hk (fun j hj => hΦl j (hdeps j hj)) K fun v w' hh => hdst ▸ hK v w' ⟨hJ _ _ hk hh.1, fun h => hI _ _ (hI0 fun hm => h (List.mem_cons_of_mem _ hm)) hh.1, hh.2.1, fun j hj => hΦ j _ _ _ (hl j hj) (hΦl j hj) hh.1⟩
    refine wpOp_mono (fun a' w' hX => ?_) hmove
    obtain ⟨v, rfl, hj1, hi1, hv, hrest⟩ := hX
    have hfr : (fr ops vs a0 l).put o.dst v = fr ops (fun j => if j = i then v else vs j) a0 (i :: l) := by
     rw [fr, hdst, fr_ext (us := fun j => if j = i then v else vs j) (vs := vs) l (fun j hj => by simp [show j ≠ i from fun e => hil (e ▸ hj)])]
     simp
    rw [hfr]
    refine ih (i :: l) _ _ w' (List.nodup_cons.2 ⟨hil, hn⟩) (fun j hj => ?_) (by simp only [List.length_cons]; omega) (by simpa using hsz) (fun j hj => ?_) (fun j hj k hk' => ?_) hj1 hi1 (fun j hj => ?_)
    ·rcases List.mem_cons.1 hj with rfl | h
     ·exact him
     ·exact hl j h
    ·by_cases hji : j = i
     ·subst hji
      simp [hsz, hlt]
     ·rw [getD_set_ne false (Ne.symm hji), hll j hj]
      simp [hji]
    ·rcases List.mem_cons.1 hj with rfl | h
     ·exact List.mem_cons_of_mem _ (hbl k hk')
     ·exact List.mem_cons_of_mem _ (hcl j h k hk')
    ·by_cases hji : j = i
     ·subst hji
      simpa using hv
     ·have hjl : j ∈ l := (List.mem_cons.1 hj).resolve_left hji
      simp only [hji, if_false]
      exact hrest j hjl
theorem wp_region_s {id m s : Nat} {a0 : Act} {w0 : World} {o : Oper} (ds : List (Nat × Option Tmp)) (hm : P.follows .mixedOrders = true) (hok : regionOk ops m = true) (hi : ops[s]? = some o) (hg : o.guard = none) (hl : (depsOf ops m s).map (fun j => (j, dstOf ops j)) = ds)
 (Φ : Nat → Value → World → Prop) (J I : World → Prop) (hJ0 : J w0.drew) (hI0 : I w0.drew)
 (hΦ : ∀ i v w w', i < m → Φ i v w → Keeps w w' → Φ i v w') (hJ : ∀ w w', J w → Keeps w w' → J w') (hI : ∀ w w', I w → Keeps w w' → I w')
 (hstep : ∀ i, i < m → i ≠ s → ∀ vs w, J w → (∀ j ∈ depsOf ops m i, Φ j (vs j) w) → Step P ops Φ [] m i vs a0 w)
 (hspec : ∀ vs w, J w → I w → (∀ j ∈ depsOf ops m s, Φ j (vs j) w) → ∀ K : Act → World → Prop,
  (∀ v w', J w' → (∀ j u, j < m → j ≠ s → Φ j u w → Φ j u w') → Φ s v w' → K ((frD vs a0 ds).put o.dst v) w') → Oper.wp P o (frD vs a0 ds) w K (fun _ _ _ => False))
 (htail : ∀ vs w, J w → (∀ i, i < m → Φ i (vs i) w) → wpList P ops Q (ops.toList.drop m) (fr ops vs a0 (List.range m)) w) :
 (Code.region id ops true).wp P Q a0 w0 := by
 refine wp_region_any hm ?_
 refine head_s (s := s) (regionOk_spec hok) Φ J I a0 hΦ hJ hI (fun i hi hs vs w hj hd => (hstep i hi hs vs w hj hd).go) (fun vs w hj hiw hd K hK => ?_) htail ops.size [] (fun _ => undef) _ _ List.nodup_nil (fun _ h => by cases h) (by simp) (by simp)
  (fun j hj => by simp [hj]) (fun _ h => by cases h) hJ0 (fun _ => hI0) (fun _ h => by cases h)
 have hd' : dstOf ops s = o.dst := by simp [dstOf, hi]
 rw [fr_frD, hl, hd'] at hK
 rw [fr_frD, hl]
 unfold wpOp
 have hw : Region.wanted o (yielded ops (frD vs a0 ds).tmps) = true := by simp [Region.wanted, hg]
 simp only [hi, hw, if_true]
 exact .inl (hspec vs w hj hiw hd K hK)
end
end Go.Proofs.YtgcigdahjabimaaGreatDoor
namespace Go.Proofs.YtgcigdahjabimaaGreatDoor
open Go.RowKit Go.Shelf
end Go.Proofs.YtgcigdahjabimaaGreatDoor
namespace Go.Proofs.YtgcigdahjabimaaGreatDoor
section
variable {fl : List QV} {sp : List Int} {b0 b1 b2 : Int}
end
end Go.Proofs.YtgcigdahjabimaaGreatDoor
namespace Go.Proofs.YtgcigdahjabimaaGreatDoor
open Go.RowKit

def CleanRow (w : World) (base : Nat) (e : TypeId) (size : Nat) (v : Value) (n : Nat) (xs : List Value) : Prop :=
 ∃ g cap cur, v = .slice (some ⟨g, 0, none⟩) n cap ∧ base ≤ g ∧ w.heap[g]? = some (.cells cur e (0, 0)) ∧ n ≤ cap ∧ cap ≤ maxLen ∧ cur.size = cap * size ∧ cur.toList.take (n * size) = xs ∧ cur.toList.all noU32 = true
section
variable {w w' : World} {base : Nat} {e : TypeId} {size : Nat} {v : Value} {n : Nat} {xs : List Value}
theorem CleanRow.owns (h : CleanRow w base e size v n xs) : w.ownsRow base e size v n xs := by
 obtain ⟨g, cap, cur, rfl, hb, hg, hnc, hcm, hcs, ht, -⟩ := h
 refine ⟨?_, .inr ⟨g, cap, cur, rfl, hb, hg, hnc, hcm, hcs, ht⟩⟩
 rw [← ht, List.length_take, Array.length_toList, hcs]
 exact Nat.min_eq_left (Nat.mul_le_mul_right _ hnc)
theorem CleanRow.below (h : CleanRow w base e size v n xs) (hk : Keeps w w') : CleanRow w' base e size v n xs := by
 obtain ⟨g, cap, cur, rfl, hb, hg, hr⟩ := h
 have hlt : g < w.heap.size := (Array.getElem?_eq_some_iff.1 hg).1
 exact ⟨g, cap, cur, rfl, hb, (hk.block g hlt).trans hg, hr⟩
theorem CleanRow.lt (h : CleanRow w base e size v n xs) : ∀ g, v.ownBlock = some g → base ≤ g ∧ g < w.heap.size := by
 obtain ⟨g, cap, cur, rfl, hb, hg, -⟩ := h
 intro k hk
 obtain rfl : g = k := by simpa [Value.ownBlock] using hk
 exact ⟨hb, (Array.getElem?_eq_some_iff.1 hg).1⟩
theorem CleanRow.same (h : CleanRow w base e size v n xs) (hg : w.grownBy w' v.ownBlock) : Same32 w w' := by
 obtain ⟨g, cap, cur, rfl, -, hh, -, -, -, -, hall⟩ := h
 rintro u ys ⟨A, c, rfl, h1, h2, h0, hrow⟩
 refine ⟨A, c, rfl, h1, h2, h0, fun hn => ?_⟩
 obtain ⟨b, o, rfl, hlt, hc⟩ := hrow hn
 have hne : some b ≠ Value.ownBlock (.slice (some ⟨g, 0, none⟩) n cap) := by
  intro e2
  obtain rfl : b = g := by simpa [Value.ownBlock] using e2
  have hc0 := hc 0 hn
  rw [cell_of_row w b (o + 0) cur _ _ hh] at hc0
  have hm : u32 ys 0 ∈ cur.toList := by
   rw [← Array.getElem?_toList] at hc0
   exact List.mem_of_getElem? hc0
  have := List.all_eq_true.1 hall _ hm
  simp [u32, noU32] at this
 exact ⟨b, o, rfl, Nat.lt_of_lt_of_le hlt hg.size, fun j hj => hg.cell (hc j hj) hne⟩
theorem zero_clean {z : Array Value} (hz : z.toList.all noU32 = true) (k : Nat) : (Builtin.zeroCells z k).toList.all noU32 = true := by
 rw [List.all_eq_true]
 intro x hx
 unfold Builtin.zeroCells at hx
 simp only [Array.toList_map, List.mem_map] at hx
 obtain ⟨i, hi, rfl⟩ := hx
 have hi : i < k * z.size := by simpa using hi
 have hp : 0 < z.size := Nat.pos_of_ne_zero fun h => by rw [h] at hi; simp at hi
 have hlt : i % z.size < z.size := Nat.mod_lt _ hp
 rw [getElem!_pos z _ hlt]
 exact List.all_eq_true.1 hz _ (Array.getElem_mem_toList hlt)
end
theorem own_cells {w : World} {b : Nat} {t : TypeId} {vs : List Value} (h : Own w b t vs) : ∀ j u, vs[j]? = some u → w.cell? ((⟨b, 0, none⟩ : Addr).add j) = some u := fun j u hj => by
 rw [show (⟨b, 0, none⟩ : Addr).add j = ⟨b, j, none⟩ by unfold Addr.add; split <;> simp_all, h.cell]
 exact hj
def Elems (w : World) (xs : List Value) (qs : List Rat) : Prop :=
 xs.length = qs.length * 4 ∧ ∀ j q, qs[j]? = some q → ∃ c0 c1 c2 c3, xs[j * 4]? = some c0 ∧ xs[j * 4 + 1]? = some c1 ∧ xs[j * 4 + 2]? = some c2 ∧ xs[j * 4 + 3]? = some c3 ∧ RatRep w (.agg #[c0, c1, c2, c3]) q
theorem Elems.nil {w : World} : Elems w [] [] := ⟨rfl, fun j q h => by simp at h⟩
theorem Elems.map {w w' : World} {xs : List Value} {qs : List Rat} (h : Elems w xs qs) (hs : Same32 w w') : Elems w' xs qs :=
 ⟨h.1, fun j q hj => by obtain ⟨c0, c1, c2, c3, e0, e1, e2, e3, hr⟩ := h.2 j q hj; exact ⟨c0, c1, c2, c3, e0, e1, e2, e3, hr.map hs⟩⟩
end Go.Proofs.YtgcigdahjabimaaGreatDoor
namespace Go.Proofs.YtgcigdahjabimaaGreatDoor
open Go.RowKit Go.Shelf
abbrev RA := Bool × List Nat × Bool × List Nat
def RatA (w : World) (V : Value) (x : RA) : Prop := RatArg w V x.1 x.2.1 x.2.2.1 x.2.2.2 ∧ x.2.1.length ≤ 35184372088832 ∧ x.2.2.2.length ≤ 35184372088832
def raQ (x : RA) : QV := (rcnt x.1 x.2.1 x.2.2.1 x.2.2.2, rvalidB x.1 x.2.1 x.2.2.1 x.2.2.2)
def raD (x : RA) : Nat := x.2.1.length + x.2.2.2.length
theorem lasts_ra : Lasts RatA := fun _ _ _ _ hk h => ⟨h.1.map hk.same32, h.2⟩
theorem RatA.v2 {w : World} {V : Value} {x : RA} (h : RatA w V x) (hd : raD x ≤ 100000) : RatV2 w V (raQ x) := by
 unfold raD at hd
 exact ⟨_, _, _, _, h.1, rfl, rfl, by omega, by omega⟩
theorem raQ_sz (x : RA) : szR (raQ x).1 ≤ raD x + 1 := by
 have := szR_rcnt (n1 := x.1) (xs := x.2.1) (n2 := x.2.2.1) (ys := x.2.2.2)
 unfold raD raQ
 simp only
 omega
theorem Row4.v2 {w : World} {A : Option Addr} {l : List RA} (h : Row4 RatA w A l) (hd : ∀ x ∈ l, raD x ≤ 100000) : Row4 RatV2 w A (l.map raQ) := fun j x hj => by
 rw [List.getElem?_map] at hj
 obtain ⟨y, hy, rfl⟩ := Option.map_eq_some_iff.1 hj
 obtain ⟨B, o, c0, c1, c2, c3, e, hc, hx⟩ := h j y hy
 exact ⟨B, o, c0, c1, c2, c3, e, hc, hx.v2 (hd y (List.mem_of_getElem? hy))⟩
theorem RatA.open4 {w : World} {c0 c1 c2 c3 : Value} {x : RA} (h : RatA w (.agg #[c0, c1, c2, c3]) x) : ∃ A c B d, c0 = .bool x.1 ∧ c1 = .slice A x.2.1.length c ∧ c2 = .bool x.2.2.1 ∧ c3 = .slice B x.2.2.2.length d := by
 obtain ⟨A, c, B, d, e⟩ := h.1.open2
 simp only [Value.agg.injEq, Array.mk.injEq, List.cons.injEq, and_true] at e
 exact ⟨A, c, B, d, e⟩
def briefB (x : RA) : Bool := decide (x.2.1.length ≤ 1) && decide (x.2.2.2.length ≤ 1) && (decide (x.2.1.length = 0) || decide ((ix x.2.1 0 : Int) < 100000)) && (decide (x.2.2.2.length = 0) || decide ((ix x.2.2.2 0 : Int) ≤ 100))
def shB (M G : Nat) (l : List RA) : Bool := decide (l.length ≤ M) && l.all fun x => decide (raD x ≤ G) && briefB x
theorem shB_of {M G : Nat} {l : List RA} (h : shB M G l = true) : l.length ≤ M ∧ ∀ x ∈ l, raD x ≤ G := by
 unfold shB at h
 simp only [Bool.and_eq_true, decide_eq_true_eq, List.all_eq_true] at h
 exact ⟨h.1, fun x hx => (h.2 x hx).1⟩
theorem all_snocA {p : RA → Bool} {l : List RA} {k : Nat} {x : RA} (hq : l[k]? = some x) (h : (l.take k).all p = true) (hx : p x = true) : (l.take (k + 1)).all p = true := by
 rw [List.take_add_one, List.all_append, h, hq]
 simpa using hx
theorem all_notA {p : RA → Bool} {l : List RA} {k : Nat} {x : RA} (hq : l[k]? = some x) (hx : p x = false) : l.all p = false := by
 rw [List.all_eq_false]
 exact ⟨x, List.mem_of_getElem? hq, by rw [hx]; simp⟩
theorem U32.first {w : World} {A : Option Addr} {n c : Nat} {xs : List Nat} (h : U32 w (.slice A n c) xs) (hn : n = 1) : ∃ B o, A = some ⟨B, o, none⟩ ∧ ∀ W, Keeps w W → W.cell? ⟨B, o, none⟩ = some (.int .u32 (ix xs 0 : Nat)) := by
 obtain ⟨A', c', e, h1, h2, h3, h4⟩ := h
 simp only [Value.slice.injEq] at e
 obtain ⟨rfl, e2, rfl⟩ := e
 obtain ⟨b, o, rfl, hb, hc⟩ := h4 (by omega)
 refine ⟨b, o, rfl, fun W hk => ?_⟩
 have h0 := hc 0 (by omega)
 rw [Nat.add_zero] at h0
 exact cell_keep h0 hk
set_option maxRecDepth 100000 in
set_option maxHeartbeats 1000000 in
theorem gbrief_any {w : World} {V : Value} {x : RA} (h : RatA w V x) : Calls Tryz.prog 38 #[V] w fun e w' => e = .returned (.bool (briefB x)) ∧ Keeps w w' := by
 obtain ⟨n1, xs, n2, ys⟩ := x
 obtain ⟨h, l1, l2⟩ := h
 simp only at h l1 l2
 obtain ⟨A, c, B, d, rfl⟩ := h.open2
 obtain ⟨x, v, y, u, e, ⟨v1, e1, h1⟩, ⟨v2, e2, h2⟩⟩ := h
 simp only [Value.agg.injEq, Array.mk.injEq, List.cons.injEq, and_true] at e e1 e2
 obtain ⟨rfl, rfl, rfl, rfl⟩ := e
 obtain ⟨-, rfl⟩ := e1
 obtain ⟨-, rfl⟩ := e2
 have S := (St.start w).alloc 31 [.bool n1, .slice A xs.length c, .bool n2, .slice B ys.length d]
 obtain ⟨W0, hW0, S⟩ := S.pack
 have H1 := Lib.hid (fun e => U32.first h1 e)
 have H2 := Lib.hid (fun e => U32.first h2 e)
 have hb : briefB (n1, xs, n2, ys) = (decide (xs.length ≤ 1) && decide (ys.length ≤ 1) && (decide (xs.length = 0) || decide ((ix xs 0 : Int) < 100000)) && (decide (ys.length = 0) || decide ((ix ys 0 : Int) ≤ 100))) := rfl
 obtain ⟨n, hn⟩ : ∃ n, xs.length = n := ⟨_, rfl⟩
 obtain ⟨m, hm⟩ : ∃ n, ys.length = n := ⟨_, rfl⟩
 rw [hn] at H1 S hW0 ⊢
 rw [hm] at H2 S hW0 ⊢
 clear h1 h2
 rw [hn] at l1
 rw [hm] at l2
 rw [hn, hm] at hb
 have HB := Lib.hid hb
 generalize ix xs 0 = x1 at *
 generalize ix ys 0 = x2 at *
 clear hb
 clear hn hm
 have hnI : (n : Int) ≤ 35184372088832 := by omega
 have hmI : (m : Int) ≤ 35184372088832 := by omega
 go_enter Tryz.func38, Tryz.ntmps38
 go_upto_region 1 with fail
 refine wp_region_steps (m := 7) rfl (by kernel_rfl) (fun iF vF wF => (List.getD [ve (.pointer (some ⟨w.heap.size, 0, none⟩)), ve (.pointer (some ⟨w.heap.size, 1, none⟩)), ve (.slice A n c), ve (.pointer (some ⟨w.heap.size, 2, none⟩)), ve (.pointer (some ⟨w.heap.size, 3, none⟩)), ve (.slice B m d), ve (.slice A n c)] iF (fun _ _ => True)) vF wF) [] ?_ ?_ ?_
 ·intro i v w w' _ h hk
  refine stabL_get ?_ i v w w' h hk
  exact stab_cons st_e (stab_cons st_e (stab_cons st_e (stab_cons st_e (stab_cons st_e (stab_cons st_e (stab_cons st_e stab_nil))))))
 ·intro i hi vs w3 hk3 hd
  have S3 := S.drew.below hk3
  obtain ⟨a0, a1, a2, a3⟩ := S3.cc4 0 rfl
  match i, hi with
  | 0, _ =>
   refine sv0 [] (ve (.pointer (some ⟨w.heap.size, 0, none⟩))) rfl fun K hK => ?_; clear hd; simp only [frD] at hK ⊢; go_simp
   exact hK _ _ bl rfl
  | 1, _ =>
   have qe0 : (vs 0) = .pointer (some ⟨w.heap.size, 0, none⟩) := hdk hd 0
   refine sv0 [(0, some 5)] (ve (.pointer (some ⟨w.heap.size, 1, none⟩))) rfl fun K hK => ?_; clear hd; simp only [frD, qe0] at hK ⊢; go_simp
   exact hK _ _ bl rfl
  | 2, _ =>
   have qe1 : (vs 1) = .pointer (some ⟨w.heap.size, 1, none⟩) := hdk hd 1
   refine sv0 [(1, some 6)] (ve (.slice A n c)) rfl fun K hK => ?_; clear hd; simp only [frD, qe1] at hK ⊢; go_simp
   exact hK _ _ bl rfl
  | 3, _ =>
   refine sv0 [] (ve (.pointer (some ⟨w.heap.size, 2, none⟩))) rfl fun K hK => ?_; clear hd; simp only [frD] at hK ⊢; go_simp
   exact hK _ _ bl rfl
  | 4, _ =>
   have qe3 : (vs 3) = .pointer (some ⟨w.heap.size, 2, none⟩) := hdk hd 3
   refine sv0 [(3, some 8)] (ve (.pointer (some ⟨w.heap.size, 3, none⟩))) rfl fun K hK => ?_; clear hd; simp only [frD, qe3] at hK ⊢; go_simp
   exact hK _ _ bl rfl
  | 5, _ =>
   have qe4 : (vs 4) = .pointer (some ⟨w.heap.size, 3, none⟩) := hdk hd 4
   refine sv0 [(4, some 9)] (ve (.slice B m d)) rfl fun K hK => ?_; clear hd; simp only [frD, qe4] at hK ⊢; go_simp
   exact hK _ _ bl rfl
  | 6, _ =>
   have qe0 : (vs 0) = .pointer (some ⟨w.heap.size, 0, none⟩) := hdk hd 0; have qe1 : (vs 1) = .pointer (some ⟨w.heap.size, 1, none⟩) := hdk hd 1; have qe2 : (vs 2) = .slice A n c := hdk hd 2
   refine sv0 [(0, some 5), (1, some 6), (2, some 7)] (ve (.slice A n c)) rfl fun K hK => ?_; clear hd; simp only [frD, qe0, qe1, qe2] at hK ⊢; go_simp
   exact hK _ _ bl rfl
  | i + 7, hi => exact absurd hi (by omega)
 ·intro vs W21 hk3 hΦ _
  simp only [List.drop_succ_cons, List.drop_zero]
  rw [fr_frD, show (List.range 7).map _ = [(0, some 5), (1, some 6), (2, some 7), (3, some 8), (4, some 9), (5, some 10), (6, some 3)] by kernel_rfl]
  have pd0 : (vs 0) = .pointer (some ⟨w.heap.size, 0, none⟩) := hΦ 0 (by decide)
  have pd1 : (vs 1) = .pointer (some ⟨w.heap.size, 1, none⟩) := hΦ 1 (by decide)
  have pd2 : (vs 2) = .slice A n c := hΦ 2 (by decide)
  have pd3 : (vs 3) = .pointer (some ⟨w.heap.size, 2, none⟩) := hΦ 3 (by decide)
  have pd4 : (vs 4) = .pointer (some ⟨w.heap.size, 3, none⟩) := hΦ 4 (by decide)
  have pd5 : (vs 5) = .slice B m d := hΦ 5 (by decide)
  have pd6 : (vs 6) = .slice A n c := hΦ 6 (by decide)
  clear hΦ
  simp only [frD, pd0, pd1, pd2, pd3, pd4, pd5, pd6]
  simp only [Act.put, List.setIfInBounds_toArray, List.set_cons_zero, List.set_cons_succ]
  clear pd0 pd1 pd2 pd3 pd4 pd5 pd6
  replace S := S.drew.below hk3
  clear hk3
  clear hW0
  by_cases hn2 : 1 < n
  ·have t1 : decide ((1 : Int) < (n : Int)) = true := decide_eq_true (by omega)
   go_wp2
   go_ret
   exact ⟨by rw [HB.out]; rw [decide_eq_false (by omega : ¬ n ≤ 1)]; rfl, S.k⟩
  ·have t1 : decide ((1 : Int) < (n : Int)) = false := decide_eq_false (by omega)
   by_cases hm2 : 1 < m
   ·have t2 : decide ((1 : Int) < (m : Int)) = true := decide_eq_true (by omega)
    go_wp2
    go_ret
    exact ⟨by rw [HB.out]; rw [decide_eq_true (by omega : n ≤ 1), decide_eq_false (by omega : ¬ m ≤ 1)]; rfl, S.k⟩
   ·have t2 : decide ((1 : Int) < (m : Int)) = false := decide_eq_false (by omega)
    have hn01 : n = 0 ∨ n = 1 := by omega
    have hm01 : m = 0 ∨ m = 1 := by omega
    clear l1 l2 hnI hmI hn2 hm2
    rcases hn01 with rfl | rfl
    ·rcases hm01 with rfl | rfl
     ·go_wp2
      go_ret
      exact ⟨by rw [HB.out]; rfl, S.k⟩
     ·obtain ⟨B2, o2, rfl, hc2⟩ := H2.out rfl
      have g2 := hc2 _ S.k
      clear hc2
      obtain ⟨b2, hb2⟩ : ∃ b, decide ((x2 : Int) ≤ 100) = b := ⟨_, rfl⟩
      go_wp2
      go_ret
      exact ⟨by rw [HB.out]; rw [hb2]; rfl, S.k⟩
    ·obtain ⟨B1, o1, rfl, hc1⟩ := H1.out rfl
     have g1 := hc1 _ S.k
     clear hc1
     obtain ⟨b1, hb1⟩ : ∃ b, decide ((x1 : Int) < 100000) = b := ⟨_, rfl⟩
     cases b1 with
     | false =>
      go_wp2
      go_ret
      exact ⟨by rw [HB.out]; rw [hb1]; simp only [show decide ((1 : Nat) = 0) = false from rfl, Bool.or_false, Bool.and_false, Bool.false_and]; rfl, S.k⟩
     | true =>
      rcases hm01 with rfl | rfl
      ·go_wp2
       go_ret
       exact ⟨by rw [HB.out]; rw [hb1]; rfl, S.k⟩
      ·obtain ⟨B2, o2, rfl, hc2⟩ := H2.out rfl
       have g2 := hc2 _ S.k
       clear hc2
       obtain ⟨b2, hb2⟩ : ∃ b, decide ((x2 : Int) ≤ 100) = b := ⟨_, rfl⟩
       go_wp2
       go_ret
       exact ⟨by rw [HB.out]; rw [hb1, hb2]; rfl, S.k⟩
set_option maxRecDepth 100000 in
set_option maxHeartbeats 1000000 in
theorem gsh_any {w : World} {A : Option Addr} {n c : Nat} {l : List RA} (hr : Row4 RatA w A l) (hn : l.length = n) (hl : n ≤ maxLen) (M G : Nat) (hM : M ≤ 1000) (hG : G ≤ 6) :
 Calls Tryz.prog 8 #[.slice A n c, .int .i64 (M : Nat), .int .i64 (G : Nat)] w fun e w' => e = .returned (.bool (shB M G l)) ∧ Keeps w w' := by
 have HR := Lib.hid hr
 have HN := Lib.hid hn
 have hnI : (n : Int) ≤ 9223372036854775807 := by simp only [maxLen] at hl; omega
 have hMI : (M : Int) ≤ 1000 := by omega
 have hGI : (G : Int) ≤ 6 := by omega
 have tg : decide ((G : Int) ≤ 6) = true := decide_eq_true hGI
 have S := St.start w
 have HSB : Hid (shB M G l = (decide (n ≤ M) && l.all fun x => decide (raD x ≤ G) && briefB x)) := Lib.hid (by rw [← hn]; rfl)
 clear hr hn hl
 go_enter Tryz.func8, Tryz.ntmps8
 by_cases hnm : M < n
 ·have t0 : decide ((M : Int) < (n : Int)) = true := decide_eq_true (by omega)
  go_wp2
  go_ret
  exact ⟨by rw [HSB.out, decide_eq_false (by omega : ¬ n ≤ M)]; rfl, S.k⟩
 ·have t0 : decide ((M : Int) < (n : Int)) = false := decide_eq_false (by omega)
  have HM : Hid (n ≤ M) := Lib.hid (by omega)

  go_wp2
  go_loopw [7] (fun i wr => ∃ k : Nat, k ≤ n ∧ i = .int .i64 (k : Nat) ∧ Hid ((l.take k).all (fun x => decide (raD x ≤ G) && briefB x) = true) ∧ St w wr [] []) (fun i _ => n - (intOf i).toNat)
  case atStart => exact ⟨0, Nat.zero_le _, rfl, Lib.hid rfl, S⟩
  case round =>
   clear S
   obtain ⟨k, hk, rfl, HA, S⟩ := hrel
   by_cases hlt : k < n
   ·have hkI : (k : Int) < (n : Int) := by omega
    have t1 : decide ((k : Int) < (n : Int)) = true := decide_eq_true hkI
    obtain ⟨x, hq⟩ : ∃ x, l[k]? = some x := ⟨_, List.getElem?_eq_getElem (by rw [HN.out]; exact hlt)⟩
    obtain ⟨B, o, x0, x1, x2, x3, rfl, hc, hx⟩ := HR.out.get lasts_ra hq
    obtain ⟨A1, c1, B1, d1, rfl, rfl, rfl, rfl⟩ := (hx w bl).open4
    have HX := Lib.hid hx
    obtain ⟨l1, l2⟩ := (hx w bl).2
    have HS : Hid (raD x ≤ G → briefB x = true → (l.take (k + 1)).all (fun x => decide (raD x ≤ G) && briefB x) = true) := Lib.hid fun h h2 => all_snocA hq HA.out (by rw [decide_eq_true h, h2]; rfl)
    have HF : Hid (¬ (raD x ≤ G ∧ briefB x = true) → shB M G l = false) := Lib.hid fun h => by
     rw [HSB.out, all_notA hq (by
      simp only [Bool.and_eq_false_iff, decide_eq_false_iff_not]
      by_cases h3 : raD x ≤ G
      ·exact .inr (by cases h4 : briefB x <;> simp_all)
      ·exact .inl h3), Bool.and_false]
    have HC := Lib.hid hc
    obtain ⟨y1, y2, y3, y4⟩ := x
    simp only at HC HX l1 l2
    obtain ⟨nx, hnx⟩ : ∃ n, y2.length = n := ⟨_, rfl⟩
    obtain ⟨mx, hmx⟩ : ∃ n, y4.length = n := ⟨_, rfl⟩
    have HD : Hid (raD (y1, y2, y3, y4) = nx + mx) := Lib.hid (by unfold raD; rw [← hnx, ← hmx])
    rw [hnx] at HC HX l1
    rw [hmx] at HC HX l2
    obtain ⟨g0, g1, g2, g3⟩ := HC.out wr S.k
    have hnxI : (nx : Int) ≤ 35184372088832 := by omega
    have hmxI : (mx : Int) ≤ 35184372088832 := by omega
    clear hc hx hq hnx hmx
    go_wp2_with fail
    refine (rdigs_any l1 l2).mono ?_
    rintro e W2 ⟨rfl, hk2⟩
    replace S := S.below hk2
    clear hk2 g0 g1 g2 g3
    by_cases hgt : G < nx + mx
    ·have t2 : decide ((G : Int) < (nx : Int) + (mx : Int)) = true := decide_eq_true (by omega)

     have HE := Lib.hid (HF.out fun h => absurd h.1 (by rw [HD.out]; omega))
     go_wp2
     go_ret
     exact ⟨by rw [HE.out]; rfl, S.k⟩
    ·have t2 : decide ((G : Int) < (nx : Int) + (mx : Int)) = false := decide_eq_false (by omega)
     have HN2 := Lib.hid (HS.out (by rw [HD.out]; omega))
     obtain ⟨bb, hbb⟩ : ∃ b, briefB (y1, y2, y3, y4) = b := ⟨_, rfl⟩
     have HBR := Lib.hid (gbrief_any (HX.out _ S.k))
     rw [hbb] at HBR HN2 HF
     clear hbb
     obtain ⟨g0, g1, g2, g3⟩ := HC.out _ S.k

     go_wp2_with fail
     refine HBR.out.mono ?_
     rintro e W3 ⟨rfl, hk3⟩
     replace S := S.below hk3
     clear hk3 g0 g1 g2 g3
     cases bb with
     | false =>
      have HE := Lib.hid (HF.out fun h => by cases h.2)
      go_wp2
      go_ret
      exact ⟨by rw [HE.out]; rfl, S.k⟩
     | true =>
      have HN3 := Lib.hid (HN2.out rfl)
      go_wp2
      go_roundw
      case rel => exact ⟨k + 1, by omega, by go_num, HN3, S⟩
      case measure => simp [intOf]; omega
   ·have hkI : ¬ (k : Int) < (n : Int) := by omega
    have t1 : decide ((k : Int) < (n : Int)) = false := decide_eq_false hkI
    obtain rfl : k = n := by omega
    have HE : Hid (l.all (fun x => decide (raD x ≤ G) && briefB x) = true) := Lib.hid (by have := HA.out; rwa [List.take_of_length_le (by rw [HN.out]; exact Nat.le_refl _)] at this)
    go_wp2
    go_ret
    exact ⟨by rw [HSB.out, HE.out, decide_eq_true HM.out]; rfl, S.k⟩
end Go.Proofs.YtgcigdahjabimaaGreatDoor
