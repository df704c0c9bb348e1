/- The rows' last step, for every law of fractions: the arguments opened, read anew behind the call. The rows' last step, for the laws of reports: the arguments opened. -/
import Derived.Test.YtgcigdahjabimaaGreatDoorPr27
import Derived.Lib.SmallJoins
import Derived.Carry
import Derived.ChangeSame
import Derived.SizedLaws
import Derived.Test.YtgcigdahjabimaaGreatDoorPr48
import Derived.Test.YtgcigdahjabimaaGreatDoorPr43
import Derived.Test.YtgcigdahjabimaaGreatDoorCards
import Derived.Test.YtgcigdahjabimaaGreatDoorTie
import Derived.ProofKit
import Derived.OpenShut
import Derived.Deep.Slices
import Derived.Deep.DeepHandedRow
import Derived.Deep.DeepWitnessRowRef
import Derived.Deep.DeepLaidRun
import Derived.Lib.LaidTab
namespace Go.Proofs.YtgcigdahjabimaaGreatDoor
open Go.RowKit Go.WideShapes Go.ChangeShapes Go.Joins

theorem laidOutP : laidOutB Tryz.prog = true := by kernel_rfl
section
variable {H : Type} {enc : TypeId × Value → H} {P : Program}
theorem post_of_below {f : Func} {s : ChangeSpec} {apart fresh handsOn again : Bool} {W W' : World} {args : Array Value} {v : Value} {ds gs : List (DataW H)} {before pa pv : List MemPlace}
 (hW : DataW.Whole enc P f.params.toList s.vars apart W args.toList ds gs before)
 (hres : ∀ (b : Nat) (sp : Nat → Bool) (hd : Bool), DataW.TrodAll enc P W' b sp hd f.resultTypes.toList (v.resultList f.resultTypes.size) (s.fn H (ds ++ gs)).results [])
 (hargs : ∀ sp : Nat → Bool, (∀ p ∈ before, sp p.block = true) → DataW.TrodAll enc P W' 0 sp true f.params.toList args.toList (s.fn H (ds ++ gs)).args pa)
 (hvars : ∀ sp : Nat → Bool, (∀ p ∈ before, sp p.block = true) → DataW.TrodVars enc P W' sp s.vars (s.fn H (ds ++ gs)).vars pv)
 (hps : before = pa ++ pv) (hb : Below W.heap.size W W')
 (hok : ∀ (j : Nat) (t : TypeId) (r : Value), f.resultTypes[j]? = some t → (v.resultList f.resultTypes.size)[j]? = some r → Value.okWide P W' .any 0 t r) :
 s.post enc P f apart fresh handsOn again W args v W' := by
 have hlt : ∀ p ∈ before, p.block < W.heap.size := fun p hp => hW.lt p hp
 have hold : ∀ p ∈ before, (fun b => decide (b < W.heap.size)) p.block = true := fun p hp => by simpa using hlt p hp
 refine ⟨ds, gs, before, [], pa, pv, hW, hres _ _ _, hargs _ hold, hvars _ hold, World.keptBut_mono (fun p hp => ⟨hp, ?_⟩) (hb.frame (· ∈ before)), fun _ => ?_⟩
 ·rw [hps, List.mem_append] at hp
  exact Or.inr hp
 ·obtain ⟨_, _, _, _, _, hz, hn⟩ := hW
  refine ⟨hok, _, _, ([] ++ pa) ++ pv, ⟨[] ++ pa, pv, trodAll_append (hargs _ (fun _ _ => rfl)) (hres _ _ _), hvars _ (fun _ _ => rfl), rfl, ?_, ?_⟩, ?_⟩
  ·intro b off hp
   have hin : MemPlace.cell b off ∈ before := by rw [hps]; simpa using hp
   rw [hb.frozen (hlt _ hin)]
   exact hz b off hin
  ·intro ha
   have := hn ha
   rw [hps] at this
   simpa using this
  ·intro p hp _
   rw [hps]
   simpa using hp
theorem trodAll_stays (hl : laidOutB P = true) {W W' : World} {sp : Nat → Bool} (hb : Below W.heap.size W W') : ∀ (ts : List TypeId) (vs : List Value) (ds : List (DataW H)) (ps : List MemPlace),
 (∀ t ∈ ts, P.readableRec t = true ∧ t < P.types.size) → DataW.TrodAll enc P W 0 (fun _ => true) true ts vs ds ps → (∀ x ∈ ps, x.block < W.heap.size) → (∀ x ∈ ps, sp x.block = true) → DataW.TrodAll enc P W' 0 sp true ts vs ds ps
 | [], _, _, _, _, h, _, _ => by
  obtain ⟨rfl, rfl, rfl⟩ := trodAll_nil h
  exact trodAll_mk0
 | t :: ts, vs, ds, ps, ht, h, hlt, hsp => by
  obtain ⟨v, vs', d, ds', p, q, rfl, rfl, rfl, h1, h2⟩ := trodAll_cons h
  refine trodAll_cons_mk (WideElems.Trod_stays hl (ht t List.mem_cons_self).1 (ht t List.mem_cons_self).2 h1 (fun x hx => hb.same (hlt x (List.mem_append_left _ hx))) (fun x hx => hsp x (List.mem_append_left _ hx))) ?_
  exact trodAll_stays hl hb ts vs' ds' q (fun t' h' => ht t' (List.mem_cons_of_mem _ h')) h2 (fun x hx => hlt x (List.mem_append_right _ hx)) (fun x hx => hsp x (List.mem_append_right _ hx))
end

set_option maxRecDepth 100000 in
theorem intCells_of {H : Type} {enc : TypeId × Value → H} {W : World} {base : Nat} {sp : Nat → Bool} {held : Bool} {v0 v1 : Value} {m : Nat} {y : DataW H × List MemPlace}
 (h : DataW.trod enc Tryz.prog W base sp held m 29 [v0, v1] = some y) (hz : ∀ n ∈ DataW.weights Tryz.prog 29 y.1, n ≤ reachBytes) : ∃ neg xs, IntArg W (.agg #[v0, v1]) neg xs ∧ xs.length ≤ 35184372088832 := by
 obtain ⟨y0, y1, n, rfl, -, h0, h1⟩ := trod_struct2 Tryz.underlying29 h
 have c0 : Tryz.prog.cellsOf 4 = 1 := by kernel_rfl
 have c1 : Tryz.prog.cellsOf 27 = 1 := by kernel_rfl
 have c2 : Tryz.prog.bytesOf 109 = 4 := by kernel_rfl
 simp only [c0, c1, List.drop_zero, List.drop_succ_cons, List.take_succ_cons, List.take_zero] at h0 h1
 have hz1 : ∀ n ∈ DataW.weights Tryz.prog 27 y1.1, n ≤ reachBytes := fun n hn => hz n (by
  simp only [DataW.weights, Tryz.underlying29, List.map_cons, List.map_nil, DataW.weightsEach, List.mem_append]
  exact Or.inr (Or.inl hn))
 clear hz
 obtain ⟨neg, e, -⟩ := DataW.trod_bool Tryz.underlying4 h0
 obtain rfl : v0 = .bool neg := by simpa using e
 rcases open_ints Tryz.underlying27 Tryz.underlying109 (by kernel_rfl) h1 with ⟨e, -⟩ | ⟨a, len, cap, zs, e, hb, hl, hm, hz, ey, hc, hw⟩
 ·obtain rfl : v1 = .slice none 0 0 := by simpa using e
  exact ⟨neg, [], ⟨_, rfl, U32.nil⟩, by simp⟩
 ·obtain rfl : v1 = .slice (some a) len cap := by simpa using e
  have hlz : len ≤ zs.length := by rw [hz]; split <;> omega
  have hxl : ((zs.take len).map Int.toNat).length = len := by simp; omega
  have hnn : ∀ j, j < len → zs.getD j 0 = ((((zs.take len).map Int.toNat).getD j 0 : Nat) : Int) := fun j hj => by
   have hm : zs.getD j 0 ∈ zs := by
    have : zs.getD j 0 = zs[j]'(by omega) := by simp [List.getD, show j < zs.length by omega]
    rw [this]
    exact List.getElem_mem _
   have := hw _ hm
   simp only [Lit.wf, Bool.and_eq_true, decide_eq_true_eq] at this
   have h0 : 0 ≤ zs.getD j 0 := this.1
   have e : ((zs.take len).map Int.toNat).getD j 0 = (zs.getD j 0).toNat := by
    simp [List.getD, hj, show j < zs.length by omega]
   rw [e]
   omega
  have hsz : len ≤ 35184372088832 := by
   have := hz1 ((lits .u32 (zs.take len) : List (DataW H)).length * 4 + (lits .u32 (zs.drop len) : List (DataW H)).length * 4) (by
    rw [ey]
    simp only [DataW.weights, Tryz.underlying27, c2]
    rw [Nat.add_mul]
    exact List.mem_cons_self)
   have hl1 : (lits .u32 (zs.take len) : List (DataW H)).length = len := by simp [lits]; omega
   rw [hl1] at this
   unfold reachBytes at this
   omega
  refine ⟨neg, (zs.take len).map Int.toNat, ⟨_, rfl, some a, cap, by rw [hxl], by omega, hm, by simp, ?_⟩, by rw [hxl]; exact hsz⟩
  rw [hxl]
  intro hp
  have c0 := hc 0 (by omega)
  have hs : a.spot = none := by
   have := World.cell?_spot c0
   simpa [Addr.add] using this
  obtain ⟨bk, off, spot⟩ := a
  obtain rfl : spot = none := hs
  refine ⟨bk, off, rfl, ?_, fun j hj => ?_⟩
  ·rcases Nat.lt_or_ge bk W.heap.size with h | h
   ·exact h
   ·simp [World.cell?, Addr.add, Array.getElem?_eq_none h] at c0
  ·have := hc j (by omega)
   rw [add_plain, hnn j hj] at this
   exact this
set_option maxRecDepth 100000 in
theorem ratCells_of {H : Type} {enc : TypeId × Value → H} {W : World} {base : Nat} {sp : Nat → Bool} {held : Bool} {c0 c1 c2 c3 : Value} {m : Nat} {y : DataW H × List MemPlace}
 (h : DataW.trod enc Tryz.prog W base sp held m 31 [c0, c1, c2, c3] = some y) (hz : ∀ n ∈ DataW.weights Tryz.prog 31 y.1, n ≤ reachBytes) :
 ∃ n1 xs n2 ys, RatArg W (.agg #[c0, c1, c2, c3]) n1 xs n2 ys ∧ xs.length ≤ 35184372088832 ∧ ys.length ≤ 35184372088832 := by
 obtain ⟨y0, y1, n, rfl, -, h0, h1⟩ := trod_struct2 Tryz.underlying31 h
 have cc : Tryz.prog.cellsOf 29 = 2 := by kernel_rfl
 simp only [cc, List.drop_zero, List.drop_succ_cons, List.take_succ_cons, List.take_zero] at h0 h1
 have hz' : ∀ n, n ∈ DataW.weights Tryz.prog 29 y0.1 ∨ n ∈ DataW.weights Tryz.prog 29 y1.1 → n ≤ reachBytes := fun n hn => hz n (by
  simp only [DataW.weights, Tryz.underlying31, List.map_cons, List.map_nil, DataW.weightsEach, List.mem_append]
  rcases hn with hn | hn
  ·exact Or.inl hn
  ·exact Or.inr (Or.inl hn))
 obtain ⟨n1, xs, i1, l1⟩ := intCells_of h0 fun n hn => hz' n (.inl hn)
 obtain ⟨n2, ys, i2, l2⟩ := intCells_of h1 fun n hn => hz' n (.inr hn)
 exact ⟨n1, xs, n2, ys, ⟨_, _, _, _, rfl, i1, i2⟩, l1, l2⟩
end Go.Proofs.YtgcigdahjabimaaGreatDoor
namespace Go.Proofs.YtgcigdahjabimaaGreatDoor
open Go.RowKit Go.WideShapes Go.ChangeShapes Go.ChangeAt

theorem ownP : ownKnob Tryz.prog.godebug = none := by kernel_rfl
theorem gPow : Tryz.prog.globalNamed "internal/strconv.uint64pow10" = some 3 := by kernel_rfl

theorem tabIs_of_vars {P : Program} {W : World} {name : String} {k : IntKind} {zs : List Int} {rest : List (String × DataW Unit)} {g : Nat} {t e : TypeId} {n : Nat} {ps : List MemPlace}
 (hg : P.globalNamed name = some g) (hty : (P.globals[g]?).map (·.type) = some t) (ht : P.underlying t = some (.array n e)) (he : P.underlying e = some (.int k)) (hce : P.cellsOf e = 1) (hct : P.cellsOf t = n)
 (h : DataW.LaidVars P W ((name, Lib.tabData k zs) :: rest) ps) : Lib.TabIs P W name k zs := by
 obtain ⟨g', t', cs, fuel, p, q, hg', ht', hvar, hd, _, _⟩ := h
 obtain rfl := Option.some.inj (hg.symm.trans hg')
 obtain rfl := Option.some.inj (hty.symm.trans ht')
 unfold Lib.TabIs
 rw [hvar, ← Lib.cells_of_tab ht he hce hct hd]
theorem laidVars_tail {P : Program} {W : World} {x : String × DataW Unit} {rest : List (String × DataW Unit)} {ps : List MemPlace} (h : DataW.LaidVars P W (x :: rest) ps) : ∃ q, DataW.LaidVars P W rest q := by
 obtain ⟨g', t', cs, fuel, p, q, hg', ht', hvar, hd, hr, _⟩ := h
 exact ⟨_, hr⟩

def cellsOfData : DataW Unit → Array Value
 | .agg l => (l.map fun d => match d with | .lit (.int k n) => Value.int k n | _ => undef).toArray
 | _ => #[]
def strOfData : DataW Unit → ByteArray
 | .iface _ (.ptr (.agg [.lit (.string bs)])) => ⟨bs.toArray⟩
 | _ => ⟨#[]⟩
noncomputable def lowB : Nat := (World.holding Tryz.prog default ⟨#[], #[], []⟩).heap.size
def putCells (h : Array Obj) (g : Nat) (cs : Array Value) : Array Obj := h.modify g fun
 | .cells _ t frozen => .cells cs t frozen
 | o => o
open Go.Joins
theorem weightsAll_mem {H : Type} {P : Program} {e : TypeId} : ∀ {l : List (DataW H)} {d : DataW H}, d ∈ l → ∀ n ∈ d.weights P e, n ∈ DataW.weightsAll P e l
 | x :: r, d, hd, n, hn => by
  rw [DataW.weightsAll, List.mem_append]
  rcases List.mem_cons.1 hd with rfl | h
  ·exact .inl hn
  ·exact .inr (weightsAll_mem h n hn)
section
variable {H : Type} {enc : TypeId × Value → H} {W : World} {base b0 : Nat} {sp : Nat → Bool} {held : Bool} {r : Reach} {v : Value} {d : DataW H} {p : List MemPlace}
theorem field_of {P : Program} {t : TypeId} {fs : Array Field} {fuel : Nat} {cs : List Value} {x : DataW H × List MemPlace} (ht : P.underlying t = some (.struct fs)) (h : DataW.trod enc P W base sp held fuel t cs = some x) {i : Nat} {f : Field} (hf : fs[i]? = some f) :
 ∃ y n, DataW.trod enc P W base sp held n f.type ((cs.drop f.offset).take (P.cellsOf f.type)) = some y ∧ ∀ k, k ∈ DataW.weights P f.type y.1 → k ∈ DataW.weights P t x.1 := by
 obtain ⟨xs, n, -, rfl, -, hlen, hall⟩ := DataW.trod_struct ht h
 have hi : i < xs.length := by rw [hlen]; exact (Array.getElem?_eq_some_iff.1 hf).1
 refine ⟨xs[i], n, by rw [hall i f hf]; exact List.getElem?_eq_getElem hi, fun k hk => ?_⟩
 simp only [DataW.weights, ht]
 exact DataW.weights_mem_each (j := i) (t := f.type) (by simp [hf]) (by simp [hi]) k hk
set_option maxRecDepth 100000 in
theorem ratsRaw_of {m : Nat} {y : DataW H × List MemPlace} (h : DataW.trod enc Tryz.prog W base sp held m 34 [v] = some y) (hz : ∀ n ∈ DataW.weights Tryz.prog 34 y.1, n ≤ reachBytes) :
 ∃ A len cap l, v = .slice A len cap ∧ l.length = len ∧ len ≤ maxLen ∧ (A = none → cap = 0) ∧ Row4 RatA W A l := by
 have c4 : Tryz.prog.cellsOf 31 = 4 := by kernel_rfl
 rcases Go.Deep.open_slice Tryz.underlying34 h with ⟨e, -⟩ | ⟨a, len, cap, m, n, D, Pl, e, hb, hl, hm, hmm, hx, hel⟩
 ·obtain rfl : v = .slice none 0 0 := by simpa using e
  exact ⟨none, 0, 0, [], rfl, rfl, by simp [maxLen], fun _ => rfl, fun j x hj => by simp at hj⟩
 ·obtain rfl : v = .slice (some a) len cap := by simpa using e
  have hlm : len ≤ m := by rw [hmm]; split <;> omega
  have hd : y.1 = .slice ((List.range len).map D) ((List.range (m - len)).map fun j => D (len + j)) := congrArg Prod.fst hx
  rw [c4] at hel
  have hsp : 0 < len → a.spot = none := fun h0 => by
   obtain ⟨cs, h1, -⟩ := hel 0 (by omega)
   obtain ⟨-, hlen, hc⟩ := World.cells?_some h1
   match cs, hlen with
   | [c0, c1, c2, c3], _ =>
    have g0 := World.cell?_spot (hc 0 (by omega))
    simpa [Addr.add] using g0
  have key : ∀ i, i < len → ∃ x : RA, ∃ B o c0 c1 c2 c3, some a = some (⟨B, o, none⟩ : Addr) ∧ (W.cell? ⟨B, o + i * 4, none⟩ = some c0 ∧ W.cell? ⟨B, o + i * 4 + 1, none⟩ = some c1 ∧ W.cell? ⟨B, o + i * 4 + 2, none⟩ = some c2 ∧ W.cell? ⟨B, o + i * 4 + 3, none⟩ = some c3) ∧ RatA W (.agg #[c0, c1, c2, c3]) x := by
   intro i hi
   obtain ⟨cs, h1, h2⟩ := hel i (by omega)
   obtain ⟨-, hlen, hc⟩ := World.cells?_some h1
   match cs, hlen with
   | [c0, c1, c2, c3], _ =>
    have g0 := hc 0 (by omega)
    have g1 := hc 1 (by omega)
    have g2 := hc 2 (by omega)
    have g3 := hc 3 (by omega)
    have hs : a.spot = none := hsp (by omega)
    obtain ⟨bk, off, spot⟩ := a
    obtain rfl : spot = none := hs
    rw [add_plain, add_plain] at g0 g1 g2 g3
    obtain ⟨n1, xs, n2, ys, hA, l1, l2⟩ := ratCells_of h2 (fun n hn => hz n (by
     rw [hd]
     simp only [DataW.weights, Tryz.underlying34]
     exact List.mem_cons_of_mem _ (List.mem_append_left _ (weightsAll_mem (List.mem_map.2 ⟨i, List.mem_range.2 hi, rfl⟩) n hn))))
    exact ⟨(n1, xs, n2, ys), bk, off, c0, c1, c2, c3, rfl, ⟨g0, g1, g2, g3⟩, hA, l1, l2⟩
  obtain ⟨f, hf⟩ : ∃ f : Nat → RA, ∀ i, i < len → ∃ B o c0 c1 c2 c3, some a = some (⟨B, o, none⟩ : Addr) ∧ (W.cell? ⟨B, o + i * 4, none⟩ = some c0 ∧ W.cell? ⟨B, o + i * 4 + 1, none⟩ = some c1 ∧ W.cell? ⟨B, o + i * 4 + 2, none⟩ = some c2 ∧ W.cell? ⟨B, o + i * 4 + 3, none⟩ = some c3) ∧ RatA W (.agg #[c0, c1, c2, c3]) (f i) :=
   ⟨fun i => if h : i < len then Classical.choose (key i h) else (false, [], false, []), fun i hi => by simp only [dif_pos hi]; exact Classical.choose_spec (key i hi)⟩
  refine ⟨some a, len, cap, (List.range len).map f, rfl, by simp, Nat.le_trans hl hm, (by intro h; cases h), fun j x hj => ?_⟩
  rw [List.getElem?_map] at hj
  obtain ⟨i, hi, rfl⟩ := Option.map_eq_some_iff.1 hj
  obtain ⟨hlt, rfl⟩ := List.getElem?_eq_some_iff.1 hi
  rw [List.getElem_range]
  exact hf j (by simpa using hlt)
set_option maxRecDepth 100000 in
theorem list17 {α : Type} {cs : Array α} (h : cs.size = 17) : ∃ a b c d e f g i j k l m n o p q r, cs = #[a, b, c, d, e, f, g, i, j, k, l, m, n, o, p, q, r] := by
 obtain ⟨l⟩ := cs
 match l, h with
 | [a, b, c, d, e, f, g, i, j, k, l, m, n, o, p, q, r], _ => exact ⟨a, b, c, d, e, f, g, i, j, k, l, m, n, o, p, q, r, rfl⟩
theorem RatA.cap {c0 c1 c2 c3 : Value} {x : RA} (h : RatA W (.agg #[c0, c1, c2, c3]) x) : (∀ n c, c0 ≠ .slice none n c) ∧ (∀ n c, c1 = .slice none n c → c = 0) ∧ (∀ n c, c2 ≠ .slice none n c) ∧ ∀ n c, c3 = .slice none n c → c = 0 := by
 obtain ⟨⟨x0, x1, x2, x3, e, ⟨u, e1, A1, a1, rfl, -, -, k1, -⟩, ⟨u2, e2, A2, a2, rfl, -, -, k2, -⟩⟩, -⟩ := h
 simp only [Value.agg.injEq, Array.mk.injEq, List.cons.injEq, and_true] at e e1 e2
 obtain ⟨rfl, rfl, rfl, rfl⟩ := e
 obtain ⟨rfl, rfl⟩ := e1
 obtain ⟨rfl, rfl⟩ := e2
 exact ⟨fun n c h => (by cases h), fun n c h => (by cases h; exact k1 rfl), fun n c h => (by cases h), fun n c h => (by cases h; exact k2 rfl)⟩
set_option maxRecDepth 100000 in
set_option maxHeartbeats 1000000 in
theorem smArg_of (hv : Value.okWide Tryz.prog W r b0 49 v) (h : DataW.Trod enc Tryz.prog W base sp held 49 v d p) (hz : ∀ n ∈ DataW.weights Tryz.prog 49 d, n ≤ reachBytes) : ∃ r, SmRA W v r ∧ CapOk v := by
 obtain ⟨cs, rfl, hsz⟩ := okWide_struct Tryz.underlying49 hv
 obtain ⟨c0, c1, c2, c3, c4, c5, c6, c7, c8, c9, c10, c11, c12, c13, c14, c15, c16, rfl⟩ := list17 (hsz.trans (by kernel_rfl))
 obtain ⟨fuel, hf⟩ := h
 replace hf : DataW.trod enc Tryz.prog W base sp held fuel 49 [c0, c1, c2, c3, c4, c5, c6, c7, c8, c9, c10, c11, c12, c13, c14, c15, c16] = some (d, p) := by simpa [Value.cells] using hf
 obtain ⟨y0, n0, e0, -⟩ := field_of Tryz.underlying49 hf (i := 0) rfl
 obtain ⟨y1, n1, e1, -⟩ := field_of Tryz.underlying49 hf (i := 1) rfl
 obtain ⟨y2, n2, e2, -⟩ := field_of Tryz.underlying49 hf (i := 2) rfl
 obtain ⟨y3, n3, e3, -⟩ := field_of Tryz.underlying49 hf (i := 3) rfl
 obtain ⟨y4, n4, e4, -⟩ := field_of Tryz.underlying49 hf (i := 4) rfl
 obtain ⟨y5, n5, e5, -⟩ := field_of Tryz.underlying49 hf (i := 5) rfl
 obtain ⟨y6, n6, e6, z6⟩ := field_of Tryz.underlying49 hf (i := 6) rfl
 obtain ⟨y7, n7, e7, z7⟩ := field_of Tryz.underlying49 hf (i := 7) rfl
 obtain ⟨y8, n8, e8, z8⟩ := field_of Tryz.underlying49 hf (i := 8) rfl
 obtain ⟨y9, n9, e9, z9⟩ := field_of Tryz.underlying49 hf (i := 9) rfl
 obtain ⟨y10, n10, e10, -⟩ := field_of Tryz.underlying49 hf (i := 10) rfl
 obtain ⟨a0, q0, -, -⟩ := DataW.trod_int Tryz.underlying3 e0
 obtain ⟨a1, q1, -, -⟩ := DataW.trod_int Tryz.underlying3 e1
 obtain ⟨a2, q2, -, -⟩ := DataW.trod_int Tryz.underlying3 e2
 obtain ⟨a3, q3, -, -⟩ := DataW.trod_int Tryz.underlying3 e3
 obtain ⟨a4, q4, -, -⟩ := DataW.trod_int Tryz.underlying3 e4
 obtain ⟨a5, q5, -, -⟩ := DataW.trod_int Tryz.underlying3 e5
 obtain ⟨a10, q10, -, -⟩ := DataW.trod_int Tryz.underlying3 e10
 cases q0; cases q1; cases q2; cases q3; cases q4; cases q5; cases q10
 obtain ⟨g1, xs1, g2, ys1, h6, l6, m6⟩ := ratCells_of e6 fun n hn => hz n (z6 n hn)
 obtain ⟨g3, xs2, g4, ys2, h7, l7, m7⟩ := ratCells_of e7 fun n hn => hz n (z7 n hn)
 obtain ⟨A8, len8, cap8, L8, rfl, h8, k8, j8, r8⟩ := ratsRaw_of e8 fun n hn => hz n (z8 n hn)
 obtain ⟨A9, len9, cap9, L9, rfl, h9, k9, j9, r9⟩ := ratsRaw_of e9 fun n hn => hz n (z9 n hn)
 subst h8 h9
 have R6 : RatA W (.agg #[c6, c7, c8, c9]) (g1, xs1, g2, ys1) := ⟨h6, l6, m6⟩
 have R7 : RatA W (.agg #[c10, c11, c12, c13]) (g3, xs2, g4, ys2) := ⟨h7, l7, m7⟩
 refine ⟨⟨a0, a1, a2, a3, a4, a5, (g1, xs1, g2, ys1), (g3, xs2, g4, ys2), L8, L9, a10⟩, ⟨_, _, _, _, _, _, _, _, A8, A9, cap8, cap9, by simp [smL, SmR.s], R6, R7, r8, r9, k8, k9⟩, ?_⟩
 obtain ⟨u0, u1, u2, u3⟩ := R6.cap
 obtain ⟨v0, v1, v2, v3⟩ := R7.cap
 intro cs e i n c hi
 cases e
 match i, hi with
 | 0, hi => cases hi
 | 1, hi => cases hi
 | 2, hi => cases hi
 | 3, hi => cases hi
 | 4, hi => cases hi
 | 5, hi => cases hi
 | 6, hi => exact absurd (Option.some.inj hi) (u0 n c)
 | 7, hi => exact u1 n c (Option.some.inj hi)
 | 8, hi => exact absurd (Option.some.inj hi) (u2 n c)
 | 9, hi => exact u3 n c (Option.some.inj hi)
 | 10, hi => exact absurd (Option.some.inj hi) (v0 n c)
 | 11, hi => exact v1 n c (Option.some.inj hi)
 | 12, hi => exact absurd (Option.some.inj hi) (v2 n c)
 | 13, hi => exact v3 n c (Option.some.inj hi)
 | 14, hi => cases hi; exact j8 rfl
 | 15, hi => cases hi; exact j9 rfl
 | 16, hi => cases hi
 | i + 17, hi => simp at hi
end
end Go.Proofs.YtgcigdahjabimaaGreatDoor
