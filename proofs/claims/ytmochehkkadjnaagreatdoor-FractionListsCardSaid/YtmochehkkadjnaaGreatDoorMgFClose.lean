/- The rows' last step, for every law of fractions: the arguments opened, read anew behind the call. A world for the witness: the settled one, the listed variables holding what the program's text lays. And the powers of ten, off the row's list. -/
import Derived.Test.YtmochehkkadjnaaGreatDoorKnown
import Derived.Lib.SmallJoins
import Derived.Carry
import Derived.ChangeSame
import Derived.SizedLaws
import Derived.Test.YtmochehkkadjnaaGreatDoorCards
import Derived.Test.YtmochehkkadjnaaGreatDoorTie
import Derived.ProofKit
import Derived.OpenShut
import Derived.Deep.DeepHandedRow
import Derived.Deep.DeepWitnessRowRef
import Derived.Deep.DeepLaidRun
import Derived.Lib.LaidTab
namespace Go.Proofs.YtmochehkkadjnaaGreatDoor
open Go.RowKit Go.WideShapes Go.ChangeShapes Go.Joins

theorem laidOutP : laidOutB Tryz.prog = true := by kernel_rfl
section
variable {H : Type} {enc : TypeId × Value → H} {P : Program}
theorem post_of_below {f : Func} {s : ChangeSpec} {apart fresh handsOn again : Bool} {W W' : World} {args : Array Value} {v : Value} {ds gs : List (DataW H)} {before pa pv : List MemPlace}
    (hW : DataW.Whole enc P f.params.toList s.vars apart W args.toList ds gs before)
    (hres : ∀ (b : Nat) (sp : Nat → Bool) (hd : Bool), DataW.TrodAll enc P W' b sp hd f.resultTypes.toList (v.resultList f.resultTypes.size) (s.fn H (ds ++ gs)).results [])
    (hargs : ∀ sp : Nat → Bool, (∀ p ∈ before, sp p.block = true) → DataW.TrodAll enc P W' 0 sp true f.params.toList args.toList (s.fn H (ds ++ gs)).args pa)
    (hvars : ∀ sp : Nat → Bool, (∀ p ∈ before, sp p.block = true) → DataW.TrodVars enc P W' sp s.vars (s.fn H (ds ++ gs)).vars pv)
    (hps : before = pa ++ pv) (hb : Below W.heap.size W W')
    (hok : ∀ (j : Nat) (t : TypeId) (r : Value), f.resultTypes[j]? = some t → (v.resultList f.resultTypes.size)[j]? = some r → Value.okWide P W' .any 0 t r) :
    s.post enc P f apart fresh handsOn again W args v W' := by
  have hlt : ∀ p ∈ before, p.block < W.heap.size := fun p hp => hW.lt p hp
  have hold : ∀ p ∈ before, (fun b => decide (b < W.heap.size)) p.block = true := fun p hp => by simpa using hlt p hp
  refine ⟨ds, gs, before, [], pa, pv, hW, hres _ _ _, hargs _ hold, hvars _ hold, World.keptBut_mono (fun p hp => ⟨hp, ?_⟩) (hb.frame (· ∈ before)), fun _ => ?_⟩
  · rw [hps, List.mem_append] at hp
    exact Or.inr hp
  · obtain ⟨_, _, _, _, _, hz, hn⟩ := hW
    refine ⟨hok, _, _, ([] ++ pa) ++ pv, ⟨[] ++ pa, pv, trodAll_append (hargs _ (fun _ _ => rfl)) (hres _ _ _), hvars _ (fun _ _ => rfl), rfl, ?_, ?_⟩, ?_⟩
    · intro b off hp
      have hin : MemPlace.cell b off ∈ before := by rw [hps]; simpa using hp
      rw [hb.frozen (hlt _ hin)]
      exact hz b off hin
    · intro ha
      have := hn ha
      rw [hps] at this
      simpa using this
    · intro p hp _
      rw [hps]
      simpa using hp
theorem trodAll_stays (hl : laidOutB P = true) {W W' : World} {sp : Nat → Bool} (hb : Below W.heap.size W W') : ∀ (ts : List TypeId) (vs : List Value) (ds : List (DataW H)) (ps : List MemPlace),
    (∀ t ∈ ts, P.readableRec t = true ∧ t < P.types.size) → DataW.TrodAll enc P W 0 (fun _ => true) true ts vs ds ps → (∀ x ∈ ps, x.block < W.heap.size) → (∀ x ∈ ps, sp x.block = true) → DataW.TrodAll enc P W' 0 sp true ts vs ds ps
  | [], _, _, _, _, h, _, _ => by
    obtain ⟨rfl, rfl, rfl⟩ := trodAll_nil h
    exact trodAll_mk0
  | t :: ts, vs, ds, ps, ht, h, hlt, hsp => by
    obtain ⟨v, vs', d, ds', p, q, rfl, rfl, rfl, h1, h2⟩ := trodAll_cons h
    refine trodAll_cons_mk (WideElems.Trod_stays hl (ht t List.mem_cons_self).1 (ht t List.mem_cons_self).2 h1 (fun x hx => hb.same (hlt x (List.mem_append_left _ hx))) (fun x hx => hsp x (List.mem_append_left _ hx))) ?_
    exact trodAll_stays hl hb ts vs' ds' q (fun t' h' => ht t' (List.mem_cons_of_mem _ h')) h2 (fun x hx => hlt x (List.mem_append_right _ hx)) (fun x hx => hsp x (List.mem_append_right _ hx))
end

set_option maxRecDepth 100000 in
theorem intCells_of {H : Type} {enc : TypeId × Value → H} {W : World} {base : Nat} {sp : Nat → Bool} {held : Bool} {v0 v1 : Value} {m : Nat} {y : DataW H × List MemPlace}
    (h : DataW.trod enc Tryz.prog W base sp held m 24 [v0, v1] = some y) (hz : ∀ n ∈ DataW.weights Tryz.prog 24 y.1, n ≤ reachBytes) : ∃ neg xs, IntArg W (.agg #[v0, v1]) neg xs ∧ xs.length ≤ 35184372088832 := by
  obtain ⟨y0, y1, n, rfl, -, h0, h1⟩ := trod_struct2 Tryz.underlying24 h
  have c0 : Tryz.prog.cellsOf 4 = 1 := by kernel_rfl
  have c1 : Tryz.prog.cellsOf 22 = 1 := by kernel_rfl
  have c2 : Tryz.prog.bytesOf 93 = 4 := by kernel_rfl
  simp only [c0, c1, List.drop_zero, List.drop_succ_cons, List.take_succ_cons, List.take_zero] at h0 h1
  have hz1 : ∀ n ∈ DataW.weights Tryz.prog 22 y1.1, n ≤ reachBytes := fun n hn => hz n (by
    simp only [DataW.weights, Tryz.underlying24, List.map_cons, List.map_nil, DataW.weightsEach, List.mem_append]
    exact Or.inr (Or.inl hn))
  clear hz
  obtain ⟨neg, e, -⟩ := DataW.trod_bool Tryz.underlying4 h0
  obtain rfl : v0 = .bool neg := by simpa using e
  rcases open_ints Tryz.underlying22 Tryz.underlying93 (by kernel_rfl) h1 with ⟨e, -⟩ | ⟨a, len, cap, zs, e, hb, hl, hm, hz, ey, hc, hw⟩
  · obtain rfl : v1 = .slice none 0 0 := by simpa using e
    exact ⟨neg, [], ⟨_, rfl, U32.nil⟩, by simp⟩
  · obtain rfl : v1 = .slice (some a) len cap := by simpa using e
    have hlz : len ≤ zs.length := by rw [hz]; split <;> omega
    have hxl : ((zs.take len).map Int.toNat).length = len := by simp; omega
    have hnn : ∀ j, j < len → zs.getD j 0 = ((((zs.take len).map Int.toNat).getD j 0 : Nat) : Int) := fun j hj => by
      have hm : zs.getD j 0 ∈ zs := by
        have : zs.getD j 0 = zs[j]'(by omega) := by simp [List.getD, show j < zs.length by omega]
        rw [this]
        exact List.getElem_mem _
      have := hw _ hm
      simp only [Lit.wf, Bool.and_eq_true, decide_eq_true_eq] at this
      have h0 : 0 ≤ zs.getD j 0 := this.1
      have e : ((zs.take len).map Int.toNat).getD j 0 = (zs.getD j 0).toNat := by
        simp [List.getD, hj, show j < zs.length by omega]
      rw [e]
      omega
    have hsz : len ≤ 35184372088832 := by
      have := hz1 ((lits .u32 (zs.take len) : List (DataW H)).length * 4 + (lits .u32 (zs.drop len) : List (DataW H)).length * 4) (by
        rw [ey]
        simp only [DataW.weights, Tryz.underlying22, c2]
        rw [Nat.add_mul]
        exact List.mem_cons_self)
      have hl1 : (lits .u32 (zs.take len) : List (DataW H)).length = len := by simp [lits]; omega
      rw [hl1] at this
      unfold reachBytes at this
      omega
    refine ⟨neg, (zs.take len).map Int.toNat, ⟨_, rfl, some a, cap, by rw [hxl], by omega, hm, by simp, ?_⟩, by rw [hxl]; exact hsz⟩
    rw [hxl]
    intro hp
    have c0 := hc 0 (by omega)
    have hs : a.spot = none := by
      have := World.cell?_spot c0
      simpa [Addr.add] using this
    obtain ⟨bk, off, spot⟩ := a
    obtain rfl : spot = none := hs
    refine ⟨bk, off, rfl, ?_, fun j hj => ?_⟩
    · rcases Nat.lt_or_ge bk W.heap.size with h | h
      · exact h
      · simp [World.cell?, Addr.add, Array.getElem?_eq_none h] at c0
    · have := hc j (by omega)
      rw [add_plain, hnn j hj] at this
      exact this
set_option maxRecDepth 100000 in
theorem ratCells_of {H : Type} {enc : TypeId × Value → H} {W : World} {base : Nat} {sp : Nat → Bool} {held : Bool} {c0 c1 c2 c3 : Value} {m : Nat} {y : DataW H × List MemPlace}
    (h : DataW.trod enc Tryz.prog W base sp held m 28 [c0, c1, c2, c3] = some y) (hz : ∀ n ∈ DataW.weights Tryz.prog 28 y.1, n ≤ reachBytes) :
    ∃ n1 xs n2 ys, RatArg W (.agg #[c0, c1, c2, c3]) n1 xs n2 ys ∧ xs.length ≤ 35184372088832 ∧ ys.length ≤ 35184372088832 := by
  obtain ⟨y0, y1, n, rfl, -, h0, h1⟩ := trod_struct2 Tryz.underlying28 h
  have cc : Tryz.prog.cellsOf 24 = 2 := by kernel_rfl
  simp only [cc, List.drop_zero, List.drop_succ_cons, List.take_succ_cons, List.take_zero] at h0 h1
  have hz' : ∀ n, n ∈ DataW.weights Tryz.prog 24 y0.1 ∨ n ∈ DataW.weights Tryz.prog 24 y1.1 → n ≤ reachBytes := fun n hn => hz n (by
    simp only [DataW.weights, Tryz.underlying28, List.map_cons, List.map_nil, DataW.weightsEach, List.mem_append]
    rcases hn with hn | hn
    · exact Or.inl hn
    · exact Or.inr (Or.inl hn))
  obtain ⟨n1, xs, i1, l1⟩ := intCells_of h0 fun n hn => hz' n (.inl hn)
  obtain ⟨n2, ys, i2, l2⟩ := intCells_of h1 fun n hn => hz' n (.inr hn)
  exact ⟨n1, xs, n2, ys, ⟨_, _, _, _, rfl, i1, i2⟩, l1, l2⟩
end Go.Proofs.YtmochehkkadjnaaGreatDoor

namespace Go.Proofs.YtmochehkkadjnaaGreatDoor
open Go.RowKit Go.WideShapes Go.ChangeShapes Go.ChangeAt

theorem ownP : ownKnob Tryz.prog.godebug = none := by kernel_rfl
theorem gPow : Tryz.prog.globalNamed "internal/strconv.uint64pow10" = some 6 := by kernel_rfl

theorem tabIs_of_vars {P : Program} {W : World} {name : String} {k : IntKind} {zs : List Int} {rest : List (String × DataW Unit)} {g : Nat} {t e : TypeId} {n : Nat} {ps : List MemPlace}
    (hg : P.globalNamed name = some g) (hty : (P.globals[g]?).map (·.type) = some t) (ht : P.underlying t = some (.array n e)) (he : P.underlying e = some (.int k)) (hce : P.cellsOf e = 1) (hct : P.cellsOf t = n)
    (h : DataW.LaidVars P W ((name, Lib.tabData k zs) :: rest) ps) : Lib.TabIs P W name k zs := by
  obtain ⟨g', t', cs, fuel, p, q, hg', ht', hvar, hd, _, _⟩ := h
  obtain rfl := Option.some.inj (hg.symm.trans hg')
  obtain rfl := Option.some.inj (hty.symm.trans ht')
  unfold Lib.TabIs
  rw [hvar, ← Lib.cells_of_tab ht he hce hct hd]
theorem laidVars_tail {P : Program} {W : World} {x : String × DataW Unit} {rest : List (String × DataW Unit)} {ps : List MemPlace} (h : DataW.LaidVars P W (x :: rest) ps) : ∃ q, DataW.LaidVars P W rest q := by
  obtain ⟨g', t', cs, fuel, p, q, hg', ht', hvar, hd, hr, _⟩ := h
  exact ⟨_, hr⟩

def cellsOfData : DataW Unit → Array Value
  | .agg l => (l.map fun d => match d with | .lit (.int k n) => Value.int k n | _ => undef).toArray
  | _ => #[]
def strOfData : DataW Unit → ByteArray
  | .iface _ (.ptr (.agg [.lit (.string bs)])) => ⟨bs.toArray⟩
  | _ => ⟨#[]⟩
noncomputable def lowB : Nat := (World.holding Tryz.prog default ⟨#[], #[], []⟩).heap.size
def putCells (h : Array Obj) (g : Nat) (cs : Array Value) : Array Obj := h.modify g fun
  | .cells _ t frozen => .cells cs t frozen
  | o => o
noncomputable def laidWorld (os : Os) : World :=
  let w0 := World.holding Tryz.prog os ⟨#[.cells #[.string (strOfData Rows.laid_bytes_ErrTooLarge)] 206], #[], []⟩
  { w0 with heap := putCells (putCells (putCells (putCells w0.heap 7 (cellsOfData Rows.laid_math_bits_deBruijn32tab)) 8 (cellsOfData Rows.laid_math_bits_deBruijn64tab))
      6 (cellsOfData Rows.laid_internal_strconv_uint64pow10)) 0 #[.iface 204 (.pointer (some ⟨lowB, 0, none⟩))] }
def laid4 : List (String × DataW Unit) := Rows.fractionMakesRow.laid
theorem powTab_of {W : World} (h : laidMetH Tryz.prog laid4 W) : PowTab W := by
  have h' : laidMet Tryz.prog laid4 W := h
  obtain ⟨ps, hv, _⟩ := h'
  obtain ⟨q1, hv⟩ := laidVars_tail hv
  obtain ⟨q2, hv⟩ := laidVars_tail hv
  exact tabIs_of_vars (rest := [("bytes.ErrTooLarge", Rows.laid_bytes_ErrTooLarge)]) gPow (t := 200) (by kernel_rfl) Tryz.underlying200 Tryz.underlying105 (by kernel_rfl) (by kernel_rfl) hv
theorem laid_met (os : Os) (args : Array Value) : laidMet Tryz.prog laid4 ((laidWorld os).forCall (fun _ _ => 0) ⟨#[], args, []⟩).memory :=
  laidMet_of_run3 8 (by kernel_rfl) (by kernel_rfl) (by kernel_rfl)
end Go.Proofs.YtmochehkkadjnaaGreatDoor
