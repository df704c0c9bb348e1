/- The rows' last step, for every law of fractions: the arguments opened, read anew behind the call. The rows' last step, for the laws of reports: the arguments opened. The arguments of ReportChecks opened: a list of spots, a list of triples of fractions, a spot. -/
import Derived.Test.YtgcigdahjabimaaGreatDoorPk33
import Derived.Lib.SmallJoins
import Derived.Carry
import Derived.ChangeSame
import Derived.SizedLaws
import Derived.Test.YtgcigdahjabimaaGreatDoorPk50
import Derived.Test.YtgcigdahjabimaaGreatDoorPk52
import Derived.Test.YtgcigdahjabimaaGreatDoorCards
import Derived.Test.YtgcigdahjabimaaGreatDoorTie
import Derived.ProofKit
import Derived.OpenShut
import Derived.Deep.Slices
import Derived.Deep.DeepHandedRow
import Derived.Deep.DeepWitnessRowRef
import Derived.Deep.DeepLaidRun
import Derived.Lib.LaidTab
import Derived.Test.YtgcigdahjabimaaGreatDoorPk47
namespace Go.Proofs.YtgcigdahjabimaaGreatDoor
open Go.RowKit Go.WideShapes Go.ChangeShapes Go.Joins

theorem laidOutP : laidOutB Tryz.prog = true := by kernel_rfl
section
variable {H : Type} {enc : TypeId × Value → H} {P : Program}
theorem post_of_below {f : Func} {s : ChangeSpec} {apart fresh handsOn again : Bool} {W W' : World} {args : Array Value} {v : Value} {ds gs : List (DataW H)} {before pa pv : List MemPlace}
 (hW : DataW.Whole enc P f.params.toList s.vars apart W args.toList ds gs before)
 (hres : ∀ (b : Nat) (sp : Nat → Bool) (hd : Bool), DataW.TrodAll enc P W' b sp hd f.resultTypes.toList (v.resultList f.resultTypes.size) (s.fn H (ds ++ gs)).results [])
 (hargs : ∀ sp : Nat → Bool, (∀ p ∈ before, sp p.block = true) → DataW.TrodAll enc P W' 0 sp true f.params.toList args.toList (s.fn H (ds ++ gs)).args pa)
 (hvars : ∀ sp : Nat → Bool, (∀ p ∈ before, sp p.block = true) → DataW.TrodVars enc P W' sp s.vars (s.fn H (ds ++ gs)).vars pv)
 (hps : before = pa ++ pv) (hb : Below W.heap.size W W')
 (hok : ∀ (j : Nat) (t : TypeId) (r : Value), f.resultTypes[j]? = some t → (v.resultList f.resultTypes.size)[j]? = some r → Value.okWide P W' .any 0 t r) :
 s.post enc P f apart fresh handsOn again W args v W' := by
 have hlt : ∀ p ∈ before, p.block < W.heap.size := fun p hp => hW.lt p hp
 have hold : ∀ p ∈ before, (fun b => decide (b < W.heap.size)) p.block = true := fun p hp => by simpa using hlt p hp
 refine ⟨ds, gs, before, [], pa, pv, hW, hres _ _ _, hargs _ hold, hvars _ hold, World.keptBut_mono (fun p hp => ⟨hp, ?_⟩) (hb.frame (· ∈ before)), fun _ => ?_⟩
 ·rw [hps, List.mem_append] at hp
  exact Or.inr hp
 ·obtain ⟨_, _, _, _, _, hz, hn⟩ := hW
  refine ⟨hok, _, _, ([] ++ pa) ++ pv, ⟨[] ++ pa, pv, trodAll_append (hargs _ (fun _ _ => rfl)) (hres _ _ _), hvars _ (fun _ _ => rfl), rfl, ?_, ?_⟩, ?_⟩
  ·intro b off hp
   have hin : MemPlace.cell b off ∈ before := by rw [hps]; simpa using hp
   rw [hb.frozen (hlt _ hin)]
   exact hz b off hin
  ·intro ha
   have := hn ha
   rw [hps] at this
   simpa using this
  ·intro p hp _
   rw [hps]
   simpa using hp
theorem trodAll_stays (hl : laidOutB P = true) {W W' : World} {sp : Nat → Bool} (hb : Below W.heap.size W W') : ∀ (ts : List TypeId) (vs : List Value) (ds : List (DataW H)) (ps : List MemPlace),
 (∀ t ∈ ts, P.readableRec t = true ∧ t < P.types.size) → DataW.TrodAll enc P W 0 (fun _ => true) true ts vs ds ps → (∀ x ∈ ps, x.block < W.heap.size) → (∀ x ∈ ps, sp x.block = true) → DataW.TrodAll enc P W' 0 sp true ts vs ds ps
 | [], _, _, _, _, h, _, _ => by
  obtain ⟨rfl, rfl, rfl⟩ := trodAll_nil h
  exact trodAll_mk0
 | t :: ts, vs, ds, ps, ht, h, hlt, hsp => by
  obtain ⟨v, vs', d, ds', p, q, rfl, rfl, rfl, h1, h2⟩ := trodAll_cons h
  refine trodAll_cons_mk (WideElems.Trod_stays hl (ht t List.mem_cons_self).1 (ht t List.mem_cons_self).2 h1 (fun x hx => hb.same (hlt x (List.mem_append_left _ hx))) (fun x hx => hsp x (List.mem_append_left _ hx))) ?_
  exact trodAll_stays hl hb ts vs' ds' q (fun t' h' => ht t' (List.mem_cons_of_mem _ h')) h2 (fun x hx => hlt x (List.mem_append_right _ hx)) (fun x hx => hsp x (List.mem_append_right _ hx))
end

set_option maxRecDepth 100000 in
theorem intCells_of {H : Type} {enc : TypeId × Value → H} {W : World} {base : Nat} {sp : Nat → Bool} {held : Bool} {v0 v1 : Value} {m : Nat} {y : DataW H × List MemPlace}
 (h : DataW.trod enc Tryz.prog W base sp held m 29 [v0, v1] = some y) (hz : ∀ n ∈ DataW.weights Tryz.prog 29 y.1, n ≤ reachBytes) : ∃ neg xs, IntArg W (.agg #[v0, v1]) neg xs ∧ xs.length ≤ 35184372088832 := by
 obtain ⟨y0, y1, n, rfl, -, h0, h1⟩ := trod_struct2 Tryz.underlying29 h
 have c0 : Tryz.prog.cellsOf 4 = 1 := by kernel_rfl
 have c1 : Tryz.prog.cellsOf 27 = 1 := by kernel_rfl
 have c2 : Tryz.prog.bytesOf 109 = 4 := by kernel_rfl
 simp only [c0, c1, List.drop_zero, List.drop_succ_cons, List.take_succ_cons, List.take_zero] at h0 h1
 have hz1 : ∀ n ∈ DataW.weights Tryz.prog 27 y1.1, n ≤ reachBytes := fun n hn => hz n (by
  simp only [DataW.weights, Tryz.underlying29, List.map_cons, List.map_nil, DataW.weightsEach, List.mem_append]
  exact Or.inr (Or.inl hn))
 clear hz
 obtain ⟨neg, e, -⟩ := DataW.trod_bool Tryz.underlying4 h0
 obtain rfl : v0 = .bool neg := by simpa using e
 rcases open_ints Tryz.underlying27 Tryz.underlying109 (by kernel_rfl) h1 with ⟨e, -⟩ | ⟨a, len, cap, zs, e, hb, hl, hm, hz, ey, hc, hw⟩
 ·obtain rfl : v1 = .slice none 0 0 := by simpa using e
  exact ⟨neg, [], ⟨_, rfl, U32.nil⟩, by simp⟩
 ·obtain rfl : v1 = .slice (some a) len cap := by simpa using e
  have hlz : len ≤ zs.length := by rw [hz]; split <;> omega
  have hxl : ((zs.take len).map Int.toNat).length = len := by simp; omega
  have hnn : ∀ j, j < len → zs.getD j 0 = ((((zs.take len).map Int.toNat).getD j 0 : Nat) : Int) := fun j hj => by
   have hm : zs.getD j 0 ∈ zs := by
    have : zs.getD j 0 = zs[j]'(by omega) := by simp [List.getD, show j < zs.length by omega]
    rw [this]
    exact List.getElem_mem _
   have := hw _ hm
   simp only [Lit.wf, Bool.and_eq_true, decide_eq_true_eq] at this
   have h0 : 0 ≤ zs.getD j 0 := this.1
   have e : ((zs.take len).map Int.toNat).getD j 0 = (zs.getD j 0).toNat := by
    simp [List.getD, hj, show j < zs.length by omega]
   rw [e]
   omega
  have hsz : len ≤ 35184372088832 := by
   have := hz1 ((lits .u32 (zs.take len) : List (DataW H)).length * 4 + (lits .u32 (zs.drop len) : List (DataW H)).length * 4) (by
    rw [ey]
    simp only [DataW.weights, Tryz.underlying27, c2]
    rw [Nat.add_mul]
    exact List.mem_cons_self)
   have hl1 : (lits .u32 (zs.take len) : List (DataW H)).length = len := by simp [lits]; omega
   rw [hl1] at this
   unfold reachBytes at this
   omega
  refine ⟨neg, (zs.take len).map Int.toNat, ⟨_, rfl, some a, cap, by rw [hxl], by omega, hm, by simp, ?_⟩, by rw [hxl]; exact hsz⟩
  rw [hxl]
  intro hp
  have c0 := hc 0 (by omega)
  have hs : a.spot = none := by
   have := World.cell?_spot c0
   simpa [Addr.add] using this
  obtain ⟨bk, off, spot⟩ := a
  obtain rfl : spot = none := hs
  refine ⟨bk, off, rfl, ?_, fun j hj => ?_⟩
  ·rcases Nat.lt_or_ge bk W.heap.size with h | h
   ·exact h
   ·simp [World.cell?, Addr.add, Array.getElem?_eq_none h] at c0
  ·have := hc j (by omega)
   rw [add_plain, hnn j hj] at this
   exact this
set_option maxRecDepth 100000 in
theorem ratCells_of {H : Type} {enc : TypeId × Value → H} {W : World} {base : Nat} {sp : Nat → Bool} {held : Bool} {c0 c1 c2 c3 : Value} {m : Nat} {y : DataW H × List MemPlace}
 (h : DataW.trod enc Tryz.prog W base sp held m 31 [c0, c1, c2, c3] = some y) (hz : ∀ n ∈ DataW.weights Tryz.prog 31 y.1, n ≤ reachBytes) :
 ∃ n1 xs n2 ys, RatArg W (.agg #[c0, c1, c2, c3]) n1 xs n2 ys ∧ xs.length ≤ 35184372088832 ∧ ys.length ≤ 35184372088832 := by
 obtain ⟨y0, y1, n, rfl, -, h0, h1⟩ := trod_struct2 Tryz.underlying31 h
 have cc : Tryz.prog.cellsOf 29 = 2 := by kernel_rfl
 simp only [cc, List.drop_zero, List.drop_succ_cons, List.take_succ_cons, List.take_zero] at h0 h1
 have hz' : ∀ n, n ∈ DataW.weights Tryz.prog 29 y0.1 ∨ n ∈ DataW.weights Tryz.prog 29 y1.1 → n ≤ reachBytes := fun n hn => hz n (by
  simp only [DataW.weights, Tryz.underlying31, List.map_cons, List.map_nil, DataW.weightsEach, List.mem_append]
  rcases hn with hn | hn
  ·exact Or.inl hn
  ·exact Or.inr (Or.inl hn))
 obtain ⟨n1, xs, i1, l1⟩ := intCells_of h0 fun n hn => hz' n (.inl hn)
 obtain ⟨n2, ys, i2, l2⟩ := intCells_of h1 fun n hn => hz' n (.inr hn)
 exact ⟨n1, xs, n2, ys, ⟨_, _, _, _, rfl, i1, i2⟩, l1, l2⟩
end Go.Proofs.YtgcigdahjabimaaGreatDoor
namespace Go.Proofs.YtgcigdahjabimaaGreatDoor
open Go.RowKit Go.WideShapes Go.ChangeShapes Go.ChangeAt

theorem ownP : ownKnob Tryz.prog.godebug = none := by kernel_rfl
theorem gPow : Tryz.prog.globalNamed "internal/strconv.uint64pow10" = some 3 := by kernel_rfl

theorem tabIs_of_vars {P : Program} {W : World} {name : String} {k : IntKind} {zs : List Int} {rest : List (String × DataW Unit)} {g : Nat} {t e : TypeId} {n : Nat} {ps : List MemPlace}
 (hg : P.globalNamed name = some g) (hty : (P.globals[g]?).map (·.type) = some t) (ht : P.underlying t = some (.array n e)) (he : P.underlying e = some (.int k)) (hce : P.cellsOf e = 1) (hct : P.cellsOf t = n)
 (h : DataW.LaidVars P W ((name, Lib.tabData k zs) :: rest) ps) : Lib.TabIs P W name k zs := by
 obtain ⟨g', t', cs, fuel, p, q, hg', ht', hvar, hd, _, _⟩ := h
 obtain rfl := Option.some.inj (hg.symm.trans hg')
 obtain rfl := Option.some.inj (hty.symm.trans ht')
 unfold Lib.TabIs
 rw [hvar, ← Lib.cells_of_tab ht he hce hct hd]
theorem laidVars_tail {P : Program} {W : World} {x : String × DataW Unit} {rest : List (String × DataW Unit)} {ps : List MemPlace} (h : DataW.LaidVars P W (x :: rest) ps) : ∃ q, DataW.LaidVars P W rest q := by
 obtain ⟨g', t', cs, fuel, p, q, hg', ht', hvar, hd, hr, _⟩ := h
 exact ⟨_, hr⟩

def cellsOfData : DataW Unit → Array Value
 | .agg l => (l.map fun d => match d with | .lit (.int k n) => Value.int k n | _ => undef).toArray
 | _ => #[]
def strOfData : DataW Unit → ByteArray
 | .iface _ (.ptr (.agg [.lit (.string bs)])) => ⟨bs.toArray⟩
 | _ => ⟨#[]⟩
noncomputable def lowB : Nat := (World.holding Tryz.prog default ⟨#[], #[], []⟩).heap.size
def putCells (h : Array Obj) (g : Nat) (cs : Array Value) : Array Obj := h.modify g fun
 | .cells _ t frozen => .cells cs t frozen
 | o => o
noncomputable def laidWorld (os : Os) : World :=
 let w0 := World.holding Tryz.prog os ⟨#[.cells #[.string (strOfData Rows.laid_bytes_ErrTooLarge)] 207], #[], []⟩
 { w0 with heap := putCells (putCells (putCells (putCells w0.heap 5 (cellsOfData Rows.laid_math_bits_deBruijn32tab)) 6 (cellsOfData Rows.laid_math_bits_deBruijn64tab))
  3 (cellsOfData Rows.laid_internal_strconv_uint64pow10)) 4 #[.iface 205 (.pointer (some ⟨lowB, 0, none⟩))] }
def laid4 : List (String × DataW Unit) := Rows.reportCountsRow.laid
theorem powTab_of {W : World} (h : laidMetH Tryz.prog laid4 W) : PowTab W := by
 have h' : laidMet Tryz.prog laid4 W := h
 obtain ⟨ps, hv, _⟩ := h'
 obtain ⟨q1, hv⟩ := laidVars_tail hv
 obtain ⟨q2, hv⟩ := laidVars_tail hv
 exact tabIs_of_vars (rest := [("bytes.ErrTooLarge", Rows.laid_bytes_ErrTooLarge)]) gPow (t := 209) (by kernel_rfl) Tryz.underlying209 Tryz.underlying111 (by kernel_rfl) (by kernel_rfl) hv
theorem laid_met (os : Os) (args : Array Value) : laidMet Tryz.prog laid4 ((laidWorld os).forCall (fun _ _ => 0) ⟨#[], args, []⟩).memory :=
 laidMet_of_run3 8 (by kernel_rfl) (by kernel_rfl) (by kernel_rfl)
open Go.Joins
theorem weightsAll_mem {H : Type} {P : Program} {e : TypeId} : ∀ {l : List (DataW H)} {d : DataW H}, d ∈ l → ∀ n ∈ d.weights P e, n ∈ DataW.weightsAll P e l
 | x :: r, d, hd, n, hn => by
  rw [DataW.weightsAll, List.mem_append]
  rcases List.mem_cons.1 hd with rfl | h
  ·exact .inl hn
  ·exact .inr (weightsAll_mem h n hn)
section
variable {H : Type} {enc : TypeId × Value → H} {W : World} {base b0 : Nat} {sp : Nat → Bool} {held : Bool} {r : Reach} {v : Value} {d : DataW H} {p : List MemPlace}
theorem field_of {P : Program} {t : TypeId} {fs : Array Field} {fuel : Nat} {cs : List Value} {x : DataW H × List MemPlace} (ht : P.underlying t = some (.struct fs)) (h : DataW.trod enc P W base sp held fuel t cs = some x) {i : Nat} {f : Field} (hf : fs[i]? = some f) :
 ∃ y n, DataW.trod enc P W base sp held n f.type ((cs.drop f.offset).take (P.cellsOf f.type)) = some y ∧ ∀ k, k ∈ DataW.weights P f.type y.1 → k ∈ DataW.weights P t x.1 := by
 obtain ⟨xs, n, -, rfl, -, hlen, hall⟩ := DataW.trod_struct ht h
 have hi : i < xs.length := by rw [hlen]; exact (Array.getElem?_eq_some_iff.1 hf).1
 refine ⟨xs[i], n, by rw [hall i f hf]; exact List.getElem?_eq_getElem hi, fun k hk => ?_⟩
 simp only [DataW.weights, ht]
 exact DataW.weights_mem_each (j := i) (t := f.type) (by simp [hf]) (by simp [hi]) k hk
theorem RatA.cap {c0 c1 c2 c3 : Value} {x : RA} (h : RatA W (.agg #[c0, c1, c2, c3]) x) : (∀ n c, c0 ≠ .slice none n c) ∧ (∀ n c, c1 = .slice none n c → c = 0) ∧ (∀ n c, c2 ≠ .slice none n c) ∧ ∀ n c, c3 = .slice none n c → c = 0 := by
 obtain ⟨⟨x0, x1, x2, x3, e, ⟨u, e1, A1, a1, rfl, -, -, k1, -⟩, ⟨u2, e2, A2, a2, rfl, -, -, k2, -⟩⟩, -⟩ := h
 simp only [Value.agg.injEq, Array.mk.injEq, List.cons.injEq, and_true] at e e1 e2
 obtain ⟨rfl, rfl, rfl, rfl⟩ := e
 obtain ⟨rfl, rfl⟩ := e1
 obtain ⟨rfl, rfl⟩ := e2
 exact ⟨fun n c h => (by cases h), fun n c h => (by cases h; exact k1 rfl), fun n c h => (by cases h), fun n c h => (by cases h; exact k2 rfl)⟩
end
end Go.Proofs.YtgcigdahjabimaaGreatDoor
namespace Go.Proofs.YtgcigdahjabimaaGreatDoor
open Go.RowKit Go.WideShapes Go.ChangeShapes Go.ChangeAt Go.Joins
section
variable {H : Type} {enc : TypeId × Value → H} {W : World} {base b0 : Nat} {sp : Nat → Bool} {held : Bool} {r : Reach} {v : Value} {d : DataW H} {p : List MemPlace}
theorem list3 {α : Type} {cs : Array α} (h : cs.size = 3) : ∃ a b c, cs = #[a, b, c] := by
 obtain ⟨l⟩ := cs
 match l, h with
 | [a, b, c], _ => exact ⟨a, b, c, rfl⟩
set_option maxRecDepth 100000 in
theorem spotCells_of {fuel : Nat} {c0 c1 c2 : Value} {x : DataW H × List MemPlace} (h : DataW.trod enc Tryz.prog W base sp held fuel 25 [c0, c1, c2] = some x) : ∃ a b c : Int, c0 = .int .i64 a ∧ c1 = .int .i64 b ∧ c2 = .int .i64 c := by
 obtain ⟨y0, n0, e0, -⟩ := field_of Tryz.underlying25 h (i := 0) rfl
 obtain ⟨y1, n1, e1, -⟩ := field_of Tryz.underlying25 h (i := 1) rfl
 obtain ⟨y2, n2, e2, -⟩ := field_of Tryz.underlying25 h (i := 2) rfl
 obtain ⟨a0, q0, -, -⟩ := DataW.trod_int Tryz.underlying3 e0
 obtain ⟨a1, q1, -, -⟩ := DataW.trod_int Tryz.underlying3 e1
 obtain ⟨a2, q2, -, -⟩ := DataW.trod_int Tryz.underlying3 e2
 cases q0; cases q1; cases q2
 exact ⟨a0, a1, a2, rfl, rfl, rfl⟩
set_option maxRecDepth 100000 in
theorem spotArg_of (hv : Value.okWide Tryz.prog W r b0 25 v) (h : DataW.Trod enc Tryz.prog W base sp held 25 v d p) : ∃ a b c : Int, v = .agg #[.int .i64 a, .int .i64 b, .int .i64 c] := by
 obtain ⟨cs, rfl, hsz⟩ := okWide_struct Tryz.underlying25 hv
 obtain ⟨c0, c1, c2, rfl⟩ := list3 (hsz.trans (by kernel_rfl))
 obtain ⟨fuel, hf⟩ := h
 obtain ⟨a, b, c, rfl, rfl, rfl⟩ := spotCells_of (x := (d, p)) (by simpa [Value.cells] using hf)
 exact ⟨a, b, c, rfl⟩
theorem getD_three {len : Nat} (f : Nat → Int × Int × Int) {i : Nat} (hi : i < len) : ((List.range (3 * len)).map fun j => if j % 3 = 0 then (f (j / 3)).1 else if j % 3 = 1 then (f (j / 3)).2.1 else (f (j / 3)).2.2).getD (3 * i) 0 = (f i).1 ∧
 ((List.range (3 * len)).map fun j => if j % 3 = 0 then (f (j / 3)).1 else if j % 3 = 1 then (f (j / 3)).2.1 else (f (j / 3)).2.2).getD (3 * i + 1) 0 = (f i).2.1 ∧
 ((List.range (3 * len)).map fun j => if j % 3 = 0 then (f (j / 3)).1 else if j % 3 = 1 then (f (j / 3)).2.1 else (f (j / 3)).2.2).getD (3 * i + 2) 0 = (f i).2.2 := by
 refine ⟨?_, ?_, ?_⟩
 ·rw [List.getD, List.getElem?_map, List.getElem?_range (by omega)]
  show (if 3 * i % 3 = 0 then _ else _) = _
  rw [if_pos (by omega), show 3 * i / 3 = i by omega]
 ·rw [List.getD, List.getElem?_map, List.getElem?_range (by omega)]
  show (if (3 * i + 1) % 3 = 0 then _ else _) = _
  rw [if_neg (by omega), if_pos (by omega), show (3 * i + 1) / 3 = i by omega]
 ·rw [List.getD, List.getElem?_map, List.getElem?_range (by omega)]
  show (if (3 * i + 2) % 3 = 0 then _ else _) = _
  rw [if_neg (by omega), if_neg (by omega), show (3 * i + 2) / 3 = i by omega]
set_option maxRecDepth 100000 in
theorem spotsArg_of (hv : Value.okWide Tryz.prog W r b0 22 v) (h : DataW.Trod enc Tryz.prog W base sp held 22 v d p) : ∃ A len cap l, v = .slice A len cap ∧ IRow W A l ∧ l.length = 3 * len ∧ len ≤ maxLen := by
 obtain ⟨A, len, cap, rfl⟩ := okWide_slice Tryz.underlying22 hv
 obtain ⟨fuel, hf⟩ := h
 have hf' : DataW.trod enc Tryz.prog W base sp held fuel 22 [.slice A len cap] = some (d, p) := by simpa [Value.cells] using hf
 have c3 : Tryz.prog.cellsOf 25 = 3 := by kernel_rfl
 rcases Go.Deep.open_slice Tryz.underlying22 hf' with ⟨e, -⟩ | ⟨a, len', cap', m, n, D, Pl, e, hb, hl, hm, hmm, hx, hel⟩
 ·obtain ⟨rfl, rfl, rfl⟩ : A = none ∧ len = 0 ∧ cap = 0 := by simpa using e
  exact ⟨none, 0, 0, [], rfl, fun h => absurd h (by simp), rfl, by simp [maxLen]⟩
 ·obtain ⟨rfl, rfl, rfl⟩ : A = some a ∧ len = len' ∧ cap = cap' := by simpa using e
  have hlm : len ≤ m := by rw [hmm]; split <;> omega
  rw [c3] at hel
  have hsp : 0 < len → a.spot = none := fun h0 => by
   obtain ⟨cs, h1, -⟩ := hel 0 (by omega)
   obtain ⟨-, hlen, hc⟩ := World.cells?_some h1
   match cs, hlen with
   | [c0, c1, c2], _ =>
    have g0 := World.cell?_spot (hc 0 (by omega))
    simpa [Addr.add] using g0
  have key : ∀ i, i < len → ∃ x : Int × Int × Int, W.cell? ⟨a.block, a.off + i * 3, none⟩ = some (.int .i64 x.1) ∧ W.cell? ⟨a.block, a.off + i * 3 + 1, none⟩ = some (.int .i64 x.2.1) ∧ W.cell? ⟨a.block, a.off + i * 3 + 2, none⟩ = some (.int .i64 x.2.2) := by
   intro i hi
   obtain ⟨cs, h1, h2⟩ := hel i (by omega)
   obtain ⟨-, hlen, hc⟩ := World.cells?_some h1
   match cs, hlen with
   | [c0, c1, c2], _ =>
    have g0 := hc 0 (by omega)
    have g1 := hc 1 (by omega)
    have g2 := hc 2 (by omega)
    have hs : a.spot = none := hsp (by omega)
    obtain ⟨bk, off, spot⟩ := a
    obtain rfl : spot = none := hs
    rw [add_plain, add_plain] at g0 g1 g2
    obtain ⟨x, y, z, rfl, rfl, rfl⟩ := spotCells_of h2
    exact ⟨(x, y, z), g0, g1, g2⟩
  obtain ⟨f, hf⟩ : ∃ f : Nat → Int × Int × Int, ∀ i, i < len → W.cell? ⟨a.block, a.off + i * 3, none⟩ = some (.int .i64 (f i).1) ∧ W.cell? ⟨a.block, a.off + i * 3 + 1, none⟩ = some (.int .i64 (f i).2.1) ∧ W.cell? ⟨a.block, a.off + i * 3 + 2, none⟩ = some (.int .i64 (f i).2.2) :=
   ⟨fun i => if h : i < len then Classical.choose (key i h) else (0, 0, 0), fun i hi => by simp only [dif_pos hi]; exact Classical.choose_spec (key i hi)⟩
  refine ⟨some a, len, cap, (List.range (3 * len)).map fun j => if j % 3 = 0 then (f (j / 3)).1 else if j % 3 = 1 then (f (j / 3)).2.1 else (f (j / 3)).2.2, rfl, fun hp => ?_, by simp, Nat.le_trans hl hm⟩
  have h0 : 0 < len := by simp at hp; omega
  have hs := hsp h0
  obtain ⟨bk, off, spot⟩ := a
  obtain rfl : spot = none := hs
  refine ⟨bk, off, rfl, cell_lt (hf 0 h0).1, fun j hj => ?_⟩
  have hj3 : j < 3 * len := by simpa using hj
  obtain ⟨g0, g1, g2⟩ := hf (j / 3) (by omega)
  obtain ⟨d0, d1, d2⟩ := getD_three f (len := len) (i := j / 3) (by omega)
  have hc : j = 3 * (j / 3) ∨ j = 3 * (j / 3) + 1 ∨ j = 3 * (j / 3) + 2 := by omega
  unfold iv
  rcases hc with h | h | h
  ·rw [← h] at d0
   rw [d0, ← g0]
   congr 2; simp only; omega
  ·rw [← h] at d1
   rw [d1, ← g1]
   congr 2; simp only; omega
  ·rw [← h] at d2
   rw [d2, ← g2]
   congr 2; simp only; omega
set_option maxRecDepth 100000 in
theorem triCells_of {fuel : Nat} {c0 c1 c2 c3 c4 c5 c6 c7 c8 c9 c10 c11 : Value} {x : DataW H × List MemPlace} (h : DataW.trod enc Tryz.prog W base sp held fuel 32 [c0, c1, c2, c3, c4, c5, c6, c7, c8, c9, c10, c11] = some x) (hz : ∀ n ∈ DataW.weights Tryz.prog 32 x.1, n ≤ reachBytes) :
 ∃ a b c : RA, RatA W (.agg #[c0, c1, c2, c3]) a ∧ RatA W (.agg #[c4, c5, c6, c7]) b ∧ RatA W (.agg #[c8, c9, c10, c11]) c := by
 have c4 : Tryz.prog.cellsOf 31 = 4 := by kernel_rfl
 obtain ⟨xs, m, -, rfl, -, hl, hi⟩ := DataW.trod_array Tryz.underlying32 h
 rw [c4] at hi
 match xs, hl with
 | [y0, y1, y2], _ =>
  have h0 := hi 0 (by omega)
  have h1 := hi 1 (by omega)
  have h2 := hi 2 (by omega)
  have hw : ∀ y ∈ [y0, y1, y2], ∀ n ∈ DataW.weights Tryz.prog 31 y.1, n ≤ reachBytes := fun y hy n hn => hz n (by
   simp only [DataW.weights, Tryz.underlying32]
   exact weightsAll_mem (List.mem_map.2 ⟨y, hy, rfl⟩) n hn)
  obtain ⟨a1, a2, a3, a4, hA, l1, l2⟩ := ratCells_of (y := y0) h0 (hw _ (by simp))
  obtain ⟨b1, b2, b3, b4, hB, l3, l4⟩ := ratCells_of (y := y1) h1 (hw _ (by simp))
  obtain ⟨d1, d2, d3, d4, hD, l5, l6⟩ := ratCells_of (y := y2) h2 (hw _ (by simp))
  exact ⟨(a1, a2, a3, a4), (b1, b2, b3, b4), (d1, d2, d3, d4), ⟨hA, l1, l2⟩, ⟨hB, l3, l4⟩, hD, l5, l6⟩
abbrev TriAt (W : World) (a : Addr) (i : Nat) (x : RA × RA × RA) : Prop := ∃ c0 c1 c2 c3 c4 c5 c6 c7 c8 c9 c10 c11, (W.cell? ⟨a.block, a.off + i * 12, none⟩ = some c0 ∧ W.cell? ⟨a.block, a.off + i * 12 + 1, none⟩ = some c1 ∧ W.cell? ⟨a.block, a.off + i * 12 + 2, none⟩ = some c2 ∧ W.cell? ⟨a.block, a.off + i * 12 + 3, none⟩ = some c3 ∧ W.cell? ⟨a.block, a.off + i * 12 + 4, none⟩ = some c4 ∧ W.cell? ⟨a.block, a.off + i * 12 + 5, none⟩ = some c5 ∧ W.cell? ⟨a.block, a.off + i * 12 + 6, none⟩ = some c6 ∧ W.cell? ⟨a.block, a.off + i * 12 + 7, none⟩ = some c7 ∧ W.cell? ⟨a.block, a.off + i * 12 + 8, none⟩ = some c8 ∧ W.cell? ⟨a.block, a.off + i * 12 + 9, none⟩ = some c9 ∧ W.cell? ⟨a.block, a.off + i * 12 + 10, none⟩ = some c10 ∧ W.cell? ⟨a.block, a.off + i * 12 + 11, none⟩ = some c11) ∧ RatA W (.agg #[c0, c1, c2, c3]) x.1 ∧ RatA W (.agg #[c4, c5, c6, c7]) x.2.1 ∧ RatA W (.agg #[c8, c9, c10, c11]) x.2.2
set_option maxRecDepth 100000 in
theorem trisArg_of (hv : Value.okWide Tryz.prog W r b0 23 v) (h : DataW.Trod enc Tryz.prog W base sp held 23 v d p) (hz : ∀ n ∈ DataW.weights Tryz.prog 23 d, n ≤ reachBytes) : ∃ A len cap l, v = .slice A len cap ∧ Row4 RatA W A l ∧ l.length = 3 * len ∧ len ≤ maxLen := by
 obtain ⟨A, len, cap, rfl⟩ := okWide_slice Tryz.underlying23 hv
 obtain ⟨fuel, hf⟩ := h
 have hf' : DataW.trod enc Tryz.prog W base sp held fuel 23 [.slice A len cap] = some (d, p) := by simpa [Value.cells] using hf
 have c12 : Tryz.prog.cellsOf 32 = 12 := by kernel_rfl
 rcases Go.Deep.open_slice Tryz.underlying23 hf' with ⟨e, -⟩ | ⟨a, len', cap', m, n, D, Pl, e, hb, hl, hm, hmm, hx, hel⟩
 ·obtain ⟨rfl, rfl, rfl⟩ : A = none ∧ len = 0 ∧ cap = 0 := by simpa using e
  exact ⟨none, 0, 0, [], rfl, fun j x hj => by simp at hj, rfl, by simp [maxLen]⟩
 ·obtain ⟨rfl, rfl, rfl⟩ : A = some a ∧ len = len' ∧ cap = cap' := by simpa using e
  have hlm : len ≤ m := by rw [hmm]; split <;> omega
  have hd : d = .slice ((List.range len).map D) ((List.range (m - len)).map fun j => D (len + j)) := congrArg Prod.fst hx
  rw [c12] at hel
  have hsp : 0 < len → a.spot = none := fun h0 => by
   obtain ⟨cs, h1, -⟩ := hel 0 (by omega)
   obtain ⟨-, hlen, hc⟩ := World.cells?_some h1
   match cs, hlen with
   | [c0, c1, c2, c3, c4, c5, c6, c7, c8, c9, c10, c11], _ =>
    have g0 := World.cell?_spot (hc 0 (by omega))
    simpa [Addr.add] using g0
  have key : ∀ i, i < len → ∃ x : RA × RA × RA, TriAt W a i x := by
   intro i hi
   obtain ⟨cs, h1, h2⟩ := hel i (by omega)
   obtain ⟨-, hlen, hc⟩ := World.cells?_some h1
   match cs, hlen with
   | [c0, c1, c2, c3, c4, c5, c6, c7, c8, c9, c10, c11], _ =>
    have hg : ∀ j, j < 12 → W.cell? ⟨a.block, a.off + i * 12 + j, none⟩ = some ([c0, c1, c2, c3, c4, c5, c6, c7, c8, c9, c10, c11].getD j undef) := fun j hj => by
     have g := hc j (by simpa using hj)
     have hs : a.spot = none := hsp (by omega)
     obtain ⟨bk, off, spot⟩ := a
     obtain rfl : spot = none := hs
     rw [add_plain, add_plain] at g
     rw [g, List.getD, List.getElem?_eq_getElem (by simpa using hj)]
     rfl
    obtain ⟨x, y, z, hX, hY, hZ⟩ := triCells_of h2 (fun n hn => hz n (by
     rw [hd]
     simp only [DataW.weights, Tryz.underlying23]
     exact List.mem_cons_of_mem _ (List.mem_append_left _ (weightsAll_mem (List.mem_map.2 ⟨i, List.mem_range.2 hi, rfl⟩) n hn))))
    exact ⟨(x, y, z), c0, c1, c2, c3, c4, c5, c6, c7, c8, c9, c10, c11, ⟨hg 0 (by omega), hg 1 (by omega), hg 2 (by omega), hg 3 (by omega), hg 4 (by omega), hg 5 (by omega), hg 6 (by omega), hg 7 (by omega), hg 8 (by omega), hg 9 (by omega), hg 10 (by omega), hg 11 (by omega)⟩, hX, hY, hZ⟩
  obtain ⟨f, hf⟩ : ∃ f : Nat → RA × RA × RA, ∀ i, i < len → TriAt W a i (f i) :=
   ⟨fun i => if h : i < len then Classical.choose (key i h) else default, fun i hi => by simp only [dif_pos hi]; exact Classical.choose_spec (key i hi)⟩
  refine ⟨some a, len, cap, (List.range (3 * len)).map fun j => if j % 3 = 0 then (f (j / 3)).1 else if j % 3 = 1 then (f (j / 3)).2.1 else (f (j / 3)).2.2, rfl, fun j x hj => ?_, by simp, Nat.le_trans hl hm⟩
  rw [List.getElem?_map] at hj
  obtain ⟨i, hi, rfl⟩ := Option.map_eq_some_iff.1 hj
  obtain ⟨hlt, rfl⟩ := List.getElem?_eq_some_iff.1 hi
  have hj3 : j < 3 * len := by simpa using hlt
  rw [List.getElem_range]
  have hs := hsp (by omega)
  obtain ⟨c0, c1, c2, c3, c4, c5, c6, c7, c8, c9, c10, c11, ⟨g0, g1, g2, g3, g4, g5, g6, g7, g8, g9, g10, g11⟩, hX, hY, hZ⟩ := hf (j / 3) (by omega)
  obtain ⟨bk, off, spot⟩ := a
  obtain rfl : spot = none := hs
  have hc : j = 3 * (j / 3) ∨ j = 3 * (j / 3) + 1 ∨ j = 3 * (j / 3) + 2 := by omega
  simp only at g0 g1 g2 g3 g4 g5 g6 g7 g8 g9 g10 g11
  rcases hc with h | h | h
  ·rw [if_pos (by omega)]
   rw [show off + j / 3 * 12 = off + j * 4 by omega] at g0 g1 g2 g3
   exact ⟨bk, off, c0, c1, c2, c3, rfl, ⟨g0, g1, g2, g3⟩, hX⟩
  ·rw [if_neg (by omega), if_pos (by omega)]
   rw [show off + j / 3 * 12 + 4 = off + j * 4 by omega] at g4
   rw [show off + j / 3 * 12 + 5 = off + j * 4 + 1 by omega] at g5
   rw [show off + j / 3 * 12 + 6 = off + j * 4 + 2 by omega] at g6
   rw [show off + j / 3 * 12 + 7 = off + j * 4 + 3 by omega] at g7
   exact ⟨bk, off, c4, c5, c6, c7, rfl, ⟨g4, g5, g6, g7⟩, hY⟩
  ·rw [if_neg (by omega), if_neg (by omega)]
   rw [show off + j / 3 * 12 + 8 = off + j * 4 by omega] at g8
   rw [show off + j / 3 * 12 + 9 = off + j * 4 + 1 by omega] at g9
   rw [show off + j / 3 * 12 + 10 = off + j * 4 + 2 by omega] at g10
   rw [show off + j / 3 * 12 + 11 = off + j * 4 + 3 by omega] at g11
   exact ⟨bk, off, c8, c9, c10, c11, rfl, ⟨g8, g9, g10, g11⟩, hZ⟩
end
end Go.Proofs.YtgcigdahjabimaaGreatDoor
