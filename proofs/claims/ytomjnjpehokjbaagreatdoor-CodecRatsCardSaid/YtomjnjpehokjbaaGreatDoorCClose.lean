/- The rows' last step, for every law of the codec: the arguments opened, read anew behind the call; a world for the witness. -/
import Derived.Test.YtomjnjpehokjbaaGreatDoorMgSet5
import Derived.Test.YtomjnjpehokjbaaGreatDoorRows
import Derived.Test.YtomjnjpehokjbaaGreatDoorCards
import Derived.Test.YtomjnjpehokjbaaGreatDoorTie
import Derived.Lib.SmallJoins
import Derived.Lib.LaidTab
import Derived.Carry
import Derived.ChangeSame
import Derived.ChangeSlices
import Derived.ChangeMaps5
import Derived.SizedLaws
import Derived.ProofKit
import Derived.OpenShut
import Derived.Deep.DeepHandedRow
import Derived.Deep.DeepWitnessRowRef
import Derived.Deep.DeepLaidRun
namespace Go.Proofs.YtomjnjpehokjbaaGreatDoor
open Go.RowKit Go.WideShapes Go.ChangeShapes Go.Joins

theorem laidOutP : laidOutB Tryz.prog = true := by kernel_rfl
section
variable {H : Type} {enc : TypeId × Value → H} {P : Program}
theorem post_of_below {f : Func} {s : ChangeSpec} {apart fresh handsOn again : Bool} {W W' : World} {args : Array Value} {v : Value} {ds gs : List (DataW H)} {before pa pv : List MemPlace}
    (hW : DataW.Whole enc P f.params.toList s.vars apart W args.toList ds gs before)
    (hres : ∀ (b : Nat) (sp : Nat → Bool) (hd : Bool), DataW.TrodAll enc P W' b sp hd f.resultTypes.toList (v.resultList f.resultTypes.size) (s.fn H (ds ++ gs)).results [])
    (hargs : ∀ sp : Nat → Bool, (∀ p ∈ before, sp p.block = true) → DataW.TrodAll enc P W' 0 sp true f.params.toList args.toList (s.fn H (ds ++ gs)).args pa)
    (hvars : ∀ sp : Nat → Bool, (∀ p ∈ before, sp p.block = true) → DataW.TrodVars enc P W' sp s.vars (s.fn H (ds ++ gs)).vars pv)
    (hps : before = pa ++ pv) (hb : Below W.heap.size W W')
    (hok : ∀ (j : Nat) (t : TypeId) (r : Value), f.resultTypes[j]? = some t → (v.resultList f.resultTypes.size)[j]? = some r → Value.okWide P W' .any 0 t r) :
    s.post enc P f apart fresh handsOn again W args v W' := by
  have hlt : ∀ p ∈ before, p.block < W.heap.size := fun p hp => hW.lt p hp
  have hold : ∀ p ∈ before, (fun b => decide (b < W.heap.size)) p.block = true := fun p hp => by simpa using hlt p hp
  refine ⟨ds, gs, before, [], pa, pv, hW, hres _ _ _, hargs _ hold, hvars _ hold, World.keptBut_mono (fun p hp => ⟨hp, ?_⟩) (hb.frame (· ∈ before)), fun _ => ?_⟩
  · rw [hps, List.mem_append] at hp
    exact Or.inr hp
  · obtain ⟨_, _, _, _, _, hz, hn⟩ := hW
    refine ⟨hok, _, _, ([] ++ pa) ++ pv, ⟨[] ++ pa, pv, trodAll_append (hargs _ (fun _ _ => rfl)) (hres _ _ _), hvars _ (fun _ _ => rfl), rfl, ?_, ?_⟩, ?_⟩
    · intro b off hp
      have hin : MemPlace.cell b off ∈ before := by rw [hps]; simpa using hp
      rw [hb.frozen (hlt _ hin)]
      exact hz b off hin
    · intro ha
      have := hn ha
      rw [hps] at this
      simpa using this
    · intro p hp _
      rw [hps]
      simpa using hp
/-- the arguments read behind the call as they did -/
theorem trodAll_stays (hl : laidOutB P = true) {W W' : World} {sp : Nat → Bool} (hb : Below W.heap.size W W') : ∀ (ts : List TypeId) (vs : List Value) (ds : List (DataW H)) (ps : List MemPlace),
    (∀ t ∈ ts, P.readableRec t = true ∧ t < P.types.size) → DataW.TrodAll enc P W 0 (fun _ => true) true ts vs ds ps → (∀ x ∈ ps, x.block < W.heap.size) → (∀ x ∈ ps, sp x.block = true) → DataW.TrodAll enc P W' 0 sp true ts vs ds ps
  | [], _, _, _, _, h, _, _ => by
    obtain ⟨rfl, rfl, rfl⟩ := trodAll_nil h
    exact trodAll_mk0
  | t :: ts, vs, ds, ps, ht, h, hlt, hsp => by
    obtain ⟨v, vs', d, ds', p, q, rfl, rfl, rfl, h1, h2⟩ := trodAll_cons h
    refine trodAll_cons_mk (WideElems.Trod_stays hl (ht t List.mem_cons_self).1 (ht t List.mem_cons_self).2 h1 (fun x hx => hb.same (hlt x (List.mem_append_left _ hx))) (fun x hx => hsp x (List.mem_append_left _ hx))) ?_
    exact trodAll_stays hl hb ts vs' ds' q (fun t' h' => ht t' (List.mem_cons_of_mem _ h')) h2 (fun x hx => hlt x (List.mem_append_right _ hx)) (fun x hx => hsp x (List.mem_append_right _ hx))
end

theorem i64_of_wf {z : Int} (h : (Lit.int .i64 z).wf = true) : -9223372036854775808 ≤ z ∧ z ≤ 9223372036854775807 := by
  simp [Lit.wf, IntKind.min, IntKind.max, IntKind.signed, IntKind.bits] at h
  exact h
theorem ownP : ownKnob Tryz.prog.godebug = none := by kernel_rfl
theorem gPow : Tryz.prog.globalNamed "internal/strconv.uint64pow10" = some 4 := by kernel_rfl
theorem tabIs_of_vars {P : Program} {W : World} {name : String} {k : IntKind} {zs : List Int} {rest : List (String × DataW Unit)} {g : Nat} {t e : TypeId} {n : Nat} {ps : List MemPlace}
    (hg : P.globalNamed name = some g) (hty : (P.globals[g]?).map (·.type) = some t) (ht : P.underlying t = some (.array n e)) (he : P.underlying e = some (.int k)) (hce : P.cellsOf e = 1) (hct : P.cellsOf t = n)
    (h : DataW.LaidVars P W ((name, Lib.tabData k zs) :: rest) ps) : Lib.TabIs P W name k zs := by
  obtain ⟨g', t', cs, fuel, p, q, hg', ht', hvar, hd, _, _⟩ := h
  obtain rfl := Option.some.inj (hg.symm.trans hg')
  obtain rfl := Option.some.inj (hty.symm.trans ht')
  unfold Lib.TabIs
  rw [hvar, ← Lib.cells_of_tab ht he hce hct hd]
theorem laidVars_tail {P : Program} {W : World} {x : String × DataW Unit} {rest : List (String × DataW Unit)} {ps : List MemPlace} (h : DataW.LaidVars P W (x :: rest) ps) : ∃ q, DataW.LaidVars P W rest q := by
  obtain ⟨g', t', cs, fuel, p, q, hg', ht', hvar, hd, hr, _⟩ := h
  exact ⟨_, hr⟩
theorem iface_cells {H : Type} {enc : TypeId × Value → H} {P : Program} {W : World} {base fuel : Nat} {sp : Nat → Bool} {t : TypeId} {cs : List Value} {ms : Array (String × TypeId)} {nm : String} {x : DataW H} {p : List MemPlace}
    (hu : P.underlying t = some (.interface ms)) (h : DataW.trod enc P W base sp false fuel t cs = some (.iface nm x, p)) : ∃ u v, cs = [.iface u v] := by
  cases fuel with
  | zero => cases h
  | succ n =>
    simp only [DataW.trod, hu] at h
    split at h <;> first | exact ⟨_, _, rfl⟩ | simp_all
/-- a sentinel that is laid: its variable holds an interface -/
theorem sentinel_of_vars {P : Program} {W : World} {name nm : String} {x : DataW Unit} {rest : List (String × DataW Unit)} {g : Nat} {t : TypeId} {ms : Array (String × TypeId)} {ps : List MemPlace}
    (hg : P.globalNamed name = some g) (hty : (P.globals[g]?).map (·.type) = some t) (ht : P.underlying t = some (.interface ms)) (h : DataW.LaidVars P W ((name, .iface nm x) :: rest) ps) :
    (∃ tp p, W.var? P name = some #[.iface tp p]) ∧ g < W.heap.size := by
  obtain ⟨g', t', cs, fuel, p, q, hg', ht', hvar, hd, _, _⟩ := h
  obtain rfl := Option.some.inj (hg.symm.trans hg')
  obtain rfl := Option.some.inj (hty.symm.trans ht')
  obtain ⟨u, v, hc⟩ := iface_cells ht hd
  obtain rfl : cs = #[.iface u v] := by cases cs; simp_all
  refine ⟨⟨u, v, hvar⟩, ?_⟩
  unfold World.var? at hvar
  rw [hg] at hvar
  simp only [Option.bind_some] at hvar
  rcases Nat.lt_or_ge g W.heap.size with h | h
  · exact h
  · rw [Array.getElem?_eq_none h] at hvar
    cases hvar

/-- the cells of a listed table -/
def cellsOfData : DataW Unit → Array Value
  | .agg l => (l.map fun d => match d with | .lit (.int k n) => Value.int k n | _ => undef).toArray
  | _ => #[]
def strOfData : DataW Unit → ByteArray
  | .iface _ (.ptr (.agg [.lit (.string bs)])) => ⟨bs.toArray⟩
  | _ => ⟨#[]⟩
noncomputable def lowB : Nat := (World.holding Tryz.prog default ⟨#[], #[], []⟩).heap.size
def putCells (h : Array Obj) (g : Nat) (cs : Array Value) : Array Obj := h.modify g fun
  | .cells _ t frozen => .cells cs t frozen
  | o => o
def errBlock (d : DataW Unit) : Obj := .cells #[.string (strOfData d)] 183
def errCell (b : Nat) : Array Value := #[.iface 181 (.pointer (some ⟨b, 0, none⟩))]
noncomputable def laidWorld (os : Os) : World :=
  let w0 := World.holding Tryz.prog os ⟨#[errBlock Rows.laid_bytes_ErrTooLarge, errBlock Rows.laid_strconv_ErrRange, errBlock Rows.laid_strconv_ErrSyntax], #[], []⟩
  { w0 with heap := putCells (putCells (putCells (putCells (putCells (putCells w0.heap 5 (cellsOfData Rows.laid_math_bits_deBruijn32tab)) 6 (cellsOfData Rows.laid_math_bits_deBruijn64tab))
      4 (cellsOfData Rows.laid_internal_strconv_uint64pow10)) 0 (errCell lowB)) 3 (errCell (lowB + 1))) 2 (errCell (lowB + 2)) }
/-- the six that these rows list -/
def laid6 : List (String × DataW Unit) := [("math/bits.deBruijn32tab", Rows.laid_math_bits_deBruijn32tab), ("math/bits.deBruijn64tab", Rows.laid_math_bits_deBruijn64tab), ("internal/strconv.uint64pow10", Rows.laid_internal_strconv_uint64pow10), ("strconv.ErrRange", Rows.laid_strconv_ErrRange), ("strconv.ErrSyntax", Rows.laid_strconv_ErrSyntax), ("bytes.ErrTooLarge", Rows.laid_bytes_ErrTooLarge)]
theorem env_of {W : World} (h : laidMetH Tryz.prog laid6 W) : EnvB W.heap.size W := by
  have h' : laidMet Tryz.prog laid6 W := h
  obtain ⟨ps, hv, _⟩ := h'
  obtain ⟨q1, hv⟩ := laidVars_tail hv
  obtain ⟨q2, hv⟩ := laidVars_tail hv
  have hp : PowTab W := tabIs_of_vars (rest := [("strconv.ErrRange", Rows.laid_strconv_ErrRange), ("strconv.ErrSyntax", Rows.laid_strconv_ErrSyntax), ("bytes.ErrTooLarge", Rows.laid_bytes_ErrTooLarge)]) gPow (t := 176) (by kernel_rfl) Tryz.underlying176 Tryz.underlying99 (by kernel_rfl) (by kernel_rfl) hv
  obtain ⟨q3, hv⟩ := laidVars_tail hv
  have hr := sentinel_of_vars (g := 3) (rest := [("strconv.ErrSyntax", Rows.laid_strconv_ErrSyntax), ("bytes.ErrTooLarge", Rows.laid_bytes_ErrTooLarge)]) (by kernel_rfl) (t := 114) (by kernel_rfl) Tryz.underlying114 hv
  obtain ⟨q4, hv⟩ := laidVars_tail hv
  have hs := sentinel_of_vars (g := 2) (rest := [("bytes.ErrTooLarge", Rows.laid_bytes_ErrTooLarge)]) (by kernel_rfl) (t := 114) (by kernel_rfl) Tryz.underlying114 hv
  exact ⟨PowB.of hp, hs, hr⟩
theorem laid_met (os : Os) (args : Array Value) : laidMet Tryz.prog laid6 ((laidWorld os).forCall (fun _ _ => 0) ⟨#[], args, []⟩).memory :=
  laidMet_of_run3 8 (by kernel_rfl) (by kernel_rfl) (by kernel_rfl)
section
variable {H : Type} {enc : TypeId × Value → H} {W : World} {base b0 : Nat} {sp : Nat → Bool} {held : Bool} {m : Nat} {r : Reach} {v : Value} {d : DataW H} {p : List MemPlace}
set_option maxRecDepth 100000 in
/-- the cell of a []byte -/
theorem bytesCells_of {v0 : Value} {y : DataW H × List MemPlace} (h : DataW.trod enc Tryz.prog W base sp held m 22 [v0] = some y) :
    ∃ xs : List UInt8, SlK anyB W v0 xs.length (b8 xs) := by
  rcases open_ints Tryz.underlying22 Tryz.underlying5 (by kernel_rfl) h with ⟨e, -⟩ | ⟨a, len, cap, zs, e, hb, hl, hm, hz, ey, hc, hw⟩
  · obtain rfl : v0 = .slice none 0 0 := by simpa using e
    exact ⟨[], none, 0, rfl, by simp, by simp [maxLen], fun _ => rfl, Row.zero, fun _ _ _ _ => trivial⟩
  · obtain rfl : v0 = .slice (some a) len cap := by simpa using e
    have hlz : len ≤ zs.length := by rw [hz]; split <;> omega
    have hwf : ∀ x ∈ zs, 0 ≤ x ∧ x < 256 := fun x hx => by
      have h1 : IntKind.u8.min = 0 := rfl
      have h2 : IntKind.u8.max = 255 := rfl
      have := hw x hx
      simp only [Lit.wf, Bool.and_eq_true, decide_eq_true_eq] at this
      omega
    have hlen : ((zs.take len).map fun z => UInt8.ofNat z.toNat).length = len := by simp; omega
    refine ⟨(zs.take len).map fun z => UInt8.ofNat z.toNat, some a, cap, by rw [hlen], by rw [hlen]; omega, hm, by simp, ?_, fun _ _ _ _ => trivial⟩
    rw [hlen]
    intro hp
    have c0 := hc 0 (by omega)
    have hs : a.spot = none := by
      have := World.cell?_spot c0
      simpa [Addr.add] using this
    obtain ⟨bk, off, spot⟩ := a
    obtain rfl : spot = none := hs
    refine ⟨bk, off, rfl, ?_, fun j hj => ?_⟩
    · rcases Nat.lt_or_ge bk W.heap.size with h | h
      · exact h
      · simp [World.cell?, Addr.add, Array.getElem?_eq_none h] at c0
    · have := hc j (by omega)
      rw [add_plain] at this
      rw [this]
      have hmem : zs.getD j 0 ∈ zs := by
        have : zs.getD j 0 = zs[j]'(by omega) := by simp [List.getD, show j < zs.length by omega]
        rw [this]
        exact List.getElem_mem _
      have h0 := hwf _ hmem
      have e : ((zs.take len).map fun z => UInt8.ofNat z.toNat).getD j 0 = UInt8.ofNat (zs.getD j 0).toNat := by
        simp [List.getD, hj, show j < zs.length by omega]
      rw [b8, e, UInt8.toNat_ofNat']
      congr 2
      omega
set_option maxRecDepth 100000 in
theorem bytesArg_of (hv : Value.okWide Tryz.prog W r b0 22 v) (h : DataW.Trod enc Tryz.prog W base sp held 22 v d p) : ∃ xs : List UInt8, SlK anyB W v xs.length (b8 xs) := by
  obtain ⟨A, len, cap, rfl⟩ := okWide_slice Tryz.underlying22 hv
  obtain ⟨fuel, hf⟩ := h
  exact bytesCells_of (y := (d, p)) (by simpa [Value.cells] using hf)
end
end Go.Proofs.YtomjnjpehokjbaaGreatDoor
