/- A world for the witness: the settled one, the listed variables holding what the program's text lays. And the powers of ten, off the row's list. -/
import Derived.Test.YthgbgoidnnfapaaDoorClose
import Derived.Test.YthgbgoidnnfapaaDoorCards
import Derived.Test.YthgbgoidnnfapaaDoorTie
import Derived.ProofKit
import Derived.OpenShut
import Derived.Deep.DeepHandedRow
import Derived.Deep.DeepWitnessRowRef
import Derived.Deep.DeepLaidRun
import Derived.Lib.LaidTab
namespace Go.Proofs.YthgbgoidnnfapaaDoor
open Go.RowKit Go.WideShapes Go.ChangeShapes Go.ChangeAt

theorem ownP : ownKnob Tryd.prog.godebug = none := by kernel_rfl
theorem gPow : Tryd.prog.globalNamed "internal/strconv.uint64pow10" = some 3 := by kernel_rfl

theorem tabIs_of_vars {P : Program} {W : World} {name : String} {k : IntKind} {zs : List Int} {rest : List (String × DataW Unit)} {g : Nat} {t e : TypeId} {n : Nat} {ps : List MemPlace}
    (hg : P.globalNamed name = some g) (hty : (P.globals[g]?).map (·.type) = some t) (ht : P.underlying t = some (.array n e)) (he : P.underlying e = some (.int k)) (hce : P.cellsOf e = 1) (hct : P.cellsOf t = n)
    (h : DataW.LaidVars P W ((name, Lib.tabData k zs) :: rest) ps) : Lib.TabIs P W name k zs := by
  obtain ⟨g', t', cs, fuel, p, q, hg', ht', hvar, hd, _, _⟩ := h
  obtain rfl := Option.some.inj (hg.symm.trans hg')
  obtain rfl := Option.some.inj (hty.symm.trans ht')
  unfold Lib.TabIs
  rw [hvar, ← Lib.cells_of_tab ht he hce hct hd]
theorem laidVars_tail {P : Program} {W : World} {x : String × DataW Unit} {rest : List (String × DataW Unit)} {ps : List MemPlace} (h : DataW.LaidVars P W (x :: rest) ps) : ∃ q, DataW.LaidVars P W rest q := by
  obtain ⟨g', t', cs, fuel, p, q, hg', ht', hvar, hd, hr, _⟩ := h
  exact ⟨_, hr⟩

/-- the cells of a listed table -/
def cellsOfData : DataW Unit → Array Value
  | .agg l => (l.map fun d => match d with | .lit (.int k n) => Value.int k n | _ => undef).toArray
  | _ => #[]
def strOfData : DataW Unit → ByteArray
  | .iface _ (.ptr (.agg [.lit (.string bs)])) => ⟨bs.toArray⟩
  | _ => ⟨#[]⟩
noncomputable def lowB : Nat := (World.holding Tryd.prog default ⟨#[], #[], []⟩).heap.size
def putCells (h : Array Obj) (g : Nat) (cs : Array Value) : Array Obj := h.modify g fun
  | .cells _ t frozen => .cells cs t frozen
  | o => o
noncomputable def laidWorld (os : Os) : World :=
  let w0 := World.holding Tryd.prog os ⟨#[.cells #[.string (strOfData Rows.laid_bytes_ErrTooLarge)] 133], #[], []⟩
  { w0 with heap := putCells (putCells (putCells (putCells w0.heap 4 (cellsOfData Rows.laid_math_bits_deBruijn32tab)) 5 (cellsOfData Rows.laid_math_bits_deBruijn64tab))
      3 (cellsOfData Rows.laid_internal_strconv_uint64pow10)) 0 #[.iface 131 (.pointer (some ⟨lowB, 0, none⟩))] }
/-- the four that these rows list -/
def laid4 : List (String × DataW Unit) := Rows.integerRingRow.laid
theorem powTab_of {W : World} (h : laidMetH Tryd.prog laid4 W) : PowTab W := by
  have h' : laidMet Tryd.prog laid4 W := h
  obtain ⟨ps, hv, _⟩ := h'
  obtain ⟨q1, hv⟩ := laidVars_tail hv
  obtain ⟨q2, hv⟩ := laidVars_tail hv
  exact tabIs_of_vars (rest := [("bytes.ErrTooLarge", Rows.laid_bytes_ErrTooLarge)]) gPow (t := 125) (by kernel_rfl) Tryd.underlying125 Tryd.underlying50 (by kernel_rfl) (by kernel_rfl) hv
theorem laid_met (os : Os) (args : Array Value) : laidMet Tryd.prog laid4 ((laidWorld os).forCall (fun _ _ => 0) ⟨#[], args, []⟩).memory :=
  laidMet_of_run3 8 (by kernel_rfl) (by kernel_rfl) (by kernel_rfl)
end Go.Proofs.YthgbgoidnnfapaaDoor
