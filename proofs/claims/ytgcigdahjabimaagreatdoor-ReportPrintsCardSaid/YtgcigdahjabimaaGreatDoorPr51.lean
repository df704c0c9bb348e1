/- fiduciallaw58.none of an empty summary: the walk. At a row's first world the variable that strings.Cut reads holds an int. The witness's world where the sentinels of strconv are listed too. -/
import Derived.Test.YtgcigdahjabimaaGreatDoorPr44
import Derived.Test.YtgcigdahjabimaaGreatDoorPr27
import Derived.Test.YtgcigdahjabimaaGreatDoorPr40
import Derived.Shelf.Vars
import Derived.Test.YtgcigdahjabimaaGreatDoorPr50
import Derived.Test.YtgcigdahjabimaaGreatDoorPr28
namespace Go.Proofs.YtgcigdahjabimaaGreatDoor
open Go.RowKit Go.Shelf
set_option maxRecDepth 100000 in
set_option maxHeartbeats 1000000 in
theorem none_any {w : World} : Calls Tryz.prog 35 #[zeroSm] w fun e w' => e = .returned (.bool true) ∧ Keeps w w' := by
 have S := (St.start w).alloc 49 (smY (hdF [] 0) rz0 rz0 (.slice none 0 0) (.slice none 0 0) 0)
 have x0 := S.c 0 0 rfl rfl
 have x1 := S.c 0 1 rfl rfl
 have x2 := S.c 0 2 rfl rfl
 have x3 := S.c 0 3 rfl rfl
 have x4 := S.c 0 4 rfl rfl
 have x5 := S.c 0 5 rfl rfl
 have x6 := S.c 0 6 rfl rfl
 have x7 := S.c 0 7 rfl rfl
 have x8 := S.c 0 8 rfl rfl
 have x9 := S.c 0 9 rfl rfl
 have x10 := S.c 0 10 rfl rfl
 have x11 := S.c 0 11 rfl rfl
 have x12 := S.c 0 12 rfl rfl
 have x13 := S.c 0 13 rfl rfl
 have x14 := S.c 0 14 rfl rfl
 have x15 := S.c 0 15 rfl rfl
 have x16 := S.c 0 16 rfl rfl
 have e0 : ∀ j, hdF [] 0 j = 0 := fun j => rfl
 simp only [e0] at x0 x1 x2 x3 x4 x5
 go_enter Tryz.func35, Tryz.ntmps35
 go_wp2_with fail
 refine gzero_s.mono ?_
 rintro e W1 ⟨rfl, hk1⟩
 replace S := S.below hk1
 clear hk1 x0 x1 x2 x3 x4 x5 x6 x7 x8 x9 x10 x11 x12 x13 x14 x15 x16
 have x10 := S.c 0 10 rfl rfl
 have x11 := S.c 0 11 rfl rfl
 have x12 := S.c 0 12 rfl rfl
 have x13 := S.c 0 13 rfl rfl
 go_wp2_with fail
 refine gzero_s.mono ?_
 rintro e W2 ⟨rfl, hk1⟩
 replace S := S.below hk1
 go_wp2
 go_ret
 exact ⟨rfl, S.k⟩
end Go.Proofs.YtgcigdahjabimaaGreatDoor
namespace Go.Proofs.YtgcigdahjabimaaGreatDoor
open Go.RowKit

theorem cutOk_of {W : World} (h : W.ShapedOpen Tryz.prog) : CutOk W :=
 Go.Proofs.cell_of_shapedOpen_int (g := 0) (zero := #[.int .i64 0]) (t := 3) h (of_decide_eq_true (by kernel_rfl)) (by kernel_rfl) rfl (by kernel_rfl) (by kernel_rfl) Tryz.underlying3
end Go.Proofs.YtgcigdahjabimaaGreatDoor
namespace Go.Proofs.YtgcigdahjabimaaGreatDoor
open Go.RowKit Go.WideShapes Go.ChangeShapes Go.ChangeAt

def errBlock (d : DataW Unit) : Obj := .cells #[.string (strOfData d)] 207
def errCell (b : Nat) : Array Value := #[.iface 205 (.pointer (some ⟨b, 0, none⟩))]
noncomputable def laidWorld6 (os : Os) : World :=
 let w0 := World.holding Tryz.prog os ⟨#[errBlock Rows.laid_bytes_ErrTooLarge, errBlock Rows.laid_strconv_ErrRange, errBlock Rows.laid_strconv_ErrSyntax], #[], []⟩
 { w0 with heap := putCells (putCells (putCells (putCells (putCells (putCells w0.heap 5 (cellsOfData Rows.laid_math_bits_deBruijn32tab)) 6 (cellsOfData Rows.laid_math_bits_deBruijn64tab))
  3 (cellsOfData Rows.laid_internal_strconv_uint64pow10)) 4 (errCell lowB)) 2 (errCell (lowB + 1))) 1 (errCell (lowB + 2)) }
def laid6 : List (String × DataW Unit) := Rows.reportParsesRow.laid
theorem iface_cells {H : Type} {enc : TypeId × Value → H} {P : Program} {W : World} {base fuel : Nat} {sp : Nat → Bool} {t : TypeId} {cs : List Value} {ms : Array (String × TypeId)} {nm : String} {x : DataW H} {p : List MemPlace}
 (hu : P.underlying t = some (.interface ms)) (h : DataW.trod enc P W base sp false fuel t cs = some (.iface nm x, p)) : ∃ u v, cs = [.iface u v] := by
 cases fuel with
 | zero => cases h
 | succ n =>
  simp only [DataW.trod, hu] at h
  split at h <;> first | exact ⟨_, _, rfl⟩ | simp_all
theorem sentinel_of_vars {P : Program} {W : World} {name nm : String} {x : DataW Unit} {rest : List (String × DataW Unit)} {g : Nat} {t : TypeId} {ms : Array (String × TypeId)} {ps : List MemPlace}
 (hg : P.globalNamed name = some g) (hty : (P.globals[g]?).map (·.type) = some t) (ht : P.underlying t = some (.interface ms)) (h : DataW.LaidVars P W ((name, .iface nm x) :: rest) ps) :
 (∃ tp p, W.var? P name = some #[.iface tp p]) ∧ g < W.heap.size := by
 obtain ⟨g', t', cs, fuel, p, q, hg', ht', hvar, hd, _, _⟩ := h
 obtain rfl := Option.some.inj (hg.symm.trans hg')
 obtain rfl := Option.some.inj (hty.symm.trans ht')
 obtain ⟨u, v, hc⟩ := iface_cells ht hd
 obtain rfl : cs = #[.iface u v] := by cases cs; simp_all
 refine ⟨⟨u, v, hvar⟩, ?_⟩
 unfold World.var? at hvar
 rw [hg] at hvar
 simp only [Option.bind_some] at hvar
 rcases Nat.lt_or_ge g W.heap.size with h | h
 ·exact h
 ·rw [Array.getElem?_eq_none h] at hvar
  cases hvar

theorem powTab_of6 {W : World} (h : laidMetH Tryz.prog laid6 W) : PowTab W ∧ EnvE W := by
 have h' : laidMet Tryz.prog laid6 W := h
 obtain ⟨ps, hv, _⟩ := h'
 obtain ⟨q1, hv⟩ := laidVars_tail hv
 obtain ⟨q2, hv⟩ := laidVars_tail hv
 have hp : PowTab W := tabIs_of_vars (rest := [("strconv.ErrRange", Rows.laid_strconv_ErrRange), ("strconv.ErrSyntax", Rows.laid_strconv_ErrSyntax), ("bytes.ErrTooLarge", Rows.laid_bytes_ErrTooLarge)]) gPow (t := 209) (by kernel_rfl) Tryz.underlying209 Tryz.underlying111 (by kernel_rfl) (by kernel_rfl) hv
 obtain ⟨q3, hv⟩ := laidVars_tail hv
 have hr := sentinel_of_vars (g := 2) (rest := [("strconv.ErrSyntax", Rows.laid_strconv_ErrSyntax), ("bytes.ErrTooLarge", Rows.laid_bytes_ErrTooLarge)]) (by kernel_rfl) (t := 94) (by kernel_rfl) Tryz.underlying94 hv
 obtain ⟨q4, hv⟩ := laidVars_tail hv
 have hs := sentinel_of_vars (g := 1) (rest := [("bytes.ErrTooLarge", Rows.laid_bytes_ErrTooLarge)]) (by kernel_rfl) (t := 94) (by kernel_rfl) Tryz.underlying94 hv
 obtain ⟨⟨t1, p1, h1⟩, -⟩ := hs
 obtain ⟨⟨t2, p2, h2⟩, -⟩ := hr
 exact ⟨hp, ⟨t1, p1, by have h0 := World.var?_cell (g := 1) (by kernel_rfl) h1 0; simpa using h0⟩, t2, p2, by have h0 := World.var?_cell (g := 2) (by kernel_rfl) h2 0; simpa using h0⟩
theorem laid_met6 (os : Os) (args : Array Value) : laidMet Tryz.prog laid6 ((laidWorld6 os).forCall (fun _ _ => 0) ⟨#[], args, []⟩).memory :=
 laidMet_of_run3 8 (by kernel_rfl) (by kernel_rfl) (by kernel_rfl)
end Go.Proofs.YtgcigdahjabimaaGreatDoor
