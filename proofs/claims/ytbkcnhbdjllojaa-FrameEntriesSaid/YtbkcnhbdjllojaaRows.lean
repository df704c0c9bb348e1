/-
  No cell of these rows narrows 'for every input' (looked for: loops, veiled, ifaces, maps, wideKeys, modest, calm, conditions, laid).
  DERIVED. THE GIVEN ROWS OF THIS SEAT. 9 by the template 'for every input the law returns true; each argument reads behind the call as it read before'; 0 by the template 'total and deterministic' (their statements: YtbkcnhbdjllojaaTotals.lean).
  GIVEN WITH THE SEED: the statements are not yours to turn. If you find one false, say at which input.
  Laid BY PROGRAM, IN A SANDBOX (cutbox-rows.mjs): the forced cells as the released guide's own fill.sh prints them over the translation 82e59986c56a0d7c… (all of the seat's roots in one cut). By AI agents, Wed Nov 11 2026. No macro, syntax, notation, axiom, sorry.
-/
import Derived.Test.YtbkcnhbdjllojaaChecked
import GoSem.Claim
import GoSem.ClaimJoined
import GoSem.ClaimMapViews
import Derived.JoinedTies
import Derived.KernelRfl
namespace Go.Proofs.Ytbkcnhbdjllojaa
/- THE CELL 'sum', in the pinned program and in every row, IS THE sha256 OF THE DUMP (.gsa) THAT YtbkcnhbdjllojaaProg.lean LOADS. Nothing in Lean hashes anything: it is a label: what it is worth is what the hold of that sum in a sandbox is worth. -/
noncomputable def Try.pinned : Pinned := { name := "ytbkcnhbdjllojaa", sum := "82e59986c56a0d7c194f5bc3286a9313e236cdce45dcfd853e4f1ac04ce03eae", checked := Try.checked }
namespace Rows
def none {H : Type} : Left H := { results := [], args := [] }

/-- 'fiduciallaw15.FrameChecks': WHATEVER THE INPUT: true; the input reads as it did. -/
def frameChecksSpec : ChangeSpec := { name := "frameChecks", fn := fun _ => fun
  | [d] => { results := [.lit (.bool true)], args := [d] }
  | _ => none }
def frameChecksRow : OpenClaim := { program := "ytbkcnhbdjllojaa", sum := "82e59986c56a0d7c194f5bc3286a9313e236cdce45dcfd853e4f1ac04ce03eae", func := "fiducial/fiduciallaw15.FrameChecks", spec := "frameChecks", inPlace := ["internal/bytealg.IndexByte", "internal/bytealg.Index", "internal/bytealg.IndexByteString", "internal/bytealg.IndexString"], unfollowed := true, recurses := true, named := ["internal/bytealg.MaxLen"], apart := false }
def FrameChecksSaid : Prop := frameChecksRow.holds Try.pinned (OpenSpec.ofChange frameChecksSpec)

/-- ITS FALSE NEIGHBOUR: 'it returns false'. Refute it at one input. -/
def frameChecksWrong : ChangeSpec := { name := "frameChecks", fn := fun _ => fun
  | [d] => { results := [.lit (.bool false)], args := [d] }
  | _ => none }
def FrameChecksWrongFalsely : Prop := frameChecksRow.holds Try.pinned (OpenSpec.ofChange frameChecksWrong)

/-- 'fiduciallaw15.FrameEncodes': WHATEVER THE INPUT: true; the input reads as it did. -/
def frameEncodesSpec : ChangeSpec := { name := "frameEncodes", fn := fun _ => fun
  | [d] => { results := [.lit (.bool true)], args := [d] }
  | _ => none }
def frameEncodesRow : OpenClaim := { program := "ytbkcnhbdjllojaa", sum := "82e59986c56a0d7c194f5bc3286a9313e236cdce45dcfd853e4f1ac04ce03eae", func := "fiducial/fiduciallaw15.FrameEncodes", spec := "frameEncodes", inPlace := ["internal/bytealg.IndexByte", "internal/bytealg.Index", "internal/bytealg.IndexByteString", "internal/bytealg.IndexString"], unfollowed := true, recurses := true, named := ["internal/bytealg.MaxLen"], apart := false }
def FrameEncodesSaid : Prop := frameEncodesRow.holds Try.pinned (OpenSpec.ofChange frameEncodesSpec)

/-- ITS FALSE NEIGHBOUR: 'it returns false'. Refute it at one input. -/
def frameEncodesWrong : ChangeSpec := { name := "frameEncodes", fn := fun _ => fun
  | [d] => { results := [.lit (.bool false)], args := [d] }
  | _ => none }
def FrameEncodesWrongFalsely : Prop := frameEncodesRow.holds Try.pinned (OpenSpec.ofChange frameEncodesWrong)

/-- 'fiduciallaw15.FrameReturns': WHATEVER THE INPUT: true; the input reads as it did. -/
def frameReturnsSpec : ChangeSpec := { name := "frameReturns", fn := fun _ => fun
  | [d] => { results := [.lit (.bool true)], args := [d] }
  | _ => none }
def frameReturnsRow : OpenClaim := { program := "ytbkcnhbdjllojaa", sum := "82e59986c56a0d7c194f5bc3286a9313e236cdce45dcfd853e4f1ac04ce03eae", func := "fiducial/fiduciallaw15.FrameReturns", spec := "frameReturns", inPlace := ["internal/bytealg.IndexByte", "internal/bytealg.Index", "internal/bytealg.IndexByteString", "internal/bytealg.IndexString"], unfollowed := true, recurses := true, named := ["internal/bytealg.MaxLen"], apart := false }
def FrameReturnsSaid : Prop := frameReturnsRow.holds Try.pinned (OpenSpec.ofChange frameReturnsSpec)

/-- ITS FALSE NEIGHBOUR: 'it returns false'. Refute it at one input. -/
def frameReturnsWrong : ChangeSpec := { name := "frameReturns", fn := fun _ => fun
  | [d] => { results := [.lit (.bool false)], args := [d] }
  | _ => none }
def FrameReturnsWrongFalsely : Prop := frameReturnsRow.holds Try.pinned (OpenSpec.ofChange frameReturnsWrong)

/-- 'fiduciallaw15.FrameDecodes': WHATEVER THE INPUT: true; the input reads as it did. -/
def frameDecodesSpec : ChangeSpec := { name := "frameDecodes", fn := fun _ => fun
  | [d] => { results := [.lit (.bool true)], args := [d] }
  | _ => none }
def frameDecodesRow : OpenClaim := { program := "ytbkcnhbdjllojaa", sum := "82e59986c56a0d7c194f5bc3286a9313e236cdce45dcfd853e4f1ac04ce03eae", func := "fiducial/fiduciallaw15.FrameDecodes", spec := "frameDecodes", inPlace := ["internal/bytealg.IndexByte", "internal/bytealg.Index", "internal/bytealg.IndexByteString", "internal/bytealg.IndexString"], unfollowed := true, recurses := true, named := ["internal/bytealg.MaxLen"], apart := false }
def FrameDecodesSaid : Prop := frameDecodesRow.holds Try.pinned (OpenSpec.ofChange frameDecodesSpec)

/-- ITS FALSE NEIGHBOUR: 'it returns false'. Refute it at one input. -/
def frameDecodesWrong : ChangeSpec := { name := "frameDecodes", fn := fun _ => fun
  | [d] => { results := [.lit (.bool false)], args := [d] }
  | _ => none }
def FrameDecodesWrongFalsely : Prop := frameDecodesRow.holds Try.pinned (OpenSpec.ofChange frameDecodesWrong)

/-- 'fiduciallaw15.FrameResiduals': WHATEVER THE INPUT: true; the input reads as it did. -/
def frameResidualsSpec : ChangeSpec := { name := "frameResiduals", fn := fun _ => fun
  | [d] => { results := [.lit (.bool true)], args := [d] }
  | _ => none }
def frameResidualsRow : OpenClaim := { program := "ytbkcnhbdjllojaa", sum := "82e59986c56a0d7c194f5bc3286a9313e236cdce45dcfd853e4f1ac04ce03eae", func := "fiducial/fiduciallaw15.FrameResiduals", spec := "frameResiduals", inPlace := ["internal/bytealg.IndexByte", "internal/bytealg.Index", "internal/bytealg.IndexByteString", "internal/bytealg.IndexString"], unfollowed := true, recurses := true, named := ["internal/bytealg.MaxLen"], apart := false }
def FrameResidualsSaid : Prop := frameResidualsRow.holds Try.pinned (OpenSpec.ofChange frameResidualsSpec)

/-- ITS FALSE NEIGHBOUR: 'it returns false'. Refute it at one input. -/
def frameResidualsWrong : ChangeSpec := { name := "frameResiduals", fn := fun _ => fun
  | [d] => { results := [.lit (.bool false)], args := [d] }
  | _ => none }
def FrameResidualsWrongFalsely : Prop := frameResidualsRow.holds Try.pinned (OpenSpec.ofChange frameResidualsWrong)

/-- 'fiduciallaw15.FrameRestores': WHATEVER THE INPUT: true; the input reads as it did. -/
def frameRestoresSpec : ChangeSpec := { name := "frameRestores", fn := fun _ => fun
  | [d1, d2, d3] => { results := [.lit (.bool true)], args := [d1, d2, d3] }
  | _ => none }
def frameRestoresRow : OpenClaim := { program := "ytbkcnhbdjllojaa", sum := "82e59986c56a0d7c194f5bc3286a9313e236cdce45dcfd853e4f1ac04ce03eae", func := "fiducial/fiduciallaw15.FrameRestores", spec := "frameRestores", inPlace := ["internal/bytealg.IndexByte", "internal/bytealg.Index", "internal/bytealg.IndexByteString", "internal/bytealg.IndexString"], unfollowed := true, recurses := true, named := ["internal/bytealg.MaxLen"], apart := false }
def FrameRestoresSaid : Prop := frameRestoresRow.holds Try.pinned (OpenSpec.ofChange frameRestoresSpec)

/-- ITS FALSE NEIGHBOUR: 'it returns false'. Refute it at one input. -/
def frameRestoresWrong : ChangeSpec := { name := "frameRestores", fn := fun _ => fun
  | [d1, d2, d3] => { results := [.lit (.bool false)], args := [d1, d2, d3] }
  | _ => none }
def FrameRestoresWrongFalsely : Prop := frameRestoresRow.holds Try.pinned (OpenSpec.ofChange frameRestoresWrong)

/-- 'fiduciallaw15.FrameSizes': WHATEVER THE INPUT: true; the input reads as it did. -/
def frameSizesSpec : ChangeSpec := { name := "frameSizes", fn := fun _ => fun
  | [d1, d2] => { results := [.lit (.bool true)], args := [d1, d2] }
  | _ => none }
def frameSizesRow : OpenClaim := { program := "ytbkcnhbdjllojaa", sum := "82e59986c56a0d7c194f5bc3286a9313e236cdce45dcfd853e4f1ac04ce03eae", func := "fiducial/fiduciallaw15.FrameSizes", spec := "frameSizes", inPlace := ["internal/bytealg.IndexByte", "internal/bytealg.Index", "internal/bytealg.IndexByteString", "internal/bytealg.IndexString"], unfollowed := true, recurses := true, named := ["internal/bytealg.MaxLen"], apart := false }
def FrameSizesSaid : Prop := frameSizesRow.holds Try.pinned (OpenSpec.ofChange frameSizesSpec)

/-- ITS FALSE NEIGHBOUR: 'it returns false'. Refute it at one input. -/
def frameSizesWrong : ChangeSpec := { name := "frameSizes", fn := fun _ => fun
  | [d1, d2] => { results := [.lit (.bool false)], args := [d1, d2] }
  | _ => none }
def FrameSizesWrongFalsely : Prop := frameSizesRow.holds Try.pinned (OpenSpec.ofChange frameSizesWrong)

/-- 'fiduciallaw15.FrameBits': WHATEVER THE INPUT: true; the input reads as it did. -/
def frameBitsSpec : ChangeSpec := { name := "frameBits", fn := fun _ => fun
  | [d1, d2] => { results := [.lit (.bool true)], args := [d1, d2] }
  | _ => none }
def frameBitsRow : OpenClaim := { program := "ytbkcnhbdjllojaa", sum := "82e59986c56a0d7c194f5bc3286a9313e236cdce45dcfd853e4f1ac04ce03eae", func := "fiducial/fiduciallaw15.FrameBits", spec := "frameBits", inPlace := ["internal/bytealg.IndexByte", "internal/bytealg.Index", "internal/bytealg.IndexByteString", "internal/bytealg.IndexString"], unfollowed := true, recurses := true, named := ["internal/bytealg.MaxLen"], apart := false }
def FrameBitsSaid : Prop := frameBitsRow.holds Try.pinned (OpenSpec.ofChange frameBitsSpec)

/-- ITS FALSE NEIGHBOUR: 'it returns false'. Refute it at one input. -/
def frameBitsWrong : ChangeSpec := { name := "frameBits", fn := fun _ => fun
  | [d1, d2] => { results := [.lit (.bool false)], args := [d1, d2] }
  | _ => none }
def FrameBitsWrongFalsely : Prop := frameBitsRow.holds Try.pinned (OpenSpec.ofChange frameBitsWrong)

/-- 'fiduciallaw15.FrameEntries': WHATEVER THE INPUT: true; the input reads as it did. -/
def frameEntriesSpec : ChangeSpec := { name := "frameEntries", fn := fun _ => fun
  | [d1, d2, d3] => { results := [.lit (.bool true)], args := [d1, d2, d3] }
  | _ => none }
def frameEntriesRow : OpenClaim := { program := "ytbkcnhbdjllojaa", sum := "82e59986c56a0d7c194f5bc3286a9313e236cdce45dcfd853e4f1ac04ce03eae", func := "fiducial/fiduciallaw15.FrameEntries", spec := "frameEntries", inPlace := ["internal/bytealg.IndexByte", "internal/bytealg.Index", "internal/bytealg.IndexByteString", "internal/bytealg.IndexString", "internal/bytealg.abigen_runtime_cmpstring", "slices.overlaps[fiducial/api.Entry]"], unfollowed := true, recurses := true, named := ["internal/bytealg.MaxLen"], apart := false }
def FrameEntriesSaid : Prop := frameEntriesRow.holds Try.pinned (OpenSpec.ofChange frameEntriesSpec)

/-- ITS FALSE NEIGHBOUR: 'it returns false'. Refute it at one input. -/
def frameEntriesWrong : ChangeSpec := { name := "frameEntries", fn := fun _ => fun
  | [d1, d2, d3] => { results := [.lit (.bool false)], args := [d1, d2, d3] }
  | _ => none }
def FrameEntriesWrongFalsely : Prop := frameEntriesRow.holds Try.pinned (OpenSpec.ofChange frameEntriesWrong)

/- THE SECOND FORM. 'bulk': how many values and letters a reading holds, each counted each time it is reached (what is shared counts as often as it is met; a slice's spare places count too). A statement '..UptoSaid' is the law's where the arguments, and the package variables that the reading takes, are together of bulk at most 1048576: NARROWER than '..Said'. Prove '..Said' where nothing that the law and all that it calls make is longer than what came in: it says more and counts as full. Else prove '..UptoSaid'. A law counts once. -/
mutual
def uptoBulk {H : Type} : DataW H → Nat
  | .lit (.string bytes) => bytes.length + 1
  | .lit _ => 1
  | .nil => 1
  | .ptr d => uptoBulk d + 1
  | .slice elems spare => uptoBulkAll elems + uptoBulkAll spare + 1
  | .agg parts => uptoBulkAll parts + 1
  | .iface _ d => uptoBulk d + 1
  | .map entries => uptoBulkEntries entries + 1
  | .held _ => 1
def uptoBulkAll {H : Type} : List (DataW H) → Nat
  | [] => 0
  | d :: r => uptoBulk d + uptoBulkAll r
def uptoBulkEntries {H : Type} : List (Lit × DataW H) → Nat
  | [] => 0
  | x :: r => uptoBulkEntry x + uptoBulkEntries r
def uptoBulkEntry {H : Type} : Lit × DataW H → Nat
  | (.string bytes, d) => bytes.length + uptoBulk d + 1
  | (_, d) => uptoBulk d + 1
 end
def uptoSmall : (H : Type) → List (DataW H) → Bool := fun _ ds => decide (uptoBulkAll ds ≤ 1048576)
def OpenSpec.upto (s : _root_.Go.ChangeSpec) : _root_.Go.OpenSpec := { _root_.Go.OpenSpec.ofChange s with cond := some uptoSmall }

/-- 'fiduciallaw15.FrameChecks', WHERE WHAT IT READS IS OF BULK AT MOST 1048576: true; the input reads as it did. -/
def frameChecksUptoRow : OpenClaim := { program := "ytbkcnhbdjllojaa", sum := "82e59986c56a0d7c194f5bc3286a9313e236cdce45dcfd853e4f1ac04ce03eae", func := "fiducial/fiduciallaw15.FrameChecks", spec := "frameChecks", inPlace := ["internal/bytealg.IndexByte", "internal/bytealg.Index", "internal/bytealg.IndexByteString", "internal/bytealg.IndexString"], unfollowed := true, recurses := true, named := ["internal/bytealg.MaxLen"], apart := false, narrowed := true }
def FrameChecksUptoSaid : Prop := frameChecksUptoRow.holds Try.pinned (OpenSpec.upto frameChecksSpec)

/-- 'fiduciallaw15.FrameEncodes', WHERE WHAT IT READS IS OF BULK AT MOST 1048576: true; the input reads as it did. -/
def frameEncodesUptoRow : OpenClaim := { program := "ytbkcnhbdjllojaa", sum := "82e59986c56a0d7c194f5bc3286a9313e236cdce45dcfd853e4f1ac04ce03eae", func := "fiducial/fiduciallaw15.FrameEncodes", spec := "frameEncodes", inPlace := ["internal/bytealg.IndexByte", "internal/bytealg.Index", "internal/bytealg.IndexByteString", "internal/bytealg.IndexString"], unfollowed := true, recurses := true, named := ["internal/bytealg.MaxLen"], apart := false, narrowed := true }
def FrameEncodesUptoSaid : Prop := frameEncodesUptoRow.holds Try.pinned (OpenSpec.upto frameEncodesSpec)

/-- 'fiduciallaw15.FrameReturns', WHERE WHAT IT READS IS OF BULK AT MOST 1048576: true; the input reads as it did. -/
def frameReturnsUptoRow : OpenClaim := { program := "ytbkcnhbdjllojaa", sum := "82e59986c56a0d7c194f5bc3286a9313e236cdce45dcfd853e4f1ac04ce03eae", func := "fiducial/fiduciallaw15.FrameReturns", spec := "frameReturns", inPlace := ["internal/bytealg.IndexByte", "internal/bytealg.Index", "internal/bytealg.IndexByteString", "internal/bytealg.IndexString"], unfollowed := true, recurses := true, named := ["internal/bytealg.MaxLen"], apart := false, narrowed := true }
def FrameReturnsUptoSaid : Prop := frameReturnsUptoRow.holds Try.pinned (OpenSpec.upto frameReturnsSpec)

/-- 'fiduciallaw15.FrameDecodes', WHERE WHAT IT READS IS OF BULK AT MOST 1048576: true; the input reads as it did. -/
def frameDecodesUptoRow : OpenClaim := { program := "ytbkcnhbdjllojaa", sum := "82e59986c56a0d7c194f5bc3286a9313e236cdce45dcfd853e4f1ac04ce03eae", func := "fiducial/fiduciallaw15.FrameDecodes", spec := "frameDecodes", inPlace := ["internal/bytealg.IndexByte", "internal/bytealg.Index", "internal/bytealg.IndexByteString", "internal/bytealg.IndexString"], unfollowed := true, recurses := true, named := ["internal/bytealg.MaxLen"], apart := false, narrowed := true }
def FrameDecodesUptoSaid : Prop := frameDecodesUptoRow.holds Try.pinned (OpenSpec.upto frameDecodesSpec)

/-- 'fiduciallaw15.FrameResiduals', WHERE WHAT IT READS IS OF BULK AT MOST 1048576: true; the input reads as it did. -/
def frameResidualsUptoRow : OpenClaim := { program := "ytbkcnhbdjllojaa", sum := "82e59986c56a0d7c194f5bc3286a9313e236cdce45dcfd853e4f1ac04ce03eae", func := "fiducial/fiduciallaw15.FrameResiduals", spec := "frameResiduals", inPlace := ["internal/bytealg.IndexByte", "internal/bytealg.Index", "internal/bytealg.IndexByteString", "internal/bytealg.IndexString"], unfollowed := true, recurses := true, named := ["internal/bytealg.MaxLen"], apart := false, narrowed := true }
def FrameResidualsUptoSaid : Prop := frameResidualsUptoRow.holds Try.pinned (OpenSpec.upto frameResidualsSpec)

/-- 'fiduciallaw15.FrameRestores', WHERE WHAT IT READS IS OF BULK AT MOST 1048576: true; the input reads as it did. -/
def frameRestoresUptoRow : OpenClaim := { program := "ytbkcnhbdjllojaa", sum := "82e59986c56a0d7c194f5bc3286a9313e236cdce45dcfd853e4f1ac04ce03eae", func := "fiducial/fiduciallaw15.FrameRestores", spec := "frameRestores", inPlace := ["internal/bytealg.IndexByte", "internal/bytealg.Index", "internal/bytealg.IndexByteString", "internal/bytealg.IndexString"], unfollowed := true, recurses := true, named := ["internal/bytealg.MaxLen"], apart := false, narrowed := true }
def FrameRestoresUptoSaid : Prop := frameRestoresUptoRow.holds Try.pinned (OpenSpec.upto frameRestoresSpec)

/-- 'fiduciallaw15.FrameSizes', WHERE WHAT IT READS IS OF BULK AT MOST 1048576: true; the input reads as it did. -/
def frameSizesUptoRow : OpenClaim := { program := "ytbkcnhbdjllojaa", sum := "82e59986c56a0d7c194f5bc3286a9313e236cdce45dcfd853e4f1ac04ce03eae", func := "fiducial/fiduciallaw15.FrameSizes", spec := "frameSizes", inPlace := ["internal/bytealg.IndexByte", "internal/bytealg.Index", "internal/bytealg.IndexByteString", "internal/bytealg.IndexString"], unfollowed := true, recurses := true, named := ["internal/bytealg.MaxLen"], apart := false, narrowed := true }
def FrameSizesUptoSaid : Prop := frameSizesUptoRow.holds Try.pinned (OpenSpec.upto frameSizesSpec)

/-- 'fiduciallaw15.FrameBits', WHERE WHAT IT READS IS OF BULK AT MOST 1048576: true; the input reads as it did. -/
def frameBitsUptoRow : OpenClaim := { program := "ytbkcnhbdjllojaa", sum := "82e59986c56a0d7c194f5bc3286a9313e236cdce45dcfd853e4f1ac04ce03eae", func := "fiducial/fiduciallaw15.FrameBits", spec := "frameBits", inPlace := ["internal/bytealg.IndexByte", "internal/bytealg.Index", "internal/bytealg.IndexByteString", "internal/bytealg.IndexString"], unfollowed := true, recurses := true, named := ["internal/bytealg.MaxLen"], apart := false, narrowed := true }
def FrameBitsUptoSaid : Prop := frameBitsUptoRow.holds Try.pinned (OpenSpec.upto frameBitsSpec)

/-- 'fiduciallaw15.FrameEntries', WHERE WHAT IT READS IS OF BULK AT MOST 1048576: true; the input reads as it did. -/
def frameEntriesUptoRow : OpenClaim := { program := "ytbkcnhbdjllojaa", sum := "82e59986c56a0d7c194f5bc3286a9313e236cdce45dcfd853e4f1ac04ce03eae", func := "fiducial/fiduciallaw15.FrameEntries", spec := "frameEntries", inPlace := ["internal/bytealg.IndexByte", "internal/bytealg.Index", "internal/bytealg.IndexByteString", "internal/bytealg.IndexString", "internal/bytealg.abigen_runtime_cmpstring", "slices.overlaps[fiducial/api.Entry]"], unfollowed := true, recurses := true, named := ["internal/bytealg.MaxLen"], apart := false, narrowed := true }
def FrameEntriesUptoSaid : Prop := frameEntriesUptoRow.holds Try.pinned (OpenSpec.upto frameEntriesSpec)

end Rows
end Go.Proofs.Ytbkcnhbdjllojaa
