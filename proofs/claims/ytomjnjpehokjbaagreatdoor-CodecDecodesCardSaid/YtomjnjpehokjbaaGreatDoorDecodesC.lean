/- THE CARD OF CodecDecodes. -/
import Derived.Test.YtomjnjpehokjbaaGreatDoorLawDcs
import Derived.Test.YtomjnjpehokjbaaGreatDoorCClose
namespace Go.Proofs.YtomjnjpehokjbaaGreatDoor
open Go.RowKit Go.WideShapes Go.ChangeShapes Go.ChangeAt
namespace DecodesC

set_option maxRecDepth 100000 in
theorem contract (H : Type) (enc : TypeId × Value → H) (W : World) (base : Nat) (args : Array Value) (ds gs : List (DataW H)) (before : List MemPlace)
    (hval : ∀ (j : Nat) t v, Tryz.f3.params[j]? = some t → args[j]? = some v → Value.okWide Tryz.prog W .any base t v)
    (hW : DataW.Whole enc Tryz.prog Tryz.f3.params.toList Rows.codecDecodesSpec.vars false W args.toList ds gs before) (hL : laidMetH Tryz.prog laid6 W)
    (_ : (DataW.weightsEach Tryz.prog (Tryz.f3.params.toList ++ (OpenSpec.ofChange Rows.codecDecodesSpec).bare.plain.varTypes Tryz.prog) (ds ++ gs)).all (· ≤ reachBytes) = true) :
    Calls Tryz.prog 3 args W fun e W' => ∃ v, e = .returned v ∧ Rows.codecDecodesSpec.post enc Tryz.prog Tryz.f3 false true false false W args v W' := by
  have hW' := hW
  obtain ⟨p, q, hA0, hV, rfl, hfz, hnd⟩ := hW
  have hA : DataW.TrodAll enc Tryz.prog W 0 (fun _ => true) true Tryz.f3.params.toList args.toList ds p := hA0
  rw [Tryz.params3] at hA hval
  have hA1 := hA
  obtain ⟨v0, vs0, d0, ds0, p0, q0, hargs, rfl, rfl, h0, r0⟩ := trodAll_cons hA
  obtain ⟨rfl, rfl, rfl⟩ := trodAll_nil r0
  obtain rfl : args = #[v0] := by cases args; simp_all
  obtain ⟨rfl, rfl⟩ := trodVars_none hV
  obtain ⟨xs0, k0⟩ := bytesArg_of (hval 0 22 v0 rfl rfl) h0
  obtain ⟨A0, c0, rfl, la0, lb0, -⟩ := id k0
  have l0 : xs0.length ≤ 9223372036854775807 := by unfold maxLen at lb0; omega
  have he := env_of hL
  refine (codecDecodes_any k0 l0 he).mono fun e W' ⟨he, hk⟩ => ?_
  subst he
  have hlt : ∀ x ∈ p0 ++ [], x.block < W.heap.size := fun x hx => hW'.lt x (List.mem_append_left _ hx)
  refine ⟨_, rfl, post_of_below (pa := p0 ++ []) (pv := []) hW' (fun _ _ _ => trodAll_cons_mk (shut_bool Tryz.underlying4 _) trodAll_mk0) (fun sp hsp => ?_) (fun _ _ => rfl) rfl hk (ok_one (by kernel_rfl) rfl (okWide_bool_mk Tryz.underlying4 _))⟩
  refine trodAll_stays laidOutP hk _ _ _ _ ?_ hA1 hlt (fun x hx => hsp x (List.mem_append_left _ hx))
  intro t ht'
  have ht' : t = 22 := by simpa using ht'
  subst ht'
  exact ⟨by kernel_rfl, of_decide_eq_true (by kernel_rfl)⟩

def wArgs : Array Value := #[.slice none 0 0]
def wData {H : Type} : List (DataW H) := [.nil]
theorem reads (os : Os) {H : Type} (enc : TypeId × Value → H) : ∃ places, DataW.whole enc Tryz.prog ((laidWorld os).forCall (fun _ _ => 0) ⟨#[], wArgs, []⟩).memory Tryz.f3.params.toList Rows.codecDecodesSpec.vars false wArgs.toList 8 = some (wData, [], places) :=
  ⟨[], by kernel_rfl⟩

set_option maxRecDepth 100000 in
theorem lifted (os : Os) (started : os.Started) (H : Type) (enc : TypeId × Value → H) (F : Stop.Interp) :
    ReturnsInHanded {} Tryz.checked os 3 .any ((OpenSpec.ofChange Rows.codecDecodesSpec).preRow enc Tryz.prog Tryz.f3 Rows.codecDecodesRow.domain false Rows.codecDecodesRow.laid) (((OpenSpec.ofChange Rows.codecDecodesSpec).at F).post enc Tryz.prog Tryz.f3 false true false false) := by
  obtain ⟨places, hx⟩ := reads os enc
  refine returnsInHanded_of_row (C := Tryz.checked) (s := OpenSpec.ofChange Rows.codecDecodesSpec) ownP started (by kernel_rfl) Tryz.func3
    (witness_row_atRef (enc := enc) (C := Tryz.checked) false (laidWorld os) wArgs rfl (by kernel_rfl) (by kernel_rfl) (by kernel_rfl)
      (OpenSpec.preRow_of_cond 8 hx (by kernel_rfl) (fun k hk => by cases hk) (by kernel_rfl) (laid_met os _))) ?_
  intro W base args ds gs before hval hW _ _ hz hL _ _
  exact contract H enc W base args ds gs before hval hW hL hz

theorem closed : joinedFacts Tryz.pinned.checked.prog 3 Tryz.f3 (OpenSpec.ofChange Rows.codecDecodesSpec).bare Rows.codecDecodesRow = true := by kernel_rfl
theorem inst : Tryz.f3.isInstance Tryz.pinned.checked.prog Rows.codecDecodesRow.origin Rows.codecDecodesRow.targs := of_decide_eq_true (by kernel_rfl)
theorem wrap : Tryz.f3.isWrapper Tryz.pinned.checked.prog Rows.codecDecodesRow.wrapper Rows.codecDecodesRow.mainSum := by
  unfold Func.isWrapper
  first
    | (rw [if_pos (by decide +kernel)]; kernel_rfl)
    | (rw [if_neg (by decide +kernel)]; exact ⟨rfl, rfl⟩)
theorem said : Rows.CodecDecodesSaid :=
  OpenClaim.holds_of_cond 3 Tryz.f3 rfl rfl rfl rfl rfl rfl rfl ⟨rfl, rfl, rfl, rfl, rfl⟩ rfl rfl rfl rfl rfl (by kernel_rfl) Tryz.func3 closed inst wrap
    (fun os started H enc _ F => by rw [OpenClaim.pre_eq_preRow]; exact lifted os started H enc F)

theorem plain (f : FuncId) (fn : Func) (hf : Tryz.pinned.checked.prog.funcNamed "fiducial/fiduciallaw12.CodecDecodes" = some f) (hfn : Tryz.pinned.checked.prog.funcs[f]? = some fn) :
    true = Tryz.pinned.checked.prog.looks [] ∧ ∀ (j : Nat) t, fn.params[j]? = some t → Tryz.pinned.checked.prog.wantsStandIn t = false := by
  obtain rfl : f = 3 := Option.some.inj ((show Tryz.prog.funcNamed "fiducial/fiduciallaw12.CodecDecodes" = some 3 by kernel_rfl).symm.trans hf) |>.symm
  obtain rfl : fn = Tryz.f3 := (Option.some.inj (Tryz.func3.symm.trans hfn)).symm
  refine ⟨by kernel_rfl, fun j t ht => ?_⟩
  rw [Tryz.params3] at ht
  have ht' : t = 22 := by simpa using Array.mem_of_getElem? ht
  subst ht'
  exact (show Tryz.prog.wantsStandIn 22 = false by kernel_rfl)

theorem card : Rows.CodecDecodesCardSaid :=
  Claim7.holds_tied_plain_at .later [] _ _ _ _ said (fun _ h => by cases h) (by kernel_rfl) (fun _ h => by cases h) codecDecodes_row_tie rfl ⟨rfl, rfl⟩ (by kernel_rfl) rfl plain (by kernel_rfl)
end DecodesC
end Go.Proofs.YtomjnjpehokjbaaGreatDoor
