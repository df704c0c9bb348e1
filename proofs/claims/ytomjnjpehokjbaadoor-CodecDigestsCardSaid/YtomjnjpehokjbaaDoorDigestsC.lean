/- THE CARD OF CodecDigests. -/
import Derived.Test.YtomjnjpehokjbaaDoorLawDig
import Derived.Test.YtomjnjpehokjbaaDoorCClose
import Derived.ChangeMaps5
namespace Go.Proofs.YtomjnjpehokjbaaDoor
open Go.RowKit Go.WideShapes Go.ChangeShapes Go.ChangeAt
namespace DigestsC

set_option maxRecDepth 100000 in
theorem contract (H : Type) (enc : TypeId × Value → H) (W : World) (base : Nat) (args : Array Value) (ds gs : List (DataW H)) (before : List MemPlace)
    (hval : ∀ (j : Nat) t v, Tryd.f5.params[j]? = some t → args[j]? = some v → Value.okWide Tryd.prog W .any base t v)
    (hW : DataW.Whole enc Tryd.prog Tryd.f5.params.toList Rows.codecDigestsSpec.vars false W args.toList ds gs before) (hL : laidMetH Tryd.prog laid6 W)
    (_ : (DataW.weightsEach Tryd.prog (Tryd.f5.params.toList ++ (OpenSpec.ofChange Rows.codecDigestsSpec).bare.plain.varTypes Tryd.prog) (ds ++ gs)).all (· ≤ reachBytes) = true) :
    Calls Tryd.prog 5 args W fun e W' => ∃ v, e = .returned v ∧ Rows.codecDigestsSpec.post enc Tryd.prog Tryd.f5 false true false false W args v W' := by
  have hW' := hW
  obtain ⟨p, q, hA0, hV, rfl, hfz, hnd⟩ := hW
  have hA : DataW.TrodAll enc Tryd.prog W 0 (fun _ => true) true Tryd.f5.params.toList args.toList ds p := hA0
  rw [Tryd.params5] at hA hval
  have hA1 := hA
  obtain ⟨v0, vs0, d0, ds0, p0, q0, hargs, rfl, rfl, h0, r0⟩ := trodAll_cons hA
  obtain ⟨v1, vs1, d1, ds1, p1, q1, rfl, rfl, rfl, h1, r1⟩ := trodAll_cons r0
  obtain ⟨rfl, rfl, rfl⟩ := trodAll_nil r1
  obtain rfl : args = #[v0, v1] := by cases args; simp_all
  obtain ⟨rfl, rfl⟩ := trodVars_none hV
  obtain ⟨xs0, A0, c0, rfl, la0, lb0, -, i0, -⟩ := bytesArg_of (hval 0 26 v0 rfl rfl) h0
  have l0 : xs0.length ≤ 9223372036854775807 := by unfold maxLen at lb0; omega
  obtain ⟨s1, rfl, -, -, w1⟩ := Go.ChangeMaps.open_string Tryd.underlying9 (hval 1 9 v1 rfl rfl) h1
  replace w1 : s1.size ≤ 9223372036854775807 := by unfold maxLen at w1; exact w1
  have he := env_of hL
  refine (codecDigests_any i0 l0 s1 w1 he).mono fun e W' ⟨he, hk⟩ => ?_
  subst he
  have hlt : ∀ x ∈ p0 ++ (p1 ++ []), x.block < W.heap.size := fun x hx => hW'.lt x (List.mem_append_left _ hx)
  refine ⟨_, rfl, post_of_below (pa := p0 ++ (p1 ++ [])) (pv := []) hW' (fun _ _ _ => trodAll_cons_mk (shut_bool Tryd.underlying4 _) trodAll_mk0) (fun sp hsp => ?_) (fun _ _ => rfl) rfl hk (ok_one (by kernel_rfl) rfl (okWide_bool_mk Tryd.underlying4 _))⟩
  refine trodAll_stays laidOutP hk _ _ _ _ ?_ hA1 hlt (fun x hx => hsp x (List.mem_append_left _ hx))
  intro t ht'
  have ht' : t = 26 ∨ t = 9 := by simpa using ht'
  rcases ht' with rfl | rfl
  all_goals exact ⟨by kernel_rfl, of_decide_eq_true (by kernel_rfl)⟩

def wArgs : Array Value := #[.slice none 0 0, .string ⟨#[]⟩]
def wData {H : Type} : List (DataW H) := [.nil, .lit (.string [])]
theorem reads (os : Os) {H : Type} (enc : TypeId × Value → H) : ∃ places, DataW.whole enc Tryd.prog ((laidWorld os).forCall (fun _ _ => 0) ⟨#[], wArgs, []⟩).memory Tryd.f5.params.toList Rows.codecDigestsSpec.vars false wArgs.toList 8 = some (wData, [], places) :=
  ⟨[], by kernel_rfl⟩

set_option maxRecDepth 100000 in
theorem lifted (os : Os) (started : os.Started) (H : Type) (enc : TypeId × Value → H) (F : Stop.Interp) :
    ReturnsInHanded {} Tryd.checked os 5 .any ((OpenSpec.ofChange Rows.codecDigestsSpec).preRow enc Tryd.prog Tryd.f5 Rows.codecDigestsRow.domain false Rows.codecDigestsRow.laid) (((OpenSpec.ofChange Rows.codecDigestsSpec).at F).post enc Tryd.prog Tryd.f5 false true false false) := by
  obtain ⟨places, hx⟩ := reads os enc
  refine returnsInHanded_of_row (C := Tryd.checked) (s := OpenSpec.ofChange Rows.codecDigestsSpec) ownP started (by kernel_rfl) Tryd.func5
    (witness_row_atRef (enc := enc) (C := Tryd.checked) false (laidWorld os) wArgs rfl (by kernel_rfl) (by kernel_rfl) (by kernel_rfl)
      (OpenSpec.preRow_of_cond 8 hx (by kernel_rfl) (fun k hk => by cases hk) (by kernel_rfl) (laid_met os _))) ?_
  intro W base args ds gs before hval hW _ _ hz hL _ _
  exact contract H enc W base args ds gs before hval hW hL hz

theorem closed : joinedFacts Tryd.pinned.checked.prog 5 Tryd.f5 (OpenSpec.ofChange Rows.codecDigestsSpec).bare Rows.codecDigestsRow = true := by kernel_rfl
theorem inst : Tryd.f5.isInstance Tryd.pinned.checked.prog Rows.codecDigestsRow.origin Rows.codecDigestsRow.targs := of_decide_eq_true (by kernel_rfl)
theorem wrap : Tryd.f5.isWrapper Tryd.pinned.checked.prog Rows.codecDigestsRow.wrapper Rows.codecDigestsRow.mainSum := by
  unfold Func.isWrapper
  first
    | (rw [if_pos (by decide +kernel)]; kernel_rfl)
    | (rw [if_neg (by decide +kernel)]; exact ⟨rfl, rfl⟩)
theorem said : Rows.CodecDigestsSaid :=
  OpenClaim.holds_of_cond 5 Tryd.f5 rfl rfl rfl rfl rfl rfl rfl ⟨rfl, rfl, rfl, rfl, rfl⟩ rfl rfl rfl rfl rfl (by kernel_rfl) Tryd.func5 closed inst wrap
    (fun os started H enc _ F => by rw [OpenClaim.pre_eq_preRow]; exact lifted os started H enc F)

theorem plain (f : FuncId) (fn : Func) (hf : Tryd.pinned.checked.prog.funcNamed "fiducial/fiduciallaw12.CodecDigests" = some f) (hfn : Tryd.pinned.checked.prog.funcs[f]? = some fn) :
    true = Tryd.pinned.checked.prog.looks [] ∧ ∀ (j : Nat) t, fn.params[j]? = some t → Tryd.pinned.checked.prog.wantsStandIn t = false := by
  obtain rfl : f = 5 := Option.some.inj ((show Tryd.prog.funcNamed "fiducial/fiduciallaw12.CodecDigests" = some 5 by kernel_rfl).symm.trans hf) |>.symm
  obtain rfl : fn = Tryd.f5 := (Option.some.inj (Tryd.func5.symm.trans hfn)).symm
  refine ⟨by kernel_rfl, fun j t ht => ?_⟩
  rw [Tryd.params5] at ht
  have ht' : t = 26 ∨ t = 9 := by simpa using Array.mem_of_getElem? ht
  rcases ht' with rfl | rfl
  · exact (show Tryd.prog.wantsStandIn 26 = false by kernel_rfl)
  · exact (show Tryd.prog.wantsStandIn 9 = false by kernel_rfl)

theorem card : Rows.CodecDigestsCardSaid :=
  Claim7.holds_tied_plain_at .later [] _ _ _ _ said (fun _ h => by cases h) (by kernel_rfl) (fun _ h => by cases h) codecDigests_row_tie rfl ⟨rfl, rfl⟩ (by kernel_rfl) rfl plain (by kernel_rfl)
end DigestsC
end Go.Proofs.YtomjnjpehokjbaaDoor
