/- THE CARD OF FractionNoSimpler. -/
import Derived.Test.YtmochehkkadjnaaGreatDoorLawNoSim
import Derived.Test.YtmochehkkadjnaaGreatDoorMgFClose
import Derived.Test.YtmochehkkadjnaaGreatDoorFArr
namespace Go.Proofs.YtmochehkkadjnaaGreatDoor
open Go.RowKit Go.WideShapes Go.ChangeShapes Go.ChangeAt
namespace NoSim

set_option maxRecDepth 100000 in
theorem contract (H : Type) (enc : TypeId × Value → H) (W : World) (base : Nat) (args : Array Value) (ds gs : List (DataW H)) (before : List MemPlace)
    (hval : ∀ (j : Nat) t v, Tryz.f7.params[j]? = some t → args[j]? = some v → Value.okWide Tryz.prog W .any base t v)
    (hW : DataW.Whole enc Tryz.prog Tryz.f7.params.toList Rows.fractionNoSimplerSpec.vars false W args.toList ds gs before) (hL : laidMetH Tryz.prog laid4 W)
    (hz : (DataW.weightsEach Tryz.prog (Tryz.f7.params.toList ++ (OpenSpec.ofChange Rows.fractionNoSimplerSpec).bare.plain.varTypes Tryz.prog) (ds ++ gs)).all (· ≤ reachBytes) = true) :
    Calls Tryz.prog 7 args W fun e W' => ∃ v, e = .returned v ∧ Rows.fractionNoSimplerSpec.post enc Tryz.prog Tryz.f7 false true false false W args v W' := by
  have hW' := hW
  obtain ⟨p, q, hA0, hV, rfl, hfz, hnd⟩ := hW
  have hA : DataW.TrodAll enc Tryz.prog W 0 (fun _ => true) true Tryz.f7.params.toList args.toList ds p := hA0
  rw [Tryz.params7] at hA hval hz
  have hA1 := hA
  obtain ⟨v0, vs0, d0, ds0, p0, q0, hargs, rfl, rfl, h0, r0⟩ := trodAll_cons hA
  obtain ⟨v1, vs1, d1, ds1, p1, q1, rfl, rfl, rfl, h1, r1⟩ := trodAll_cons r0
  obtain ⟨v2, vs2, d2, ds2, p2, q2, rfl, rfl, rfl, h2, r2⟩ := trodAll_cons r1
  obtain ⟨rfl, rfl, rfl⟩ := trodAll_nil r2
  obtain rfl : args = #[v0, v1, v2] := by cases args; simp_all
  obtain ⟨rfl, rfl⟩ := trodVars_none hV
  obtain ⟨za0, zb0, rfl, wa0, wb0⟩ := arr2_of (k := .i16) Tryz.underlying48 Tryz.underlying47 (by kernel_rfl) (by kernel_rfl) (hval 0 48 v0 rfl rfl) h0
  replace wa0 := bounds_i16 wa0
  replace wb0 := bounds_i16 wb0
  obtain ⟨za1, zb1, rfl, wa1, wb1⟩ := arr2_of (k := .u8) Tryz.underlying49 Tryz.underlying5 (by kernel_rfl) (by kernel_rfl) (hval 1 49 v1 rfl rfl) h1
  replace wa1 := bounds_u8 wa1
  replace wb1 := bounds_u8 wb1
  obtain ⟨za2, zb2, rfl, wa2, wb2⟩ := arr2_of (k := .i64) Tryz.underlying25 Tryz.underlying3 (by kernel_rfl) (by kernel_rfl) (hval 2 25 v2 rfl rfl) h2
  replace wa2 := i64_of_wf wa2
  replace wb2 := i64_of_wf wb2
  have ht := powTab_of hL
  refine (nosim_walk ht wa0 wb0 wa1 wb1 wa2 wb2).mono fun e W' ⟨he, hk⟩ => ?_
  subst he
  have hlt : ∀ x ∈ p0 ++ (p1 ++ (p2 ++ [])), x.block < W.heap.size := fun x hx => hW'.lt x (List.mem_append_left _ hx)
  refine ⟨_, rfl, post_of_below (pa := p0 ++ (p1 ++ (p2 ++ []))) (pv := []) hW' (fun _ _ _ => trodAll_cons_mk (shut_bool Tryz.underlying4 _) trodAll_mk0) (fun sp hsp => ?_) (fun _ _ => rfl) rfl hk (ok_one (by kernel_rfl) rfl (okWide_bool_mk Tryz.underlying4 _))⟩
  refine trodAll_stays laidOutP hk _ _ _ _ ?_ hA1 hlt (fun x hx => hsp x (List.mem_append_left _ hx))
  intro t ht'
  have ht' : t = 48 ∨ t = 49 ∨ t = 25 := by simpa using ht'
  rcases ht' with rfl | rfl | rfl
  all_goals exact ⟨by kernel_rfl, of_decide_eq_true (by kernel_rfl)⟩

def wArgs : Array Value := #[.agg #[.int .i16 0, .int .i16 0], .agg #[.int .u8 0, .int .u8 0], .agg #[.int .i64 0, .int .i64 0]]
def wData {H : Type} : List (DataW H) := [.agg [.lit (.int .i16 0), .lit (.int .i16 0)], .agg [.lit (.int .u8 0), .lit (.int .u8 0)], .agg [.lit (.int .i64 0), .lit (.int .i64 0)]]
theorem reads (os : Os) {H : Type} (enc : TypeId × Value → H) : ∃ places, DataW.whole enc Tryz.prog ((laidWorld os).forCall (fun _ _ => 0) ⟨#[], wArgs, []⟩).memory Tryz.f7.params.toList Rows.fractionNoSimplerSpec.vars false wArgs.toList 8 = some (wData, [], places) :=
  ⟨[], by kernel_rfl⟩

set_option maxRecDepth 100000 in
theorem lifted (os : Os) (started : os.Started) (H : Type) (enc : TypeId × Value → H) (F : Stop.Interp) :
    ReturnsInHanded {} Tryz.checked os 7 .any ((OpenSpec.ofChange Rows.fractionNoSimplerSpec).preRow enc Tryz.prog Tryz.f7 Rows.fractionNoSimplerRow.domain false Rows.fractionNoSimplerRow.laid) (((OpenSpec.ofChange Rows.fractionNoSimplerSpec).at F).post enc Tryz.prog Tryz.f7 false true false false) := by
  obtain ⟨places, hx⟩ := reads os enc
  refine returnsInHanded_of_row (C := Tryz.checked) (s := OpenSpec.ofChange Rows.fractionNoSimplerSpec) ownP started (by kernel_rfl) Tryz.func7
    (witness_row_atRef (enc := enc) (C := Tryz.checked) false (laidWorld os) wArgs rfl (by kernel_rfl) (by kernel_rfl) (by kernel_rfl)
      (OpenSpec.preRow_of_cond 8 hx (by kernel_rfl) (fun k hk => by cases hk) (by kernel_rfl) (laid_met os _))) ?_
  intro W base args ds gs before hval hW _ _ hz hL _ _
  exact contract H enc W base args ds gs before hval hW hL hz

theorem closed : joinedFacts Tryz.pinned.checked.prog 7 Tryz.f7 (OpenSpec.ofChange Rows.fractionNoSimplerSpec).bare Rows.fractionNoSimplerRow = true := by kernel_rfl
theorem inst : Tryz.f7.isInstance Tryz.pinned.checked.prog Rows.fractionNoSimplerRow.origin Rows.fractionNoSimplerRow.targs := of_decide_eq_true (by kernel_rfl)
theorem wrap : Tryz.f7.isWrapper Tryz.pinned.checked.prog Rows.fractionNoSimplerRow.wrapper Rows.fractionNoSimplerRow.mainSum := by
  unfold Func.isWrapper
  first
    | (rw [if_pos (by decide +kernel)]; kernel_rfl)
    | (rw [if_neg (by decide +kernel)]; exact ⟨rfl, rfl⟩)
theorem said : Rows.FractionNoSimplerSaid :=
  OpenClaim.holds_of_cond 7 Tryz.f7 rfl rfl rfl rfl rfl rfl rfl ⟨rfl, rfl, rfl, rfl, rfl⟩ rfl rfl rfl rfl rfl (by kernel_rfl) Tryz.func7 closed inst wrap
    (fun os started H enc _ F => by rw [OpenClaim.pre_eq_preRow]; exact lifted os started H enc F)

theorem plain (f : FuncId) (fn : Func) (hf : Tryz.pinned.checked.prog.funcNamed "fiducial/fiduciallaw02.FractionNoSimpler" = some f) (hfn : Tryz.pinned.checked.prog.funcs[f]? = some fn) :
    true = Tryz.pinned.checked.prog.looks [] ∧ ∀ (j : Nat) t, fn.params[j]? = some t → Tryz.pinned.checked.prog.wantsStandIn t = false := by
  obtain rfl : f = 7 := Option.some.inj ((show Tryz.prog.funcNamed "fiducial/fiduciallaw02.FractionNoSimpler" = some 7 by kernel_rfl).symm.trans hf) |>.symm
  obtain rfl : fn = Tryz.f7 := (Option.some.inj (Tryz.func7.symm.trans hfn)).symm
  refine ⟨by kernel_rfl, fun j t ht => ?_⟩
  rw [Tryz.params7] at ht
  have ht' : t = 48 ∨ t = 49 ∨ t = 25 := by simpa using Array.mem_of_getElem? ht
  rcases ht' with rfl | rfl | rfl
  · exact (show Tryz.prog.wantsStandIn 48 = false by kernel_rfl)
  · exact (show Tryz.prog.wantsStandIn 49 = false by kernel_rfl)
  · exact (show Tryz.prog.wantsStandIn 25 = false by kernel_rfl)

theorem card : Rows.FractionNoSimplerCardSaid :=
  Claim7.holds_tied_plain_at .later [] _ _ _ _ said (fun _ h => by cases h) (by kernel_rfl) (fun _ h => by cases h) fractionNoSimpler_row_tie rfl ⟨rfl, rfl⟩ (by kernel_rfl) rfl plain (by kernel_rfl)
end NoSim
end Go.Proofs.YtmochehkkadjnaaGreatDoor
