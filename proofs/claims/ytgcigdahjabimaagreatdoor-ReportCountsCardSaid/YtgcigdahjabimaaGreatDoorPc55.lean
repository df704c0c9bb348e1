/- THE CARD OF ReportCounts. -/
import Derived.Test.YtgcigdahjabimaaGreatDoorPc54
import Derived.Test.YtgcigdahjabimaaGreatDoorPc53
namespace Go.Proofs.YtgcigdahjabimaaGreatDoor
open Go.RowKit Go.WideShapes Go.ChangeShapes Go.ChangeAt
namespace CountsC

set_option maxRecDepth 100000 in
theorem contract (H : Type) (enc : TypeId × Value → H) (W : World) (base : Nat) (args : Array Value) (ds gs : List (DataW H)) (before : List MemPlace)
 (hval : ∀ (j : Nat) t v, Tryz.f4.params[j]? = some t → args[j]? = some v → Value.okWide Tryz.prog W .any base t v)
 (hW : DataW.Whole enc Tryz.prog Tryz.f4.params.toList Rows.reportCountsSpec.vars false W args.toList ds gs before) (hL : laidMetH Tryz.prog laid4 W)
 (hz : (DataW.weightsEach Tryz.prog (Tryz.f4.params.toList ++ (OpenSpec.ofChange Rows.reportCountsSpec).bare.plain.varTypes Tryz.prog) (ds ++ gs)).all (· ≤ reachBytes) = true) :
 Calls Tryz.prog 4 args W fun e W' => ∃ v, e = .returned v ∧ Rows.reportCountsSpec.post enc Tryz.prog Tryz.f4 false true false false W args v W' := by
 have hW' := hW
 obtain ⟨p, q, hA0, hV, rfl, hfz, hnd⟩ := hW
 have hA : DataW.TrodAll enc Tryz.prog W 0 (fun _ => true) true Tryz.f4.params.toList args.toList ds p := hA0
 rw [Tryz.params4] at hA hval hz
 have hA1 := hA
 obtain ⟨v0, vs0, d0, ds0, p0, q0, hargs, rfl, rfl, h0, r0⟩ := trodAll_cons hA
 obtain ⟨v1, vs1, d1, ds1, p1, q1, rfl, rfl, rfl, h1, r1⟩ := trodAll_cons r0
 obtain ⟨v2, vs2, d2, ds2, p2, q2, rfl, rfl, rfl, h2, r2⟩ := trodAll_cons r1
 obtain ⟨rfl, rfl, rfl⟩ := trodAll_nil r2
 obtain rfl : args = #[v0, v1, v2] := by cases args; simp_all
 obtain ⟨rfl, rfl⟩ := trodVars_none hV
 obtain ⟨r0, i0, k0⟩ := smArg_of (hval 0 49 v0 rfl rfl) h0 (fun n hn => of_decide_eq_true (List.all_eq_true.1 hz n (DataW.weights_mem_each (j := 0) (t := 49) rfl rfl n hn)))
 obtain ⟨A1, m1, cp1, L1, rfl, i1, l1, k1⟩ := ratsArg_raw (hval 1 34 v1 rfl rfl) h1 (fun n hn => of_decide_eq_true (List.all_eq_true.1 hz n (DataW.weights_mem_each (j := 1) (t := 34) rfl rfl n hn)))
 obtain ⟨na2, xs2, nb2, ys2, i2, l2, m2⟩ := ratArg_of (hval 2 31 v2 rfl rfl) h2 (fun n hn => of_decide_eq_true (List.all_eq_true.1 hz n (DataW.weights_mem_each (j := 2) (t := 31) rfl rfl n hn)))
 have ht := powTab_of hL
 refine (counts_any i0 k0 i1 l1 k1 (⟨i2, l2, m2⟩ : RatA W _ (_, _, _, _)) ht).mono fun e W' ⟨he, hk⟩ => ?_
 subst he
 have hlt : ∀ x ∈ p0 ++ (p1 ++ (p2 ++ [])), x.block < W.heap.size := fun x hx => hW'.lt x (List.mem_append_left _ hx)
 refine ⟨_, rfl, post_of_below (pa := p0 ++ (p1 ++ (p2 ++ []))) (pv := []) hW' (fun _ _ _ => trodAll_cons_mk (shut_bool Tryz.underlying4 _) trodAll_mk0) (fun sp hsp => ?_) (fun _ _ => rfl) rfl hk (ok_one (by kernel_rfl) rfl (okWide_bool_mk Tryz.underlying4 _))⟩
 refine trodAll_stays laidOutP hk _ _ _ _ ?_ hA1 hlt (fun x hx => hsp x (List.mem_append_left _ hx))
 intro t ht'
 have ht' : t = 49 ∨ t = 34 ∨ t = 31 := by simpa using ht'
 rcases ht' with rfl | rfl | rfl
 all_goals exact ⟨by kernel_rfl, of_decide_eq_true (by kernel_rfl)⟩

def wArgs : Array Value := #[.agg #[.int .i64 0, .int .i64 0, .int .i64 0, .int .i64 0, .int .i64 0, .int .i64 0, .bool false, .slice none 0 0, .bool false, .slice none 0 0, .bool false, .slice none 0 0, .bool false, .slice none 0 0, .slice none 0 0, .slice none 0 0, .int .i64 0], .slice none 0 0, .agg #[.bool false, .slice none 0 0, .bool false, .slice none 0 0]]
def wData {H : Type} : List (DataW H) := [.agg [.lit (.int .i64 0), .lit (.int .i64 0), .lit (.int .i64 0), .lit (.int .i64 0), .lit (.int .i64 0), .lit (.int .i64 0), .agg [.agg [.lit (.bool false), .nil], .agg [.lit (.bool false), .nil]], .agg [.agg [.lit (.bool false), .nil], .agg [.lit (.bool false), .nil]], .nil, .nil, .lit (.int .i64 0)], .nil, .agg [.agg [.lit (.bool false), .nil], .agg [.lit (.bool false), .nil]]]
theorem reads (os : Os) {H : Type} (enc : TypeId × Value → H) : ∃ places, DataW.whole enc Tryz.prog ((laidWorld os).forCall (fun _ _ => 0) ⟨#[], wArgs, []⟩).memory Tryz.f4.params.toList Rows.reportCountsSpec.vars false wArgs.toList 8 = some (wData, [], places) :=
 ⟨[], by kernel_rfl⟩

set_option maxRecDepth 100000 in
theorem lifted (os : Os) (started : os.Started) (H : Type) (enc : TypeId × Value → H) (F : Stop.Interp) :
 ReturnsInHanded {} Tryz.checked os 4 .any ((OpenSpec.ofChange Rows.reportCountsSpec).preRow enc Tryz.prog Tryz.f4 Rows.reportCountsRow.domain false Rows.reportCountsRow.laid) (((OpenSpec.ofChange Rows.reportCountsSpec).at F).post enc Tryz.prog Tryz.f4 false true false false) := by
 obtain ⟨places, hx⟩ := reads os enc
 refine returnsInHanded_of_row (C := Tryz.checked) (s := OpenSpec.ofChange Rows.reportCountsSpec) ownP started (by kernel_rfl) Tryz.func4
  (witness_row_atRef (enc := enc) (C := Tryz.checked) false (laidWorld os) wArgs rfl (by kernel_rfl) (by kernel_rfl) (by kernel_rfl)
   (OpenSpec.preRow_of_cond 8 hx (by kernel_rfl) (fun k hk => by cases hk) (by kernel_rfl) (laid_met os _))) ?_
 intro W base args ds gs before hval hW _ _ hz hL _ _
 exact contract H enc W base args ds gs before hval hW hL hz

theorem closed : joinedFacts Tryz.pinned.checked.prog 4 Tryz.f4 (OpenSpec.ofChange Rows.reportCountsSpec).bare Rows.reportCountsRow = true := by kernel_rfl
theorem inst : Tryz.f4.isInstance Tryz.pinned.checked.prog Rows.reportCountsRow.origin Rows.reportCountsRow.targs := of_decide_eq_true (by kernel_rfl)
theorem wrap : Tryz.f4.isWrapper Tryz.pinned.checked.prog Rows.reportCountsRow.wrapper Rows.reportCountsRow.mainSum := by
 unfold Func.isWrapper
 first
  | (rw [if_pos (by decide +kernel)]; kernel_rfl)
  | (rw [if_neg (by decide +kernel)]; exact ⟨rfl, rfl⟩)
theorem said : Rows.ReportCountsSaid :=
 OpenClaim.holds_of_cond 4 Tryz.f4 rfl rfl rfl rfl rfl rfl rfl ⟨rfl, rfl, rfl, rfl, rfl⟩ rfl rfl rfl rfl rfl (by kernel_rfl) Tryz.func4 closed inst wrap
  (fun os started H enc _ F => by rw [OpenClaim.pre_eq_preRow]; exact lifted os started H enc F)

theorem plain (f : FuncId) (fn : Func) (hf : Tryz.pinned.checked.prog.funcNamed "fiducial/fiduciallaw58.ReportCounts" = some f) (hfn : Tryz.pinned.checked.prog.funcs[f]? = some fn) :
 true = Tryz.pinned.checked.prog.looks [] ∧ ∀ (j : Nat) t, fn.params[j]? = some t → Tryz.pinned.checked.prog.wantsStandIn t = false := by
 obtain rfl : f = 4 := Option.some.inj ((show Tryz.prog.funcNamed "fiducial/fiduciallaw58.ReportCounts" = some 4 by kernel_rfl).symm.trans hf) |>.symm
 obtain rfl : fn = Tryz.f4 := (Option.some.inj (Tryz.func4.symm.trans hfn)).symm
 refine ⟨by kernel_rfl, fun j t ht => ?_⟩
 rw [Tryz.params4] at ht
 have ht' : t = 49 ∨ t = 34 ∨ t = 31 := by simpa using Array.mem_of_getElem? ht
 rcases ht' with rfl | rfl | rfl
 ·exact (show Tryz.prog.wantsStandIn 49 = false by kernel_rfl)
 ·exact (show Tryz.prog.wantsStandIn 34 = false by kernel_rfl)
 ·exact (show Tryz.prog.wantsStandIn 31 = false by kernel_rfl)

theorem card : Rows.ReportCountsCardSaid :=
 Claim7.holds_tied_plain_at .later [] _ _ _ _ said (fun _ h => by cases h) (by kernel_rfl) (fun _ h => by cases h) reportCounts_row_tie rfl ⟨rfl, rfl⟩ (by kernel_rfl) rfl plain (by kernel_rfl)
end CountsC
end Go.Proofs.YtgcigdahjabimaaGreatDoor
