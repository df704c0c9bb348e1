/- FrameEntries: the statement. -/
import Derived.Test.YtbkcnhbdjllojaaLawEnt
import Derived.Test.YtbkcnhbdjllojaaClose
namespace Go.Proofs.Ytbkcnhbdjllojaa
open Go.RowKit Go.WideShapes Go.ChangeShapes Go.ChangeAt
namespace CardEnt

set_option maxRecDepth 100000 in
theorem contract (H : Type) (enc : TypeId × Value → H) (W : World) (base : Nat) (args : Array Value) (ds gs : List (DataW H)) (before : List MemPlace)
    (hval : ∀ (j : Nat) t v, Try.f11.params[j]? = some t → args[j]? = some v → Value.okWide Try.prog W .any base t v)
    (hW : DataW.Whole enc Try.prog Try.f11.params.toList Rows.frameEntriesSpec.vars false W args.toList ds gs before) :
    Calls Try.prog 11 args W fun e W' => ∃ v, e = .returned v ∧ Rows.frameEntriesSpec.post enc Try.prog Try.f11 false true false false W args v W' := by
  have hW' := hW
  obtain ⟨p, q, hA0, hV, rfl, hfz, hnd⟩ := hW
  have hA : DataW.TrodAll enc Try.prog W 0 (fun _ => true) true Try.f11.params.toList args.toList ds p := hA0
  rw [Try.params11] at hA hval
  have hA1 := hA
  obtain ⟨v0, vs0, d0, ds0, p0, q0, hargs, rfl, rfl, h0, r0⟩ := trodAll_cons hA
  obtain ⟨v1, vs1, d1, ds1, p1, q1, rfl, rfl, rfl, h1, r1⟩ := trodAll_cons r0
  obtain ⟨v2, vs2, d2, ds2, p2, q2, rfl, rfl, rfl, h2, r2⟩ := trodAll_cons r1
  obtain ⟨rfl, rfl, rfl⟩ := trodAll_nil r2
  obtain rfl : args = #[v0, v1, v2] := by cases args; simp_all
  obtain ⟨rfl, rfl⟩ := trodVars_none hV
  obtain ⟨A0, c0, es0, wd0, ht0, mx0, B0, dd0, px0, rfl, e0, i0, l0, m0⟩ := frmArg_of (hval 0 27 v0 rfl rfl) h0
  obtain ⟨s1, rfl, -, -, w1⟩ := Go.ChangeMaps.open_string Try.underlying9 (hval 1 9 v1 rfl rfl) h1
  obtain ⟨s2, rfl, -, -, w2⟩ := Go.ChangeMaps.open_string Try.underlying9 (hval 2 9 v2 rfl rfl) h2
  refine (frameEntries_any e0 i0 l0 m0 wd0 ht0 mx0 s1 w1 s2 w2).mono fun e W' ⟨he, hk⟩ => ?_
  subst he
  have hlt : ∀ x ∈ p0 ++ (p1 ++ (p2 ++ [])), x.block < W.heap.size := fun x hx => hW'.lt x (List.mem_append_left _ hx)
  refine ⟨_, rfl, post_of_below (pa := p0 ++ (p1 ++ (p2 ++ []))) (pv := []) hW' (fun _ _ _ => trodAll_cons_mk (shut_bool Try.underlying4 _) trodAll_mk0) (fun sp hsp => ?_) (fun _ _ => rfl) rfl hk (ok_one (by kernel_rfl) rfl (okWide_bool_mk Try.underlying4 _))⟩
  refine trodAll_stays laidOutP hk _ _ _ _ ?_ hA1 hlt (fun x hx => hsp x (List.mem_append_left _ hx))
  intro t ht'
  have ht' : t = 27 ∨ t = 9 := by simpa using ht'
  rcases ht' with rfl | rfl
  all_goals exact ⟨by kernel_rfl, of_decide_eq_true (by kernel_rfl)⟩

def wArgs : Array Value := #[.agg #[.slice none 0 0, .int .i64 0, .int .i64 0, .int .i64 0, .slice none 0 0], .string ⟨#[]⟩, .string ⟨#[]⟩]
def wData {H : Type} : List (DataW H) := [.agg [.nil, .agg [.lit (.int .i64 0), .lit (.int .i64 0), .lit (.int .i64 0), .nil]], .lit (.string []), .lit (.string [])]
theorem reads (os : Os) {H : Type} (enc : TypeId × Value → H) : ∃ places, DataW.whole enc Try.prog ((plainWorld os).forCall (fun _ _ => 0) ⟨#[], wArgs, []⟩).memory Try.f11.params.toList Rows.frameEntriesSpec.vars false wArgs.toList 8 = some (wData, [], places) :=
  ⟨[], by kernel_rfl⟩

set_option maxRecDepth 100000 in
theorem lifted (os : Os) (started : os.Started) (H : Type) (enc : TypeId × Value → H) (F : Stop.Interp) :
    ReturnsInHanded {} Try.checked os 11 .any ((OpenSpec.ofChange Rows.frameEntriesSpec).preRow enc Try.prog Try.f11 Rows.frameEntriesRow.domain false Rows.frameEntriesRow.laid) (((OpenSpec.ofChange Rows.frameEntriesSpec).at F).post enc Try.prog Try.f11 false true false false) := by
  obtain ⟨places, hx⟩ := reads os enc
  refine returnsInHanded_of_row (C := Try.checked) (s := OpenSpec.ofChange Rows.frameEntriesSpec) ownP started (by kernel_rfl) Try.func11
    (witness_row_atRef (enc := enc) (C := Try.checked) false (plainWorld os) wArgs rfl (by kernel_rfl) (by kernel_rfl) (by kernel_rfl)
      (OpenSpec.preRow_of_cond 8 hx (by kernel_rfl) (fun k hk => by cases hk) (by kernel_rfl) (laidMet_nil _ _))) ?_
  intro W base args ds gs before hval hW _ _ _ _ _ _
  exact contract H enc W base args ds gs before hval hW

theorem closed : joinedFacts Try.pinned.checked.prog 11 Try.f11 (OpenSpec.ofChange Rows.frameEntriesSpec).bare Rows.frameEntriesRow = true := by kernel_rfl
theorem inst : Try.f11.isInstance Try.pinned.checked.prog Rows.frameEntriesRow.origin Rows.frameEntriesRow.targs := of_decide_eq_true (by kernel_rfl)
theorem wrap : Try.f11.isWrapper Try.pinned.checked.prog Rows.frameEntriesRow.wrapper Rows.frameEntriesRow.mainSum := by
  unfold Func.isWrapper
  first
    | (rw [if_pos (by decide +kernel)]; kernel_rfl)
    | (rw [if_neg (by decide +kernel)]; exact ⟨rfl, rfl⟩)
theorem said : Rows.FrameEntriesSaid :=
  OpenClaim.holds_of_cond 11 Try.f11 rfl rfl rfl rfl rfl rfl rfl ⟨rfl, rfl, rfl, rfl, rfl⟩ rfl rfl rfl rfl rfl (by kernel_rfl) Try.func11 closed inst wrap
    (fun os started H enc _ F => by rw [OpenClaim.pre_eq_preRow]; exact lifted os started H enc F)
end CardEnt
end Go.Proofs.Ytbkcnhbdjllojaa
