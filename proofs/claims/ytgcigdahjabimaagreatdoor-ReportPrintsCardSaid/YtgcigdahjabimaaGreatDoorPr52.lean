/- ReportParses: the walk. -/
import Derived.Test.YtgcigdahjabimaaGreatDoorPr46
import Derived.Test.YtgcigdahjabimaaGreatDoorPr51
import Derived.Test.YtgcigdahjabimaaGreatDoorPr39
namespace Go.Proofs.YtgcigdahjabimaaGreatDoor
open Go.RowKit Go.Shelf
set_option maxRecDepth 100000 in
set_option maxHeartbeats 2000000 in
theorem rparses_any {w : World} {l : List UInt8} (ht : PowTab w) (he : EnvE w) (hc : CutOk w) (hl : (l.length : Int) ≤ 9223372036854775807) :
 Calls Tryz.prog 6 #[.string ⟨l.toArray⟩] w fun e w' => e = .returned (.bool true) ∧ Keeps w w' := by
 have HT := Lib.hid ht
 have HE := Lib.hid he
 have HC := Lib.hid hc
 have hsz : (⟨l.toArray⟩ : ByteArray).size = l.length := by show l.toArray.size = _; simp
 have S := St.start w
 clear ht he hc
 by_cases hlong : 2000 < l.length
 ·have t1 : decide ((2000 : Int) < ((⟨l.toArray⟩ : ByteArray).size : Int)) = true := decide_eq_true (by omega)
  go_enter Tryz.func6, Tryz.ntmps6
  go_wp2_with fail
  refine (known_r (HT.out.keep S.k)).mono ?_
  rintro e W1 ⟨rfl, hk1⟩
  go_wp2
  go_ret
  exact ⟨rfl, hk1⟩
 ·have t1 : decide ((2000 : Int) < ((⟨l.toArray⟩ : ByteArray).size : Int)) = false := decide_eq_false (by omega)
  have e1 : ¬ (2000 : Int) < ((⟨l.toArray⟩ : ByteArray).size : Int) := by omega
  have HPA := Lib.hid (fun (u : World) (hu : Keeps w u) => rparse_any (w := u) (l := l) (by omega) (HE.out.keep hu) (HC.out.keep hu) (HT.out.keep hu))
  have HSZ := Lib.hid (prs_sz (l := l) (by omega))
  have HNM := Lib.hid (prs_nums l)
  go_enter Tryz.func6, Tryz.ntmps6
  go_wp2_with fail
  refine (known_r (HT.out.keep S.k)).mono ?_
  rintro e W1 ⟨rfl, hk1⟩
  replace S := S.below hk1
  clear hk1
  go_wp2_with fail
  refine (HPA.out _ S.k).mono ?_
  rintro e W2 ⟨hy, hn, hk2⟩
  replace S := S.below hk2
  clear hk2 HPA
  cases hok : okP l with
  | false =>
   obtain rfl := hn hok
   clear hy hn hok
   have S := S.alloc 49 (smY (hdF [] 0) rz0 rz0 (.slice none 0 0) (.slice none 0 0) 0)
   go_upto_region 7 with fail
   obtain ⟨W3, eW, S⟩ := S.pack
   rw [eW]
   clear eW
   go_wp2_with (refine wpList_load_midg (wanted_some 19 rfl rfl rfl rfl) 49 _ rfl _ 0 rfl _ _ (own_range (S.o 0 rfl)) Tryz.underlying49 rfl (by kernel_rfl) ?_)
   refine none_any.mono ?_
   rintro e W4 ⟨rfl, hk4⟩
   go_wp2
   go_ret
   exact ⟨rfl, S.k.trans' hk4⟩
  | true =>
   obtain ⟨V, rfl, ha, hcap⟩ := hy hok
   have HSA := Lib.hid ha
   have HCAP := Lib.hid hcap
   obtain ⟨o0, o1, o2, o3, p0, p1, p2, p3, AA, BB, cc, dd, rfl, h1, h2, -⟩ := ha
   obtain ⟨b3, A3, n3, c3, d3, B3, m3, e3, rfl, rfl, rfl, rfl⟩ := h1.open4
   obtain ⟨b4, A4, n4, c4, d4, B4, m4, e4, rfl, rfl, rfl, rfl⟩ := h2.open4
   clear h1 h2
   have S := S.alloc 49 (smL (prsS l) (.bool b3) (.slice A3 n3 c3) (.bool d3) (.slice B3 m3 e3) (.bool b4) (.slice A4 n4 c4) (.bool d4) (.slice B4 m4 e4) AA BB cc dd)
   have hkA := box2 W2 (.cells (smL (prsS l) (.bool b3) (.slice A3 n3 c3) (.bool d3) (.slice B3 m3 e3) (.bool b4) (.slice A4 n4 c4) (.bool d4) (.slice B4 m4 e4) AA BB cc dd).toArray 49)
   obtain ⟨hfb, hT⟩ : formB (prsS l) = true ∧ sumT (prsS l) = l := by
    unfold okP at hok
    simpa using hok
   have HFB := Lib.hid hfb
   have HTT := Lib.hid hT
   clear hy hn hok hfb hT
   go_upto_region 8 with fail
   obtain ⟨W3, eW, S⟩ := S.pack
   rw [show W2.alloc (.cells (smL (prsS l) (.bool b3) (.slice A3 n3 c3) (.bool d3) (.slice B3 m3 e3) (.bool b4) (.slice A4 n4 c4) (.bool d4) (.slice B4 m4 e4) AA BB cc dd).toArray 49) = W3 from eW] at hkA
   rw [eW]
   clear eW
   replace HSA := Lib.hid (HSA.out.below hkA)
   obtain ⟨VS, hVS⟩ : ∃ V, Value.agg (smL (prsS l) (.bool b3) (.slice A3 n3 c3) (.bool d3) (.slice B3 m3 e3) (.bool b4) (.slice A4 n4 c4) (.bool d4) (.slice B4 m4 e4) AA BB cc dd).toArray = V := ⟨_, rfl⟩
   rw [hVS] at HSA HCAP
   have HVS := Lib.hid hVS
   clear hVS hkA
   have HFM := Lib.hid (formed_big HSA.out HCAP.out ⟨Nat.le_trans HSZ.out.1 (by omega), Nat.le_trans HSZ.out.2.1 (by omega), fun x hx => Nat.le_trans (HSZ.out.2.2.1 x hx) (by omega), fun x hx => Nat.le_trans (HSZ.out.2.2.2 x hx) (by omega)⟩ (by have := rowsN_le l; simpa [prsS] using this) (by have := rowsN_le l; simpa [prsS] using this))
   rw [HFB.out] at HFM
   go_wp2_with (refine wpList_load_mid rfl 49 _ rfl _ 0 rfl _ _ (own_range (S.o 0 rfl)) Tryz.underlying49 rfl (by kernel_rfl) ?_)
   have hvs := HVS.out
   rw [hvs]
   clear hvs
   refine HFM.out.mono ?_
   rintro e W4 ⟨rfl, hk4⟩
   replace S := S.below hk4
   have HTX := Lib.hid (ltext_any (HSA.out.below hk4) (HT.out.keep S.k) HNM.out.1 HNM.out.2.1 HNM.out.2.2.1 HNM.out.2.2.2 (Nat.le_trans HSZ.out.1 (by omega)) (Nat.le_trans HSZ.out.2.1 (by omega)) (fun x hx => Nat.le_trans (HSZ.out.2.2.1 x hx) (by omega)) (fun x hx => Nat.le_trans (HSZ.out.2.2.2 x hx) (by omega)))
   rw [HTT.out] at HTX
   clear HFM hk4
   go_wp2_with (refine wpList_load_midg (wanted_some 25 rfl rfl rfl rfl) 49 _ rfl _ 0 rfl _ _ (own_range (S.o 0 rfl)) Tryz.underlying49 rfl (by kernel_rfl) ?_)
   have hvs := HVS.out
   rw [hvs]
   clear hvs
   refine HTX.out.mono ?_
   rintro e W5 ⟨rfl, hk5⟩
   go_wp2
   go_ret
   exact ⟨by simp, S.k.trans' hk5⟩
theorem rparses_c {w : World} {d : ByteArray} (hs : d.size ≤ 9223372036854775807) (hm : CutOk w) (ht : PowTab w ∧ EnvE w) : Calls Tryz.prog 6 #[.string d] w fun e w' => e = .returned (.bool true) ∧ Keeps w w' := by
 have h := rparses_any (l := d.data.toList) ht.1 ht.2 hm (by rw [Array.length_toList]; exact Int.ofNat_le.2 hs)
 rwa [show (⟨d.data.toList.toArray⟩ : ByteArray) = d by cases d; simp] at h
end Go.Proofs.YtgcigdahjabimaaGreatDoor
