/- The walk of Parse. NOT FINISHED. -/
import Derived.Test.YtmochehkkadjnaaGreatDoorRParse
import Derived.Test.YtmochehkkadjnaaGreatDoorMgNums
import Derived.Deep.DeepCutAuto
import Derived.Deep.LoopGhost
namespace Go.Proofs.YtmochehkkadjnaaGreatDoor
open Go.RowKit Go.Shelf


theorem owns_kept {w w' : World} {base : Nat} {t : TypeId} {x : Value} {L : Nat} {xs : List Value} (h : w.ownsRow base t 1 x L xs) (hb : Keeps w w') : w'.ownsRow base t 1 x L xs := by
  refine ⟨h.1, ?_⟩
  rcases h.2 with hn | ⟨g, cap, cur, rfl, hbg, hg, rest⟩
  · exact .inl hn
  · exact .inr ⟨g, cap, cur, rfl, hbg, (hb.block g (Array.getElem?_eq_some_iff.1 hg).1).trans hg, rest⟩
set_option maxRecDepth 100000 in
set_option maxHeartbeats 8000000 in
theorem parse_any (s : ByteArray) (w : World) (hs : s.size ≤ 9223372036854775807) :
    Calls Tryz.prog 125 #[.string s] w fun e w' => ∃ Q, e = .returned (.tuple #[Q, .int .i64 (parseC s.data.toList)]) ∧ IntRep w' Q (parseZ s.data.toList) ∧ Keeps w w' := by
  obtain ⟨i0, hi, hz0, hz1, hz2⟩ := info_parts info_u32
  have hR := Own.new w 24 [.bool false, .slice none 0 0]
  have hk := box2 w (.cells #[.bool false, .slice none 0 0] 24)
  have r0 := hR.c0
  have r1 := hR.c1
  have f0 := hR.frozen 0
  have f1 := hR.frozen 1
  have hlen : s.data.toList.length = s.size := by simp
  obtain ⟨l, hl⟩ : ∃ l, s.data.toList = l := ⟨_, rfl⟩
  rw [hl] at hlen ⊢
  have HL := Lib.hid hl
  have HLEN := Lib.hid hlen
  by_cases hlong : 2001 < s.size
  · have hd : decide ((2001 : Int) < s.size) = true := decide_eq_true (by omega)
    have hc : parseC l = 9 := if_pos (by omega)
    have HCC := Lib.hid hc
    have HZZ := Lib.hid (parseZ_err hc (by decide))
    clear hc hl hlen
    go_enter Tryz.func125, Tryz.ntmps125
    go_wp2
    refine bodyPost_ret (v := .tuple #[.agg #[.bool false, .slice none 0 0], .int .i64 9]) (by simp [results, Tryz.results125, go_sem]) rfl ?_
    exact ⟨_, by rw [HCC.out], by rw [HZZ.out]; exact IntRep.zero _, hk⟩
  · have hd : decide ((2001 : Int) < s.size) = false := decide_eq_false (by omega)
    clear hl hlen
    have hsI : (s.size : Int) ≤ 2001 := by omega
    by_cases h0 : s.size = 0
    · have hl0 : l = [] := by rw [← HL.out]; exact List.eq_nil_of_length_eq_zero (by simpa using h0)
      have hc : parseC l = 8 := by rw [hl0]; rfl
      have HCC := Lib.hid hc
      have HZZ := Lib.hid (parseZ_err hc (by decide))
      have tz1 : s.toList.isEmpty = true := empty_yes s h0
      clear hc hl0
      go_enter Tryz.func125, Tryz.ntmps125
      go_wp2
      refine bodyPost_ret (v := .tuple #[.agg #[.bool false, .slice none 0 0], .int .i64 8]) (by simp [results, Tryz.results125, go_sem]) rfl ?_
      exact ⟨_, by rw [HCC.out], by rw [HZZ.out]; exact IntRep.zero _, hk⟩
    · have hpos : 0 < s.size := by omega
      have hposI : (0 : Int) < s.size := by omega
      have hh : l.head? = some s[0] := by rw [← HL.out]; rw [List.head?_eq_getElem?]; simp [hpos]; rfl
      have HH := Lib.hid hh
      clear hh
      by_cases hneg : s[0].toNat = 45
      · have hb : ((s[0].toNat : Int) == 45) = true := by rw [hneg]; rfl
        have h45 : s[0] = 45 := UInt8.toNat_inj.1 (by rw [hneg]; rfl)
        have HN := Lib.hid (show negOf l = true by unfold negOf; rw [HH.out, h45]; rfl)
        have hbo : bodyOf l = (s.extract 1 s.size).data.toList := by
          unfold bodyOf
          rw [HH.out, h45, if_pos rfl, ← HL.out]
          simp
          exact (List.take_of_length_le (by simp)).symm
        have hsz : (s.extract 1 s.size).size = s.size - 1 := by simp
        have HB := Lib.hid hbo
        have HSZ := Lib.hid hsz
        clear hneg h45 hbo hsz
        go_enter Tryz.func125, Tryz.ntmps125
        go_upto_region 7 with fail
        generalize s.extract 1 s.size = d at *
        have hdI : (d.size : Int) ≤ 2000 := by have := HSZ.out; omega
        by_cases hd0 : d.size = 0
        ·
          have tz1 : d.toList.isEmpty = true := empty_yes d hd0
          have hbad : badHead l = true := by
            unfold badHead
            rw [HB.out, show d.data.toList = [] from List.eq_nil_of_length_eq_zero (by simpa using hd0)]; rfl
          have hc : parseC l = 8 := by
            unfold parseC
            rw [if_neg (by have := HLEN.out; omega), if_pos hbad]
          have HCC := Lib.hid hc
          have HZZ := Lib.hid (parseZ_err hc (by decide))
          clear hc hbad
          go_wp2
          refine bodyPost_ret (v := .tuple #[.agg #[.bool false, .slice none 0 0], .int .i64 8]) (by simp [results, Tryz.results125, go_sem]) rfl ?_
          exact ⟨_, by rw [HCC.out], by rw [HZZ.out]; exact IntRep.zero _, hk⟩
        · have tz1 : d.toList.isEmpty = false := empty_no d (by omega)
          have hdp : 0 < d.size := by omega
          have hdpI : (0 : Int) < d.size := by omega
          have hhd : (bodyOf l).head? = some d[0] := by rw [HB.out, List.head?_eq_getElem?]; simp [hdp]; rfl
          have HHD := Lib.hid hhd
          clear hhd hd0
          by_cases h48 : d[0].toNat = 48
          · have tz2 : ((d[0].toNat : Int) == 48) = true := by rw [h48]; rfl
            have hbad : badHead l = true := by
              unfold badHead
              rw [HN.out, HHD.out, show d[0] = 48 from UInt8.toNat_inj.1 (by rw [h48]; rfl)]
              simp
            by_cases h1 : 1 < d.size
            · have e1 : decide ((1 : Int) < d.size) = true := decide_eq_true (by omega)
              have hc : parseC l = 8 := by
                unfold parseC
                rw [if_neg (by have := HLEN.out; omega), if_pos hbad]
              have HCC := Lib.hid hc
              have HZZ := Lib.hid (parseZ_err hc (by decide))
              clear hc hbad
              go_wp2
              refine bodyPost_ret (v := .tuple #[.agg #[.bool false, .slice none 0 0], .int .i64 8]) (by simp [results, Tryz.results125, go_sem]) rfl ?_
              exact ⟨_, by rw [HCC.out], by rw [HZZ.out]; exact IntRep.zero _, hk⟩
            · have e1 : decide ((1 : Int) < d.size) = false := decide_eq_false (by omega)
              have hc : parseC l = 8 := by
                unfold parseC
                rw [if_neg (by have := HLEN.out; omega), if_pos hbad]
              have HCC := Lib.hid hc
              have HZZ := Lib.hid (parseZ_err hc (by decide))
              clear hc hbad
              go_wp2
              refine bodyPost_ret (v := .tuple #[.agg #[.bool false, .slice none 0 0], .int .i64 8]) (by simp [results, Tryz.results125, go_sem]) rfl ?_
              exact ⟨_, by rw [HCC.out], by rw [HZZ.out]; exact IntRep.zero _, hk⟩
          · have tz2 : ((d[0].toNat : Int) == 48) = false := by rw [beq_eq_false_iff_ne]; omega
            have hgood : badHead l = false := by
              unfold badHead
              rw [HHD.out, HB.out, show decide (some d[0] = some (48 : UInt8)) = false from decide_eq_false (fun e => h48 (by rw [Option.some.inj e]; rfl))]
              simp
              intro e
              have h0 : d.size = 0 := by show d.data.size = 0; rw [e]; rfl
              omega
            clear h48
            have HBH := Lib.hid hgood
            clear hgood
            go_wp2
            have hk1 := hk
            have hR1 := hR
            clear r0 r1 f0 f1 hR hk
            generalize (w.alloc (.cells #[.bool false, .slice none 0 0] 24)) = W at *
            have hR := hR1
            have hk := hk1
            clear hR1 hk1
            have r0 := hR.c0
            have r1 := hR.c1
            have f0 := hR.frozen 0
            have f1 := hR.frozen 1
            go_loop [45] (fun i => ∃ k : Nat, k ≤ d.size ∧ i = .int .i64 (k : Nat) ∧ (d.data.toList.take k).all isDg = true) (fun i => d.size - (intOf i).toNat)
            case atStart => exact ⟨0, Nat.zero_le _, rfl, rfl⟩
            case round =>
              obtain ⟨k, hkd, rfl, hall⟩ := hrel
              have HALL := Lib.hid hall
              clear hall
              by_cases hlt : k < d.size
              · have hst : d.data.toList.take (k + 1) = d.data.toList.take k ++ [d[k]] := by
                  rw [List.take_succ_eq_append_getElem (by simpa using hlt)]; rfl
                have HST := Lib.hid hst
                have hub : d[k].toNat < 256 := d[k].toNat_lt
                clear hst
                by_cases hdg : isDg d[k] = true
                · have h1 := isDg_le hdg
                  have HDG := Lib.hid hdg
                  have e1 : decide ((d[k].toNat : Int) < 48) = false := decide_eq_false (by omega)
                  have e2 : decide ((57 : Int) < d[k].toNat) = false := decide_eq_false (by omega)
                  have e3 : ¬ (d[k].toNat : Int) < 48 := by omega
                  have e4 : ¬ (57 : Int) < d[k].toNat := by omega
                  clear h1 hdg hub
                  go_wp2
                  go_round
                  case rel => exact ⟨k + 1, by omega, by go_num, by rw [HST.out, List.all_append, HALL.out]; simpa using HDG.out⟩
                  case measure => simp [intOf]; omega
                · have hc : parseC l = 8 := by
                    unfold parseC
                    rw [if_neg (by have := HLEN.out; omega), if_neg (by rw [HBH.out]; decide), if_pos]
                    rw [HB.out, List.all_eq_false]
                    exact ⟨d[k], List.mem_of_getElem? (i := k) (by simp [hlt]; rfl), hdg⟩
                  have HCC := Lib.hid hc
                  have HZZ := Lib.hid (parseZ_err hc (by decide))
                  have hnd : d[k].toNat < 48 ∨ 57 < d[k].toNat := by unfold isDg at hdg; simp at hdg; omega
                  clear hc hdg
                  by_cases hlo : d[k].toNat < 48
                  · have e1 : decide ((d[k].toNat : Int) < 48) = true := decide_eq_true (by omega)
                    have e3 : (d[k].toNat : Int) < 48 := by omega
                    clear hnd hub
                    go_wp2
                    have hR4 := hR.two (.bool false) (.slice none 0 0)
                    refine bodyPost_ret (v := .tuple #[.agg #[.bool false, .slice none 0 0], .int .i64 8]) (by simp [results, Tryz.results125, go_sem, hR4.cell 0, hR4.cell 1]) rfl ?_
                    exact ⟨_, by rw [HCC.out], by rw [HZZ.out]; exact IntRep.zero _, (hk.set (Nat.le_refl _) _).set (Nat.le_refl _) _⟩
                  · have e1 : decide ((d[k].toNat : Int) < 48) = false := decide_eq_false (by omega)
                    have e2 : decide ((57 : Int) < d[k].toNat) = true := decide_eq_true (by omega)
                    have e3 : ¬ (d[k].toNat : Int) < 48 := by omega
                    have e4 : (57 : Int) < d[k].toNat := by omega
                    clear hnd hub
                    go_wp2
                    have hR4 := hR.two (.bool false) (.slice none 0 0)
                    refine bodyPost_ret (v := .tuple #[.agg #[.bool false, .slice none 0 0], .int .i64 8]) (by simp [results, Tryz.results125, go_sem, hR4.cell 0, hR4.cell 1]) rfl ?_
                    exact ⟨_, by rw [HCC.out], by rw [HZZ.out]; exact IntRep.zero _, (hk.set (Nat.le_refl _) _).set (Nat.le_refl _) _⟩
              · obtain rfl : k = d.size := by omega
                have hal : d.data.toList.all isDg = true := by have := HALL.out; rwa [List.take_of_length_le (by simp)] at this
                by_cases hbig : 2000 < d.size
                ·
                  exact absurd hbig (by omega)
                · have e1 : decide ((2000 : Int) < d.size) = false := decide_eq_false (by omega)
                  have e2 : ¬ (2000 : Int) < d.size := by omega
                  have hc : parseC l = 0 := by
                    unfold parseC
                    rw [if_neg (by have := HLEN.out; omega), if_neg (by rw [HBH.out]; decide), if_neg (by rw [HB.out, hal]; decide), if_neg (by rw [HB.out]; simpa using hbig)]
                  have hz : parseZ l = sgn true (valD d.data.toList) := by
                    unfold parseZ
                    rw [if_pos hc, HN.out, HB.out]
                    rfl
                  have HCC := Lib.hid hc
                  have HZZ := Lib.hid hz
                  have HAL := Lib.hid hal
                  clear hc hz hal
                  go_wp2
                  try clear h1z
                  try clear e1z
      
                  go_loopw [7, 8] (fun g e wr => ∃ (k : Nat) (out : List Nat) (E : Int), out.length = k ∧ 9 * k ≤ d.size + 8 ∧ e = .int .i64 E ∧ E = (d.size : Int) - 9 * (k : Nat) ∧ AllB out ∧ val out = valD (d.data.toList.drop (d.size - 9 * k)) ∧
                      wr.ownsRow (w.heap.size + 1) 93 1 g out.length (u32s out) ∧ Own wr w.heap.size 24 [.bool false, .slice none 0 0] ∧ Keeps w wr) (fun _ e _ => (intOf e).toNat)
                  case atStart => exact ⟨0, [], (d.size : Int), rfl, by omega, rfl, by omega, AllB.nil, by rw [Nat.mul_zero, Nat.sub_zero, List.drop_of_length_le (by simp)]; rfl, ⟨rfl, .inl ⟨rfl, rfl⟩⟩, hR, hk⟩
                  case round =>
                    clear hR hk r0 r1 f0 f1
                    obtain ⟨k, out, E, hol, hkd, rfl, hE, hob, hval, hown, hR, hk⟩ := hrel
                    have HOL := Lib.hid hol
                    have HVAL := Lib.hid hval
                    have hkI : (k : Int) ≤ 300 := by omega
                    have hdI2 : (d.size : Int) ≤ 2000 := by omega
                    clear hol hval
                    by_cases hgo : 9 * k < d.size
                    · by_cases hfull : 9 * k + 9 ≤ d.size
                      · obtain ⟨lo, hlo⟩ : ∃ lo, d.size = 9 * k + 9 + lo := ⟨d.size - (9 * k + 9), by omega⟩
                        obtain rfl : E = (lo : Int) + 9 := by omega
                        have hloI : (lo : Int) ≤ 2000 := by omega
                        have hle : (lo : Int) + 9 ≤ d.size := by omega
                        have HLO := Lib.hid hlo
                        clear hE hlo hfull hgo
                        have hx1 : (d.extract lo (lo + 9)).size = (lo + 9) - lo := by rw [ByteArray.size_extract]; have := HLO.out; omega
                        have hx2 : (d.extract lo (lo + 9)).data.toList = (d.data.toList.drop lo).take ((lo + 9) - lo) := by
                          rw [ByteArray.data_extract, Array.toList_extract, List.extract_eq_take_drop]
                        have hdgs := all_part d.data.toList HAL.out lo ((lo + 9) - lo)
                        have hne : (d.data.toList.drop lo).take ((lo + 9) - lo) ≠ [] := by
                          intro e
                          have := congrArg List.length e
                          rw [List.length_take, List.length_drop, List.length_nil, Array.length_toList] at this
                          have h2 : d.data.size = _ := HLO.out
                          omega
                        have hat := atoi_all _ hdgs hne
                        rw [← hx2] at hat
                        have hn := part_lt d.data.toList HAL.out lo ((lo + 9) - lo) 9 (by omega)
                        have hgs := group_step d.data.toList k lo (lo + 9) (by omega) (by have := HLO.out; simp; omega)
                        have HGS := Lib.hid hgs
                        have hol3 : out.length ≤ 300 := by have := HOL.out; omega
                        have hnI : (valD ((d.data.toList.drop lo).take ((lo + 9) - lo)) : Int) ≤ 999999999 := by omega
                        have hs18 : (d.extract lo (lo + 9)).size ≤ 18 := by rw [hx1]; omega
                        rw [hx2] at hat
                        clear hgs hn hdgs hne
                        obtain ⟨n, hnn⟩ : ∃ n, valD ((d.data.toList.drop lo).take ((lo + 9) - lo)) = n := ⟨_, rfl⟩
                        rw [hnn] at hnI hat
                        rw [← hx2] at hat
                        have HNN := Lib.hid hnn
                        have HA := Lib.hid (Tryz.strconv_Atoi (d.extract lo (lo + 9)) (n : Nat) hs18 hat)
                        clear hnn hat hx1 hx2 hs18
                        go_wp2_with fail
                        refine (HA.out _).mono ?_
                        rintro e w1 ⟨rfl, t, hw1⟩
                        have hkA : Keeps wr w1 := by rw [hw1]; exact Lib.bytesWorld_below _ _ _
                        clear hw1 HA
                        replace hown := owns_kept hown hkA
                        replace hR := hR.below hkA
                        replace hk := hk.trans' hkA
                        clear hkA
                        go_wp2_with (at_builtin; refine wpList_append_own _ rfl _ _ 22 rfl (w.heap.size + 1) 93 i0 (.int .u32 0) 1 4 Tryz.underlying22 hi hz0 hz1 hz2 rfl (by decide) _ _ _ rfl (hown.alloc _) ⟨w1.heap.size, 0, none⟩ 1 1 [.int .u32 (n : Nat)] rfl rfl (newcell _ _ _) (by simp [Value.oneCell']) (by simp only [maxLen]; omega) (by omega) (by have := hR.lt; simp; omega) ?_; intro v' w2 hown' hgrow _)
                        rw [u32s_snoc out n rfl] at hown'
                        have hk2 : Keeps w w2 := (hk.alloc hk.size _).grown hgrow (by have := hk.size; simp; omega) (fun b e => by have := (hown.lt b e).1; omega)
                        have hR3 := (hR.alloc _).grown hgrow (fun e => by have := (hown.lt _ e.symm).1; omega)
                        go_roundw
                        case rel => exact ⟨k + 1, out ++ [n], (lo : Int), by rw [List.length_append, HOL.out]; rfl, by have := HLO.out; omega, by first | rfl | go_num, by have := HLO.out; omega, hob.append (AllB.single (by omega)),
                          by rw [val_snoc, HOL.out, HVAL.out, show d.size - 9 * k = (lo + 9) by have := HLO.out; omega, show d.size - 9 * (k + 1) = lo by have := HLO.out; omega, HGS.out, HNN.out], by simpa using hown', hR3, hk2⟩
                        case measure => simp [intOf]; omega
                      · obtain ⟨h9, hh9⟩ : ∃ h9, d.size = 9 * k + h9 := ⟨d.size - 9 * k, by omega⟩
                        obtain rfl : E = (h9 : Int) := by omega
                        have h9I : (h9 : Int) ≤ 8 := by omega
                        have h9p : (0 : Int) < (h9 : Int) := by omega
                        have hle : (h9 : Int) ≤ d.size := by omega
                        have mx : max (0 : Int) ((h9 : Int) - 9) = 0 := by omega
                        have HLO := Lib.hid hh9
                        clear hE hh9 hfull hgo
                        have hx1 : (d.extract 0 h9).size = h9 - 0 := by rw [ByteArray.size_extract]; have := HLO.out; omega
                        have hx2 : (d.extract 0 h9).data.toList = (d.data.toList.drop 0).take (h9 - 0) := by
                          rw [ByteArray.data_extract, Array.toList_extract, List.extract_eq_take_drop]
                        have hdgs := all_part d.data.toList HAL.out 0 (h9 - 0)
                        have hne : (d.data.toList.drop 0).take (h9 - 0) ≠ [] := by
                          intro e
                          have := congrArg List.length e
                          rw [List.length_take, List.length_drop, List.length_nil, Array.length_toList] at this
                          have h2 : d.data.size = _ := HLO.out
                          omega
                        have hat := atoi_all _ hdgs hne
                        rw [← hx2] at hat
                        have hn := part_lt d.data.toList HAL.out 0 (h9 - 0) 9 (by omega)
                        have hgs := group_step d.data.toList k 0 h9 (by omega) (by have := HLO.out; simp; omega)
                        have HGS := Lib.hid hgs
                        have hol3 : out.length ≤ 300 := by have := HOL.out; omega
                        have hnI : (valD ((d.data.toList.drop 0).take (h9 - 0)) : Int) ≤ 999999999 := by omega
                        have hs18 : (d.extract 0 h9).size ≤ 18 := by rw [hx1]; omega
                        rw [hx2] at hat
                        clear hgs hn hdgs hne
                        obtain ⟨n, hnn⟩ : ∃ n, valD ((d.data.toList.drop 0).take (h9 - 0)) = n := ⟨_, rfl⟩
                        rw [hnn] at hnI hat
                        rw [← hx2] at hat
                        have HNN := Lib.hid hnn
                        have HA := Lib.hid (Tryz.strconv_Atoi (d.extract 0 h9) (n : Nat) hs18 hat)
                        clear hnn hat hx1 hx2 hs18
                        go_wp2_with fail
                        refine (HA.out _).mono ?_
                        rintro e w1 ⟨rfl, t, hw1⟩
                        have hkA : Keeps wr w1 := by rw [hw1]; exact Lib.bytesWorld_below _ _ _
                        clear hw1 HA
                        replace hown := owns_kept hown hkA
                        replace hR := hR.below hkA
                        replace hk := hk.trans' hkA
                        clear hkA
                        go_wp2_with (at_builtin; refine wpList_append_own _ rfl _ _ 22 rfl (w.heap.size + 1) 93 i0 (.int .u32 0) 1 4 Tryz.underlying22 hi hz0 hz1 hz2 rfl (by decide) _ _ _ rfl (hown.alloc _) ⟨w1.heap.size, 0, none⟩ 1 1 [.int .u32 (n : Nat)] rfl rfl (newcell _ _ _) (by simp [Value.oneCell']) (by simp only [maxLen]; omega) (by omega) (by have := hR.lt; simp; omega) ?_; intro v' w2 hown' hgrow _)
                        rw [u32s_snoc out n rfl] at hown'
                        have hk2 : Keeps w w2 := (hk.alloc hk.size _).grown hgrow (by have := hk.size; simp; omega) (fun b e => by have := (hown.lt b e).1; omega)
                        have hR3 := (hR.alloc _).grown hgrow (fun e => by have := (hown.lt _ e.symm).1; omega)
                        go_roundw
                        case rel => exact ⟨k + 1, out ++ [n], ((h9 : Int) - 9), by rw [List.length_append, HOL.out]; rfl, by have := HLO.out; omega, by first | rfl | go_num, by have := HLO.out; omega, hob.append (AllB.single (by omega)),
                          by rw [val_snoc, HOL.out, HVAL.out, show d.size - 9 * k = h9 by have := HLO.out; omega, show d.size - 9 * (k + 1) = 0 by have := HLO.out; omega, HGS.out, HNN.out], by simpa using hown', hR3, hk2⟩
                        case measure => simp [intOf]; omega
                    · have q1 : ¬ (0 : Int) < E := by omega
                      have q2 : decide ((0 : Int) < E) = false := decide_eq_false q1
                      have hv2 : val out = valD d.data.toList := by rw [HVAL.out, show d.size - 9 * k = 0 by omega, List.drop_zero]
                      have HV2 := Lib.hid hv2
                      have hu := U32.of_own hown
                      clear hE hgo hv2
                      go_wp2_with fail
                      refine (made_u true _ out _ hu hob).mono ?_
                      rintro e w5 ⟨V5, rfl, hr5, hk5⟩
                      obtain ⟨A5, n5, c5, rfl, -⟩ := hr5.open_
                      have hR5 := hR.below hk5
                      have r0 := hR5.c0
                      have r1 := hR5.c1
                      have f0 := hR5.frozen 0
                      have f1 := hR5.frozen 1
                      rw [HV2.out] at hr5 ⊢
                      generalize decide (sgn true (valD d.data.toList) < 0) = b5 at *
                      go_wp2
                      have hR4 := hR5.two (.bool b5) (.slice A5 n5 c5)
                      refine bodyPost_ret (v := .tuple #[.agg #[.bool b5, .slice A5 n5 c5], .int .i64 0]) (by simp [results, Tryz.results125, go_sem, hR4.cell 0, hR4.cell 1]) rfl ?_
                      exact ⟨_, by rw [HCC.out], by rw [HZZ.out]; exact hr5.two hR5 rfl rfl rfl, ((hk.trans' hk5).set (Nat.le_refl _) _).set (Nat.le_refl _) _⟩
      · have hb : ((s[0].toNat : Int) == 45) = false := by rw [beq_eq_false_iff_ne]; omega
        have h45 : s[0] ≠ 45 := fun e => hneg (by rw [e]; rfl)
        have HN := Lib.hid (show negOf l = false by unfold negOf; rw [HH.out]; simpa using h45)
        have hbo : bodyOf l = s.data.toList := by
          unfold bodyOf
          rw [HH.out, if_neg (by simpa using h45), ← HL.out]
        have HB := Lib.hid hbo
        clear hneg h45 hbo
        go_enter Tryz.func125, Tryz.ntmps125
        go_upto_region 7 with fail
        obtain ⟨d, rfl⟩ : ∃ d : ByteArray, d = s := ⟨_, rfl⟩
        have hdI : (d.size : Int) ≤ 2001 := hsI
        by_cases hd0 : d.size = 0
        ·
          exact absurd hd0 (by omega)
        · have tz1 : d.toList.isEmpty = false := empty_no d (by omega)
          have hdp : 0 < d.size := by omega
          have hdpI : (0 : Int) < d.size := by omega
          have hhd : (bodyOf l).head? = some d[0] := by rw [HB.out, List.head?_eq_getElem?]; simp [hdp]; rfl
          have HHD := Lib.hid hhd
          clear hhd hd0
          by_cases h48 : d[0].toNat = 48
          · have tz2 : ((d[0].toNat : Int) == 48) = true := by rw [h48]; rfl
            by_cases h1z : 1 < d.size
            · have hbad : badHead l = true := by
                unfold badHead
                rw [HHD.out, show d[0] = 48 from UInt8.toNat_inj.1 (by rw [h48]; rfl), HB.out, show d.data.toList.length = d.size by simp]
                simp [h1z]
              have e1z : decide ((1 : Int) < d.size) = true := decide_eq_true (by omega)
              have hc : parseC l = 8 := by
                unfold parseC
                rw [if_neg (by have := HLEN.out; omega), if_pos hbad]
              have HCC := Lib.hid hc
              have HZZ := Lib.hid (parseZ_err hc (by decide))
              clear hc hbad
              go_wp2
              refine bodyPost_ret (v := .tuple #[.agg #[.bool false, .slice none 0 0], .int .i64 8]) (by simp [results, Tryz.results125, go_sem]) rfl ?_
              exact ⟨_, by rw [HCC.out], by rw [HZZ.out]; exact IntRep.zero _, hk⟩
            · have hgood : badHead l = false := by
                unfold badHead
                rw [HN.out, HB.out, show d.data.toList.length = d.size by simp, decide_eq_false h1z]
                simp
                intro e
                have h0 : d.size = 0 := by show d.data.size = 0; rw [e]; rfl
                omega
              have e1z : decide ((1 : Int) < d.size) = false := decide_eq_false (by omega)
              have HBH := Lib.hid hgood
              clear hgood
              go_wp2
              have hk1 := hk
              have hR1 := hR
              clear r0 r1 f0 f1 hR hk
              generalize (w.alloc (.cells #[.bool false, .slice none 0 0] 24)) = W at *
              have hR := hR1
              have hk := hk1
              clear hR1 hk1
              have r0 := hR.c0
              have r1 := hR.c1
              have f0 := hR.frozen 0
              have f1 := hR.frozen 1
              go_loop [45] (fun i => ∃ k : Nat, k ≤ d.size ∧ i = .int .i64 (k : Nat) ∧ (d.data.toList.take k).all isDg = true) (fun i => d.size - (intOf i).toNat)
              case atStart => exact ⟨0, Nat.zero_le _, rfl, rfl⟩
              case round =>
                obtain ⟨k, hkd, rfl, hall⟩ := hrel
                have HALL := Lib.hid hall
                clear hall
                by_cases hlt : k < d.size
                · have hst : d.data.toList.take (k + 1) = d.data.toList.take k ++ [d[k]] := by
                    rw [List.take_succ_eq_append_getElem (by simpa using hlt)]; rfl
                  have HST := Lib.hid hst
                  have hub : d[k].toNat < 256 := d[k].toNat_lt
                  clear hst
                  by_cases hdg : isDg d[k] = true
                  · have h1 := isDg_le hdg
                    have HDG := Lib.hid hdg
                    have e1 : decide ((d[k].toNat : Int) < 48) = false := decide_eq_false (by omega)
                    have e2 : decide ((57 : Int) < d[k].toNat) = false := decide_eq_false (by omega)
                    have e3 : ¬ (d[k].toNat : Int) < 48 := by omega
                    have e4 : ¬ (57 : Int) < d[k].toNat := by omega
                    clear h1 hdg hub
                    go_wp2
                    go_round
                    case rel => exact ⟨k + 1, by omega, by go_num, by rw [HST.out, List.all_append, HALL.out]; simpa using HDG.out⟩
                    case measure => simp [intOf]; omega
                  · have hc : parseC l = 8 := by
                      unfold parseC
                      rw [if_neg (by have := HLEN.out; omega), if_neg (by rw [HBH.out]; decide), if_pos]
                      rw [HB.out, List.all_eq_false]
                      exact ⟨d[k], List.mem_of_getElem? (i := k) (by simp [hlt]; rfl), hdg⟩
                    have HCC := Lib.hid hc
                    have HZZ := Lib.hid (parseZ_err hc (by decide))
                    have hnd : d[k].toNat < 48 ∨ 57 < d[k].toNat := by unfold isDg at hdg; simp at hdg; omega
                    clear hc hdg
                    by_cases hlo : d[k].toNat < 48
                    · have e1 : decide ((d[k].toNat : Int) < 48) = true := decide_eq_true (by omega)
                      have e3 : (d[k].toNat : Int) < 48 := by omega
                      clear hnd hub
                      go_wp2
                      have hR4 := hR.two (.bool false) (.slice none 0 0)
                      refine bodyPost_ret (v := .tuple #[.agg #[.bool false, .slice none 0 0], .int .i64 8]) (by simp [results, Tryz.results125, go_sem, hR4.cell 0, hR4.cell 1]) rfl ?_
                      exact ⟨_, by rw [HCC.out], by rw [HZZ.out]; exact IntRep.zero _, (hk.set (Nat.le_refl _) _).set (Nat.le_refl _) _⟩
                    · have e1 : decide ((d[k].toNat : Int) < 48) = false := decide_eq_false (by omega)
                      have e2 : decide ((57 : Int) < d[k].toNat) = true := decide_eq_true (by omega)
                      have e3 : ¬ (d[k].toNat : Int) < 48 := by omega
                      have e4 : (57 : Int) < d[k].toNat := by omega
                      clear hnd hub
                      go_wp2
                      have hR4 := hR.two (.bool false) (.slice none 0 0)
                      refine bodyPost_ret (v := .tuple #[.agg #[.bool false, .slice none 0 0], .int .i64 8]) (by simp [results, Tryz.results125, go_sem, hR4.cell 0, hR4.cell 1]) rfl ?_
                      exact ⟨_, by rw [HCC.out], by rw [HZZ.out]; exact IntRep.zero _, (hk.set (Nat.le_refl _) _).set (Nat.le_refl _) _⟩
                · obtain rfl : k = d.size := by omega
                  have hal : d.data.toList.all isDg = true := by have := HALL.out; rwa [List.take_of_length_le (by simp)] at this
                  by_cases hbig : 2000 < d.size
                  ·
                    exact absurd hbig (by omega)
                  · have e1 : decide ((2000 : Int) < d.size) = false := decide_eq_false (by omega)
                    have e2 : ¬ (2000 : Int) < d.size := by omega
                    have hc : parseC l = 0 := by
                      unfold parseC
                      rw [if_neg (by have := HLEN.out; omega), if_neg (by rw [HBH.out]; decide), if_neg (by rw [HB.out, hal]; decide), if_neg (by rw [HB.out]; simpa using hbig)]
                    have hz : parseZ l = sgn false (valD d.data.toList) := by
                      unfold parseZ
                      rw [if_pos hc, HN.out, HB.out]
                      rfl
                    have HCC := Lib.hid hc
                    have HZZ := Lib.hid hz
                    have HAL := Lib.hid hal
                    clear hc hz hal
                    go_wp2
                    try clear h1z
                    try clear e1z
      
                    go_loopw [7, 8] (fun g e wr => ∃ (k : Nat) (out : List Nat) (E : Int), out.length = k ∧ 9 * k ≤ d.size + 8 ∧ e = .int .i64 E ∧ E = (d.size : Int) - 9 * (k : Nat) ∧ AllB out ∧ val out = valD (d.data.toList.drop (d.size - 9 * k)) ∧
                        wr.ownsRow (w.heap.size + 1) 93 1 g out.length (u32s out) ∧ Own wr w.heap.size 24 [.bool false, .slice none 0 0] ∧ Keeps w wr) (fun _ e _ => (intOf e).toNat)
                    case atStart => exact ⟨0, [], (d.size : Int), rfl, by omega, rfl, by omega, AllB.nil, by rw [Nat.mul_zero, Nat.sub_zero, List.drop_of_length_le (by simp)]; rfl, ⟨rfl, .inl ⟨rfl, rfl⟩⟩, hR, hk⟩
                    case round =>
                      clear hR hk r0 r1 f0 f1
                      obtain ⟨k, out, E, hol, hkd, rfl, hE, hob, hval, hown, hR, hk⟩ := hrel
                      have HOL := Lib.hid hol
                      have HVAL := Lib.hid hval
                      have hkI : (k : Int) ≤ 300 := by omega
                      have hdI2 : (d.size : Int) ≤ 2000 := by omega
                      clear hol hval
                      by_cases hgo : 9 * k < d.size
                      · by_cases hfull : 9 * k + 9 ≤ d.size
                        · obtain ⟨lo, hlo⟩ : ∃ lo, d.size = 9 * k + 9 + lo := ⟨d.size - (9 * k + 9), by omega⟩
                          obtain rfl : E = (lo : Int) + 9 := by omega
                          have hloI : (lo : Int) ≤ 2000 := by omega
                          have hle : (lo : Int) + 9 ≤ d.size := by omega
                          have HLO := Lib.hid hlo
                          clear hE hlo hfull hgo
                          have hx1 : (d.extract lo (lo + 9)).size = (lo + 9) - lo := by rw [ByteArray.size_extract]; have := HLO.out; omega
                          have hx2 : (d.extract lo (lo + 9)).data.toList = (d.data.toList.drop lo).take ((lo + 9) - lo) := by
                            rw [ByteArray.data_extract, Array.toList_extract, List.extract_eq_take_drop]
                          have hdgs := all_part d.data.toList HAL.out lo ((lo + 9) - lo)
                          have hne : (d.data.toList.drop lo).take ((lo + 9) - lo) ≠ [] := by
                            intro e
                            have := congrArg List.length e
                            rw [List.length_take, List.length_drop, List.length_nil, Array.length_toList] at this
                            have h2 : d.data.size = _ := HLO.out
                            omega
                          have hat := atoi_all _ hdgs hne
                          rw [← hx2] at hat
                          have hn := part_lt d.data.toList HAL.out lo ((lo + 9) - lo) 9 (by omega)
                          have hgs := group_step d.data.toList k lo (lo + 9) (by omega) (by have := HLO.out; simp; omega)
                          have HGS := Lib.hid hgs
                          have hol3 : out.length ≤ 300 := by have := HOL.out; omega
                          have hnI : (valD ((d.data.toList.drop lo).take ((lo + 9) - lo)) : Int) ≤ 999999999 := by omega
                          have hs18 : (d.extract lo (lo + 9)).size ≤ 18 := by rw [hx1]; omega
                          rw [hx2] at hat
                          clear hgs hn hdgs hne
                          obtain ⟨n, hnn⟩ : ∃ n, valD ((d.data.toList.drop lo).take ((lo + 9) - lo)) = n := ⟨_, rfl⟩
                          rw [hnn] at hnI hat
                          rw [← hx2] at hat
                          have HNN := Lib.hid hnn
                          have HA := Lib.hid (Tryz.strconv_Atoi (d.extract lo (lo + 9)) (n : Nat) hs18 hat)
                          clear hnn hat hx1 hx2 hs18
                          go_wp2_with fail
                          refine (HA.out _).mono ?_
                          rintro e w1 ⟨rfl, t, hw1⟩
                          have hkA : Keeps wr w1 := by rw [hw1]; exact Lib.bytesWorld_below _ _ _
                          clear hw1 HA
                          replace hown := owns_kept hown hkA
                          replace hR := hR.below hkA
                          replace hk := hk.trans' hkA
                          clear hkA
                          go_wp2_with (at_builtin; refine wpList_append_own _ rfl _ _ 22 rfl (w.heap.size + 1) 93 i0 (.int .u32 0) 1 4 Tryz.underlying22 hi hz0 hz1 hz2 rfl (by decide) _ _ _ rfl (hown.alloc _) ⟨w1.heap.size, 0, none⟩ 1 1 [.int .u32 (n : Nat)] rfl rfl (newcell _ _ _) (by simp [Value.oneCell']) (by simp only [maxLen]; omega) (by omega) (by have := hR.lt; simp; omega) ?_; intro v' w2 hown' hgrow _)
                          rw [u32s_snoc out n rfl] at hown'
                          have hk2 : Keeps w w2 := (hk.alloc hk.size _).grown hgrow (by have := hk.size; simp; omega) (fun b e => by have := (hown.lt b e).1; omega)
                          have hR3 := (hR.alloc _).grown hgrow (fun e => by have := (hown.lt _ e.symm).1; omega)
                          go_roundw
                          case rel => exact ⟨k + 1, out ++ [n], (lo : Int), by rw [List.length_append, HOL.out]; rfl, by have := HLO.out; omega, by first | rfl | go_num, by have := HLO.out; omega, hob.append (AllB.single (by omega)),
                            by rw [val_snoc, HOL.out, HVAL.out, show d.size - 9 * k = (lo + 9) by have := HLO.out; omega, show d.size - 9 * (k + 1) = lo by have := HLO.out; omega, HGS.out, HNN.out], by simpa using hown', hR3, hk2⟩
                          case measure => simp [intOf]; omega
                        · obtain ⟨h9, hh9⟩ : ∃ h9, d.size = 9 * k + h9 := ⟨d.size - 9 * k, by omega⟩
                          obtain rfl : E = (h9 : Int) := by omega
                          have h9I : (h9 : Int) ≤ 8 := by omega
                          have h9p : (0 : Int) < (h9 : Int) := by omega
                          have hle : (h9 : Int) ≤ d.size := by omega
                          have mx : max (0 : Int) ((h9 : Int) - 9) = 0 := by omega
                          have HLO := Lib.hid hh9
                          clear hE hh9 hfull hgo
                          have hx1 : (d.extract 0 h9).size = h9 - 0 := by rw [ByteArray.size_extract]; have := HLO.out; omega
                          have hx2 : (d.extract 0 h9).data.toList = (d.data.toList.drop 0).take (h9 - 0) := by
                            rw [ByteArray.data_extract, Array.toList_extract, List.extract_eq_take_drop]
                          have hdgs := all_part d.data.toList HAL.out 0 (h9 - 0)
                          have hne : (d.data.toList.drop 0).take (h9 - 0) ≠ [] := by
                            intro e
                            have := congrArg List.length e
                            rw [List.length_take, List.length_drop, List.length_nil, Array.length_toList] at this
                            have h2 : d.data.size = _ := HLO.out
                            omega
                          have hat := atoi_all _ hdgs hne
                          rw [← hx2] at hat
                          have hn := part_lt d.data.toList HAL.out 0 (h9 - 0) 9 (by omega)
                          have hgs := group_step d.data.toList k 0 h9 (by omega) (by have := HLO.out; simp; omega)
                          have HGS := Lib.hid hgs
                          have hol3 : out.length ≤ 300 := by have := HOL.out; omega
                          have hnI : (valD ((d.data.toList.drop 0).take (h9 - 0)) : Int) ≤ 999999999 := by omega
                          have hs18 : (d.extract 0 h9).size ≤ 18 := by rw [hx1]; omega
                          rw [hx2] at hat
                          clear hgs hn hdgs hne
                          obtain ⟨n, hnn⟩ : ∃ n, valD ((d.data.toList.drop 0).take (h9 - 0)) = n := ⟨_, rfl⟩
                          rw [hnn] at hnI hat
                          rw [← hx2] at hat
                          have HNN := Lib.hid hnn
                          have HA := Lib.hid (Tryz.strconv_Atoi (d.extract 0 h9) (n : Nat) hs18 hat)
                          clear hnn hat hx1 hx2 hs18
                          go_wp2_with fail
                          refine (HA.out _).mono ?_
                          rintro e w1 ⟨rfl, t, hw1⟩
                          have hkA : Keeps wr w1 := by rw [hw1]; exact Lib.bytesWorld_below _ _ _
                          clear hw1 HA
                          replace hown := owns_kept hown hkA
                          replace hR := hR.below hkA
                          replace hk := hk.trans' hkA
                          clear hkA
                          go_wp2_with (at_builtin; refine wpList_append_own _ rfl _ _ 22 rfl (w.heap.size + 1) 93 i0 (.int .u32 0) 1 4 Tryz.underlying22 hi hz0 hz1 hz2 rfl (by decide) _ _ _ rfl (hown.alloc _) ⟨w1.heap.size, 0, none⟩ 1 1 [.int .u32 (n : Nat)] rfl rfl (newcell _ _ _) (by simp [Value.oneCell']) (by simp only [maxLen]; omega) (by omega) (by have := hR.lt; simp; omega) ?_; intro v' w2 hown' hgrow _)
                          rw [u32s_snoc out n rfl] at hown'
                          have hk2 : Keeps w w2 := (hk.alloc hk.size _).grown hgrow (by have := hk.size; simp; omega) (fun b e => by have := (hown.lt b e).1; omega)
                          have hR3 := (hR.alloc _).grown hgrow (fun e => by have := (hown.lt _ e.symm).1; omega)
                          go_roundw
                          case rel => exact ⟨k + 1, out ++ [n], ((h9 : Int) - 9), by rw [List.length_append, HOL.out]; rfl, by have := HLO.out; omega, by first | rfl | go_num, by have := HLO.out; omega, hob.append (AllB.single (by omega)),
                            by rw [val_snoc, HOL.out, HVAL.out, show d.size - 9 * k = h9 by have := HLO.out; omega, show d.size - 9 * (k + 1) = 0 by have := HLO.out; omega, HGS.out, HNN.out], by simpa using hown', hR3, hk2⟩
                          case measure => simp [intOf]; omega
                      · have q1 : ¬ (0 : Int) < E := by omega
                        have q2 : decide ((0 : Int) < E) = false := decide_eq_false q1
                        have hv2 : val out = valD d.data.toList := by rw [HVAL.out, show d.size - 9 * k = 0 by omega, List.drop_zero]
                        have HV2 := Lib.hid hv2
                        have hu := U32.of_own hown
                        clear hE hgo hv2
                        go_wp2_with fail
                        refine (made_u false _ out _ hu hob).mono ?_
                        rintro e w5 ⟨V5, rfl, hr5, hk5⟩
                        obtain ⟨A5, n5, c5, rfl, -⟩ := hr5.open_
                        have hR5 := hR.below hk5
                        have r0 := hR5.c0
                        have r1 := hR5.c1
                        have f0 := hR5.frozen 0
                        have f1 := hR5.frozen 1
                        rw [HV2.out] at hr5 ⊢
                        generalize decide (sgn false (valD d.data.toList) < 0) = b5 at *
                        go_wp2
                        have hR4 := hR5.two (.bool b5) (.slice A5 n5 c5)
                        refine bodyPost_ret (v := .tuple #[.agg #[.bool b5, .slice A5 n5 c5], .int .i64 0]) (by simp [results, Tryz.results125, go_sem, hR4.cell 0, hR4.cell 1]) rfl ?_
                        exact ⟨_, by rw [HCC.out], by rw [HZZ.out]; exact hr5.two hR5 rfl rfl rfl, ((hk.trans' hk5).set (Nat.le_refl _) _).set (Nat.le_refl _) _⟩
          · have tz2 : ((d[0].toNat : Int) == 48) = false := by rw [beq_eq_false_iff_ne]; omega
            have hgood : badHead l = false := by
              unfold badHead
              rw [HHD.out, HB.out, show decide (some d[0] = some (48 : UInt8)) = false from decide_eq_false (fun e => h48 (by rw [Option.some.inj e]; rfl))]
              simp
              intro e
              have h0 : d.size = 0 := by show d.data.size = 0; rw [e]; rfl
              omega
            clear h48
            have HBH := Lib.hid hgood
            clear hgood
            go_wp2
            have hk1 := hk
            have hR1 := hR
            clear r0 r1 f0 f1 hR hk
            generalize (w.alloc (.cells #[.bool false, .slice none 0 0] 24)) = W at *
            have hR := hR1
            have hk := hk1
            clear hR1 hk1
            have r0 := hR.c0
            have r1 := hR.c1
            have f0 := hR.frozen 0
            have f1 := hR.frozen 1
            go_loop [45] (fun i => ∃ k : Nat, k ≤ d.size ∧ i = .int .i64 (k : Nat) ∧ (d.data.toList.take k).all isDg = true) (fun i => d.size - (intOf i).toNat)
            case atStart => exact ⟨0, Nat.zero_le _, rfl, rfl⟩
            case round =>
              obtain ⟨k, hkd, rfl, hall⟩ := hrel
              have HALL := Lib.hid hall
              clear hall
              by_cases hlt : k < d.size
              · have hst : d.data.toList.take (k + 1) = d.data.toList.take k ++ [d[k]] := by
                  rw [List.take_succ_eq_append_getElem (by simpa using hlt)]; rfl
                have HST := Lib.hid hst
                have hub : d[k].toNat < 256 := d[k].toNat_lt
                clear hst
                by_cases hdg : isDg d[k] = true
                · have h1 := isDg_le hdg
                  have HDG := Lib.hid hdg
                  have e1 : decide ((d[k].toNat : Int) < 48) = false := decide_eq_false (by omega)
                  have e2 : decide ((57 : Int) < d[k].toNat) = false := decide_eq_false (by omega)
                  have e3 : ¬ (d[k].toNat : Int) < 48 := by omega
                  have e4 : ¬ (57 : Int) < d[k].toNat := by omega
                  clear h1 hdg hub
                  go_wp2
                  go_round
                  case rel => exact ⟨k + 1, by omega, by go_num, by rw [HST.out, List.all_append, HALL.out]; simpa using HDG.out⟩
                  case measure => simp [intOf]; omega
                · have hc : parseC l = 8 := by
                    unfold parseC
                    rw [if_neg (by have := HLEN.out; omega), if_neg (by rw [HBH.out]; decide), if_pos]
                    rw [HB.out, List.all_eq_false]
                    exact ⟨d[k], List.mem_of_getElem? (i := k) (by simp [hlt]; rfl), hdg⟩
                  have HCC := Lib.hid hc
                  have HZZ := Lib.hid (parseZ_err hc (by decide))
                  have hnd : d[k].toNat < 48 ∨ 57 < d[k].toNat := by unfold isDg at hdg; simp at hdg; omega
                  clear hc hdg
                  by_cases hlo : d[k].toNat < 48
                  · have e1 : decide ((d[k].toNat : Int) < 48) = true := decide_eq_true (by omega)
                    have e3 : (d[k].toNat : Int) < 48 := by omega
                    clear hnd hub
                    go_wp2
                    have hR4 := hR.two (.bool false) (.slice none 0 0)
                    refine bodyPost_ret (v := .tuple #[.agg #[.bool false, .slice none 0 0], .int .i64 8]) (by simp [results, Tryz.results125, go_sem, hR4.cell 0, hR4.cell 1]) rfl ?_
                    exact ⟨_, by rw [HCC.out], by rw [HZZ.out]; exact IntRep.zero _, (hk.set (Nat.le_refl _) _).set (Nat.le_refl _) _⟩
                  · have e1 : decide ((d[k].toNat : Int) < 48) = false := decide_eq_false (by omega)
                    have e2 : decide ((57 : Int) < d[k].toNat) = true := decide_eq_true (by omega)
                    have e3 : ¬ (d[k].toNat : Int) < 48 := by omega
                    have e4 : (57 : Int) < d[k].toNat := by omega
                    clear hnd hub
                    go_wp2
                    have hR4 := hR.two (.bool false) (.slice none 0 0)
                    refine bodyPost_ret (v := .tuple #[.agg #[.bool false, .slice none 0 0], .int .i64 8]) (by simp [results, Tryz.results125, go_sem, hR4.cell 0, hR4.cell 1]) rfl ?_
                    exact ⟨_, by rw [HCC.out], by rw [HZZ.out]; exact IntRep.zero _, (hk.set (Nat.le_refl _) _).set (Nat.le_refl _) _⟩
              · obtain rfl : k = d.size := by omega
                have hal : d.data.toList.all isDg = true := by have := HALL.out; rwa [List.take_of_length_le (by simp)] at this
                by_cases hbig : 2000 < d.size
                ·
                  have e1 : decide ((2000 : Int) < d.size) = true := decide_eq_true (by omega)
                  have e2 : (2000 : Int) < d.size := by omega
                  have hc : parseC l = 9 := by
                    unfold parseC
                    rw [if_neg (by have := HLEN.out; omega), if_neg (by rw [HBH.out]; decide), if_neg (by rw [HB.out, hal]; decide), if_pos (by rw [HB.out]; simpa using hbig)]
                  have HCC := Lib.hid hc
                  have HZZ := Lib.hid (parseZ_err hc (by decide))
                  clear hc hal
                  go_wp2
                  have hR4 := hR.two (.bool false) (.slice none 0 0)
                  refine bodyPost_ret (v := .tuple #[.agg #[.bool false, .slice none 0 0], .int .i64 9]) (by simp [results, Tryz.results125, go_sem, hR4.cell 0, hR4.cell 1]) rfl ?_
                  exact ⟨_, by rw [HCC.out], by rw [HZZ.out]; exact IntRep.zero _, (hk.set (Nat.le_refl _) _).set (Nat.le_refl _) _⟩
                · have e1 : decide ((2000 : Int) < d.size) = false := decide_eq_false (by omega)
                  have e2 : ¬ (2000 : Int) < d.size := by omega
                  have hc : parseC l = 0 := by
                    unfold parseC
                    rw [if_neg (by have := HLEN.out; omega), if_neg (by rw [HBH.out]; decide), if_neg (by rw [HB.out, hal]; decide), if_neg (by rw [HB.out]; simpa using hbig)]
                  have hz : parseZ l = sgn false (valD d.data.toList) := by
                    unfold parseZ
                    rw [if_pos hc, HN.out, HB.out]
                    rfl
                  have HCC := Lib.hid hc
                  have HZZ := Lib.hid hz
                  have HAL := Lib.hid hal
                  clear hc hz hal
                  go_wp2
                  try clear h1z
                  try clear e1z
      
                  go_loopw [7, 8] (fun g e wr => ∃ (k : Nat) (out : List Nat) (E : Int), out.length = k ∧ 9 * k ≤ d.size + 8 ∧ e = .int .i64 E ∧ E = (d.size : Int) - 9 * (k : Nat) ∧ AllB out ∧ val out = valD (d.data.toList.drop (d.size - 9 * k)) ∧
                      wr.ownsRow (w.heap.size + 1) 93 1 g out.length (u32s out) ∧ Own wr w.heap.size 24 [.bool false, .slice none 0 0] ∧ Keeps w wr) (fun _ e _ => (intOf e).toNat)
                  case atStart => exact ⟨0, [], (d.size : Int), rfl, by omega, rfl, by omega, AllB.nil, by rw [Nat.mul_zero, Nat.sub_zero, List.drop_of_length_le (by simp)]; rfl, ⟨rfl, .inl ⟨rfl, rfl⟩⟩, hR, hk⟩
                  case round =>
                    clear hR hk r0 r1 f0 f1
                    obtain ⟨k, out, E, hol, hkd, rfl, hE, hob, hval, hown, hR, hk⟩ := hrel
                    have HOL := Lib.hid hol
                    have HVAL := Lib.hid hval
                    have hkI : (k : Int) ≤ 300 := by omega
                    have hdI2 : (d.size : Int) ≤ 2000 := by omega
                    clear hol hval
                    by_cases hgo : 9 * k < d.size
                    · by_cases hfull : 9 * k + 9 ≤ d.size
                      · obtain ⟨lo, hlo⟩ : ∃ lo, d.size = 9 * k + 9 + lo := ⟨d.size - (9 * k + 9), by omega⟩
                        obtain rfl : E = (lo : Int) + 9 := by omega
                        have hloI : (lo : Int) ≤ 2000 := by omega
                        have hle : (lo : Int) + 9 ≤ d.size := by omega
                        have HLO := Lib.hid hlo
                        clear hE hlo hfull hgo
                        have hx1 : (d.extract lo (lo + 9)).size = (lo + 9) - lo := by rw [ByteArray.size_extract]; have := HLO.out; omega
                        have hx2 : (d.extract lo (lo + 9)).data.toList = (d.data.toList.drop lo).take ((lo + 9) - lo) := by
                          rw [ByteArray.data_extract, Array.toList_extract, List.extract_eq_take_drop]
                        have hdgs := all_part d.data.toList HAL.out lo ((lo + 9) - lo)
                        have hne : (d.data.toList.drop lo).take ((lo + 9) - lo) ≠ [] := by
                          intro e
                          have := congrArg List.length e
                          rw [List.length_take, List.length_drop, List.length_nil, Array.length_toList] at this
                          have h2 : d.data.size = _ := HLO.out
                          omega
                        have hat := atoi_all _ hdgs hne
                        rw [← hx2] at hat
                        have hn := part_lt d.data.toList HAL.out lo ((lo + 9) - lo) 9 (by omega)
                        have hgs := group_step d.data.toList k lo (lo + 9) (by omega) (by have := HLO.out; simp; omega)
                        have HGS := Lib.hid hgs
                        have hol3 : out.length ≤ 300 := by have := HOL.out; omega
                        have hnI : (valD ((d.data.toList.drop lo).take ((lo + 9) - lo)) : Int) ≤ 999999999 := by omega
                        have hs18 : (d.extract lo (lo + 9)).size ≤ 18 := by rw [hx1]; omega
                        rw [hx2] at hat
                        clear hgs hn hdgs hne
                        obtain ⟨n, hnn⟩ : ∃ n, valD ((d.data.toList.drop lo).take ((lo + 9) - lo)) = n := ⟨_, rfl⟩
                        rw [hnn] at hnI hat
                        rw [← hx2] at hat
                        have HNN := Lib.hid hnn
                        have HA := Lib.hid (Tryz.strconv_Atoi (d.extract lo (lo + 9)) (n : Nat) hs18 hat)
                        clear hnn hat hx1 hx2 hs18
                        go_wp2_with fail
                        refine (HA.out _).mono ?_
                        rintro e w1 ⟨rfl, t, hw1⟩
                        have hkA : Keeps wr w1 := by rw [hw1]; exact Lib.bytesWorld_below _ _ _
                        clear hw1 HA
                        replace hown := owns_kept hown hkA
                        replace hR := hR.below hkA
                        replace hk := hk.trans' hkA
                        clear hkA
                        go_wp2_with (at_builtin; refine wpList_append_own _ rfl _ _ 22 rfl (w.heap.size + 1) 93 i0 (.int .u32 0) 1 4 Tryz.underlying22 hi hz0 hz1 hz2 rfl (by decide) _ _ _ rfl (hown.alloc _) ⟨w1.heap.size, 0, none⟩ 1 1 [.int .u32 (n : Nat)] rfl rfl (newcell _ _ _) (by simp [Value.oneCell']) (by simp only [maxLen]; omega) (by omega) (by have := hR.lt; simp; omega) ?_; intro v' w2 hown' hgrow _)
                        rw [u32s_snoc out n rfl] at hown'
                        have hk2 : Keeps w w2 := (hk.alloc hk.size _).grown hgrow (by have := hk.size; simp; omega) (fun b e => by have := (hown.lt b e).1; omega)
                        have hR3 := (hR.alloc _).grown hgrow (fun e => by have := (hown.lt _ e.symm).1; omega)
                        go_roundw
                        case rel => exact ⟨k + 1, out ++ [n], (lo : Int), by rw [List.length_append, HOL.out]; rfl, by have := HLO.out; omega, by first | rfl | go_num, by have := HLO.out; omega, hob.append (AllB.single (by omega)),
                          by rw [val_snoc, HOL.out, HVAL.out, show d.size - 9 * k = (lo + 9) by have := HLO.out; omega, show d.size - 9 * (k + 1) = lo by have := HLO.out; omega, HGS.out, HNN.out], by simpa using hown', hR3, hk2⟩
                        case measure => simp [intOf]; omega
                      · obtain ⟨h9, hh9⟩ : ∃ h9, d.size = 9 * k + h9 := ⟨d.size - 9 * k, by omega⟩
                        obtain rfl : E = (h9 : Int) := by omega
                        have h9I : (h9 : Int) ≤ 8 := by omega
                        have h9p : (0 : Int) < (h9 : Int) := by omega
                        have hle : (h9 : Int) ≤ d.size := by omega
                        have mx : max (0 : Int) ((h9 : Int) - 9) = 0 := by omega
                        have HLO := Lib.hid hh9
                        clear hE hh9 hfull hgo
                        have hx1 : (d.extract 0 h9).size = h9 - 0 := by rw [ByteArray.size_extract]; have := HLO.out; omega
                        have hx2 : (d.extract 0 h9).data.toList = (d.data.toList.drop 0).take (h9 - 0) := by
                          rw [ByteArray.data_extract, Array.toList_extract, List.extract_eq_take_drop]
                        have hdgs := all_part d.data.toList HAL.out 0 (h9 - 0)
                        have hne : (d.data.toList.drop 0).take (h9 - 0) ≠ [] := by
                          intro e
                          have := congrArg List.length e
                          rw [List.length_take, List.length_drop, List.length_nil, Array.length_toList] at this
                          have h2 : d.data.size = _ := HLO.out
                          omega
                        have hat := atoi_all _ hdgs hne
                        rw [← hx2] at hat
                        have hn := part_lt d.data.toList HAL.out 0 (h9 - 0) 9 (by omega)
                        have hgs := group_step d.data.toList k 0 h9 (by omega) (by have := HLO.out; simp; omega)
                        have HGS := Lib.hid hgs
                        have hol3 : out.length ≤ 300 := by have := HOL.out; omega
                        have hnI : (valD ((d.data.toList.drop 0).take (h9 - 0)) : Int) ≤ 999999999 := by omega
                        have hs18 : (d.extract 0 h9).size ≤ 18 := by rw [hx1]; omega
                        rw [hx2] at hat
                        clear hgs hn hdgs hne
                        obtain ⟨n, hnn⟩ : ∃ n, valD ((d.data.toList.drop 0).take (h9 - 0)) = n := ⟨_, rfl⟩
                        rw [hnn] at hnI hat
                        rw [← hx2] at hat
                        have HNN := Lib.hid hnn
                        have HA := Lib.hid (Tryz.strconv_Atoi (d.extract 0 h9) (n : Nat) hs18 hat)
                        clear hnn hat hx1 hx2 hs18
                        go_wp2_with fail
                        refine (HA.out _).mono ?_
                        rintro e w1 ⟨rfl, t, hw1⟩
                        have hkA : Keeps wr w1 := by rw [hw1]; exact Lib.bytesWorld_below _ _ _
                        clear hw1 HA
                        replace hown := owns_kept hown hkA
                        replace hR := hR.below hkA
                        replace hk := hk.trans' hkA
                        clear hkA
                        go_wp2_with (at_builtin; refine wpList_append_own _ rfl _ _ 22 rfl (w.heap.size + 1) 93 i0 (.int .u32 0) 1 4 Tryz.underlying22 hi hz0 hz1 hz2 rfl (by decide) _ _ _ rfl (hown.alloc _) ⟨w1.heap.size, 0, none⟩ 1 1 [.int .u32 (n : Nat)] rfl rfl (newcell _ _ _) (by simp [Value.oneCell']) (by simp only [maxLen]; omega) (by omega) (by have := hR.lt; simp; omega) ?_; intro v' w2 hown' hgrow _)
                        rw [u32s_snoc out n rfl] at hown'
                        have hk2 : Keeps w w2 := (hk.alloc hk.size _).grown hgrow (by have := hk.size; simp; omega) (fun b e => by have := (hown.lt b e).1; omega)
                        have hR3 := (hR.alloc _).grown hgrow (fun e => by have := (hown.lt _ e.symm).1; omega)
                        go_roundw
                        case rel => exact ⟨k + 1, out ++ [n], ((h9 : Int) - 9), by rw [List.length_append, HOL.out]; rfl, by have := HLO.out; omega, by first | rfl | go_num, by have := HLO.out; omega, hob.append (AllB.single (by omega)),
                          by rw [val_snoc, HOL.out, HVAL.out, show d.size - 9 * k = h9 by have := HLO.out; omega, show d.size - 9 * (k + 1) = 0 by have := HLO.out; omega, HGS.out, HNN.out], by simpa using hown', hR3, hk2⟩
                        case measure => simp [intOf]; omega
                    · have q1 : ¬ (0 : Int) < E := by omega
                      have q2 : decide ((0 : Int) < E) = false := decide_eq_false q1
                      have hv2 : val out = valD d.data.toList := by rw [HVAL.out, show d.size - 9 * k = 0 by omega, List.drop_zero]
                      have HV2 := Lib.hid hv2
                      have hu := U32.of_own hown
                      clear hE hgo hv2
                      go_wp2_with fail
                      refine (made_u false _ out _ hu hob).mono ?_
                      rintro e w5 ⟨V5, rfl, hr5, hk5⟩
                      obtain ⟨A5, n5, c5, rfl, -⟩ := hr5.open_
                      have hR5 := hR.below hk5
                      have r0 := hR5.c0
                      have r1 := hR5.c1
                      have f0 := hR5.frozen 0
                      have f1 := hR5.frozen 1
                      rw [HV2.out] at hr5 ⊢
                      generalize decide (sgn false (valD d.data.toList) < 0) = b5 at *
                      go_wp2
                      have hR4 := hR5.two (.bool b5) (.slice A5 n5 c5)
                      refine bodyPost_ret (v := .tuple #[.agg #[.bool b5, .slice A5 n5 c5], .int .i64 0]) (by simp [results, Tryz.results125, go_sem, hR4.cell 0, hR4.cell 1]) rfl ?_
                      exact ⟨_, by rw [HCC.out], by rw [HZZ.out]; exact hr5.two hR5 rfl rfl rfl, ((hk.trans' hk5).set (Nat.le_refl _) _).set (Nat.le_refl _) _⟩
end Go.Proofs.YtmochehkkadjnaaGreatDoor
