/- The walk of the reference's Parse. -/
import Derived.Test.YtmochehkkadjnaaGreatDoorMgParseNum
import Derived.Test.YtmochehkkadjnaaGreatDoorMgRefA
import Derived.Deep.DeepCutAuto
import Derived.Deep.LoopGhost
namespace Go.Proofs.YtmochehkkadjnaaGreatDoor
open Go.RowKit Go.Shelf

theorem take_next (ds : List UInt8) (lo j : Nat) (h1 : lo ≤ j) (h2 : j < ds.length) : (ds.drop lo).take (j + 1 - lo) = (ds.drop lo).take (j - lo) ++ [ds[j]] := by
  rw [show j + 1 - lo = (j - lo) + 1 by omega, List.take_succ_eq_append_getElem (by rw [List.length_drop]; omega)]
  congr 2
  rw [List.getElem_drop]
  congr 1
  omega
theorem all_part (ds : List UInt8) (h : ds.all isDg = true) (a b : Nat) : ((ds.drop a).take b).all isDg = true :=
  List.all_eq_true.2 fun x hx => List.all_eq_true.1 h x (List.mem_of_mem_drop (List.mem_of_mem_take hx))
theorem part_lt (ds : List UInt8) (h : ds.all isDg = true) (a b k : Nat) (hb : b ≤ k) : valD ((ds.drop a).take b) < 10 ^ k :=
  Nat.lt_of_lt_of_le (valD_lt _ (all_part ds h a b)) (Nat.pow_le_pow_right (by omega) (Nat.le_trans (List.length_take_le _ _) hb))

theorem parseZ_err {l : List UInt8} {c : Int} (h : parseC l = c) (hc : c ≠ 0) : parseZ l = 0 := if_neg (by rw [h]; exact hc)
set_option maxRecDepth 100000 in
set_option maxHeartbeats 2000000 in
theorem rparse_any (s : ByteArray) (w : World) (hs : s.size ≤ 9223372036854775807) :
    Calls Tryz.prog 132 #[.string s] w fun e w' => ∃ Q, e = .returned (.tuple #[Q, .int .i64 (parseC s.data.toList)]) ∧ IntRep w' Q (parseZ s.data.toList) ∧ Keeps w w' := by
  obtain ⟨i0, hi, hz0, hz1, hz2⟩ := info_parts info_u32
  have hR := Own.new w 24 [.bool false, .slice none 0 0]
  have hk := box2 w (.cells #[.bool false, .slice none 0 0] 24)
  have r0 := hR.c0
  have r1 := hR.c1
  have f0 := hR.frozen 0
  have f1 := hR.frozen 1
  have hlen : s.data.toList.length = s.size := by simp
  obtain ⟨l, hl⟩ : ∃ l, s.data.toList = l := ⟨_, rfl⟩
  rw [hl] at hlen ⊢
  have HL := Lib.hid hl
  have HLEN := Lib.hid hlen
  by_cases hlong : 2001 < s.size
  · have hd : decide ((2001 : Int) < s.size) = true := decide_eq_true (by omega)
    have hc : parseC l = 9 := if_pos (by omega)
    have HCC := Lib.hid hc
    have HZZ := Lib.hid (parseZ_err hc (by decide))
    clear hc hl hlen
    go_enter Tryz.func132, Tryz.ntmps132
    go_wp2
    refine bodyPost_ret (v := .tuple #[.agg #[.bool false, .slice none 0 0], .int .i64 9]) (by simp [results, Tryz.results132, go_sem]) rfl ?_
    exact ⟨_, by rw [HCC.out], by rw [HZZ.out]; exact IntRep.zero _, hk⟩
  · have hd : decide ((2001 : Int) < s.size) = false := decide_eq_false (by omega)
    clear hl hlen
    have hsI : (s.size : Int) ≤ 2001 := by omega
    by_cases h0 : s.size = 0
    · have hl0 : l = [] := by rw [← HL.out]; exact List.eq_nil_of_length_eq_zero (by simpa using h0)
      have hc : parseC l = 8 := by rw [hl0]; rfl
      have HCC := Lib.hid hc
      have HZZ := Lib.hid (parseZ_err hc (by decide))
      clear hc hl0
      go_enter Tryz.func132, Tryz.ntmps132
      go_wp2
      refine bodyPost_ret (v := .tuple #[.agg #[.bool false, .slice none 0 0], .int .i64 8]) (by simp [results, Tryz.results132, go_sem]) rfl ?_
      exact ⟨_, by rw [HCC.out], by rw [HZZ.out]; exact IntRep.zero _, hk⟩
    · have hpos : 0 < s.size := by omega
      have hposI : (0 : Int) < s.size := by omega
      have hh : l.head? = some s[0] := by rw [← HL.out]; rw [List.head?_eq_getElem?]; simp [hpos]; rfl
      have HH := Lib.hid hh
      clear hh
      by_cases hneg : s[0].toNat = 45
      · have hb : ((s[0].toNat : Int) == 45) = true := by rw [hneg]; rfl
        have h45 : s[0] = 45 := UInt8.toNat_inj.1 (by rw [hneg]; rfl)
        have HN := Lib.hid (show negOf l = true by unfold negOf; rw [HH.out, h45]; rfl)
        have hbo : bodyOf l = (s.extract 1 s.size).data.toList := by
          unfold bodyOf
          rw [HH.out, h45, if_pos rfl, ← HL.out]
          simp
          exact (List.take_of_length_le (by simp)).symm
        have hsz : (s.extract 1 s.size).size = s.size - 1 := by simp
        have HB := Lib.hid hbo
        have HSZ := Lib.hid hsz
        clear hneg h45 hbo hsz
        go_enter Tryz.func132, Tryz.ntmps132
        go_upto_region 6 with fail
        generalize s.extract 1 s.size = d at *
        have hdI : (d.size : Int) ≤ 2000 := by have := HSZ.out; omega
        by_cases hd0 : d.size = 0
        ·
          have tz1 : ((d.size : Int) == 0) = true := by rw [hd0]; rfl
          have hbad : badHead l = true := by
            unfold badHead
            rw [HB.out, show d.data.toList = [] from List.eq_nil_of_length_eq_zero (by simpa using hd0)]; rfl
          have hc : parseC l = 8 := by
            unfold parseC
            rw [if_neg (by have := HLEN.out; omega), if_pos hbad]
          have HCC := Lib.hid hc
          have HZZ := Lib.hid (parseZ_err hc (by decide))
          clear hc hbad
          go_wp2
          refine bodyPost_ret (v := .tuple #[.agg #[.bool false, .slice none 0 0], .int .i64 8]) (by simp [results, Tryz.results132, go_sem]) rfl ?_
          exact ⟨_, by rw [HCC.out], by rw [HZZ.out]; exact IntRep.zero _, hk⟩
        · have tz1 : ((d.size : Int) == 0) = false := by rw [beq_eq_false_iff_ne]; omega
          have hdp : 0 < d.size := by omega
          have hdpI : (0 : Int) < d.size := by omega
          have hhd : (bodyOf l).head? = some d[0] := by rw [HB.out, List.head?_eq_getElem?]; simp [hdp]; rfl
          have HHD := Lib.hid hhd
          clear hhd hd0
          by_cases h48 : d[0].toNat = 48
          · have tz2 : ((d[0].toNat : Int) == 48) = true := by rw [h48]; rfl
            have hbad : badHead l = true := by
              unfold badHead
              rw [HN.out, HHD.out, show d[0] = 48 from UInt8.toNat_inj.1 (by rw [h48]; rfl)]
              simp
            have hc : parseC l = 8 := by
              unfold parseC
              rw [if_neg (by have := HLEN.out; omega), if_pos hbad]
            have HCC := Lib.hid hc
            have HZZ := Lib.hid (parseZ_err hc (by decide))
            clear hc hbad
            go_wp2
            refine bodyPost_ret (v := .tuple #[.agg #[.bool false, .slice none 0 0], .int .i64 8]) (by simp [results, Tryz.results132, go_sem]) rfl ?_
            exact ⟨_, by rw [HCC.out], by rw [HZZ.out]; exact IntRep.zero _, hk⟩
          · have tz2 : ((d[0].toNat : Int) == 48) = false := by rw [beq_eq_false_iff_ne]; omega
            have hgood : badHead l = false := by
              unfold badHead
              rw [HHD.out, HB.out, show decide (some d[0] = some (48 : UInt8)) = false from decide_eq_false (fun e => h48 (by rw [Option.some.inj e]; rfl))]
              simp
              intro e
              have h0 : d.size = 0 := by show d.data.size = 0; rw [e]; rfl
              omega
            clear h48
            have HBH := Lib.hid hgood
            clear hgood
            go_wp2
            have hown := made2 w (.cells #[.bool false, .slice none 0 0] 24) 93
            have hR1 := hR.alloc (.cells #[] 93)
            have hk1 := keep2 w (.cells #[.bool false, .slice none 0 0] 24) (.cells #[] 93)
            clear r0 r1 f0 f1 hR hk
            generalize (w.alloc (.cells #[.bool false, .slice none 0 0] 24)).alloc (.cells #[] 93) = W at *
            have hR := hR1
            have hk := hk1
            clear hR1 hk1
            have r0 := hR.c0
            have r1 := hR.c1
            have f0 := hR.frozen 0
            have f1 := hR.frozen 1
            go_loop [6] (fun i => ∃ k : Nat, k ≤ d.size ∧ i = .int .i64 (k : Nat) ∧ (d.data.toList.take k).all isDg = true) (fun i => d.size - (intOf i).toNat)
            case atStart => exact ⟨0, Nat.zero_le _, rfl, rfl⟩
            case round =>
              obtain ⟨k, hkd, rfl, hall⟩ := hrel
              have HALL := Lib.hid hall
              clear hall
              by_cases hlt : k < d.size
              · have hst : d.data.toList.take (k + 1) = d.data.toList.take k ++ [d[k]] := by
                  rw [List.take_succ_eq_append_getElem (by simpa using hlt)]; rfl
                have HST := Lib.hid hst
                have hub : d[k].toNat < 256 := d[k].toNat_lt
                clear hst
                by_cases hdg : isDg d[k] = true
                · have h1 := isDg_le hdg
                  have HDG := Lib.hid hdg
                  have e1 : decide ((d[k].toNat : Int) < 48) = false := decide_eq_false (by omega)
                  have e2 : decide ((57 : Int) < d[k].toNat) = false := decide_eq_false (by omega)
                  have e3 : ¬ (d[k].toNat : Int) < 48 := by omega
                  have e4 : ¬ (57 : Int) < d[k].toNat := by omega
                  clear h1 hdg hub
                  go_wp2
                  go_round
                  case rel => exact ⟨k + 1, by omega, by go_num, by rw [HST.out, List.all_append, HALL.out]; simpa using HDG.out⟩
                  case measure => simp [intOf]; omega
                · have hc : parseC l = 8 := by
                    unfold parseC
                    rw [if_neg (by have := HLEN.out; omega), if_neg (by rw [HBH.out]; decide), if_pos]
                    rw [HB.out, List.all_eq_false]
                    exact ⟨d[k], List.mem_of_getElem? (i := k) (by simp [hlt]; rfl), hdg⟩
                  have HCC := Lib.hid hc
                  have HZZ := Lib.hid (parseZ_err hc (by decide))
                  have hnd : d[k].toNat < 48 ∨ 57 < d[k].toNat := by unfold isDg at hdg; simp at hdg; omega
                  clear hc hdg hown
                  by_cases hlo : d[k].toNat < 48
                  · have e1 : decide ((d[k].toNat : Int) < 48) = true := decide_eq_true (by omega)
                    have e3 : (d[k].toNat : Int) < 48 := by omega
                    clear hnd hub
                    go_wp2
                    have hR4 := hR.two (.bool false) (.slice none 0 0)
                    refine bodyPost_ret (v := .tuple #[.agg #[.bool false, .slice none 0 0], .int .i64 8]) (by simp [results, Tryz.results132, go_sem, hR4.cell 0, hR4.cell 1]) rfl ?_
                    exact ⟨_, by rw [HCC.out], by rw [HZZ.out]; exact IntRep.zero _, (hk.set (Nat.le_refl _) _).set (Nat.le_refl _) _⟩
                  · have e1 : decide ((d[k].toNat : Int) < 48) = false := decide_eq_false (by omega)
                    have e2 : decide ((57 : Int) < d[k].toNat) = true := decide_eq_true (by omega)
                    have e3 : ¬ (d[k].toNat : Int) < 48 := by omega
                    have e4 : (57 : Int) < d[k].toNat := by omega
                    clear hnd hub
                    go_wp2
                    have hR4 := hR.two (.bool false) (.slice none 0 0)
                    refine bodyPost_ret (v := .tuple #[.agg #[.bool false, .slice none 0 0], .int .i64 8]) (by simp [results, Tryz.results132, go_sem, hR4.cell 0, hR4.cell 1]) rfl ?_
                    exact ⟨_, by rw [HCC.out], by rw [HZZ.out]; exact IntRep.zero _, (hk.set (Nat.le_refl _) _).set (Nat.le_refl _) _⟩
              · obtain rfl : k = d.size := by omega
                have hal : d.data.toList.all isDg = true := by have := HALL.out; rwa [List.take_of_length_le (by simp)] at this
                by_cases hbig : 2000 < d.size
                ·
                  exact absurd hbig (by omega)
                · have e1 : decide ((2000 : Int) < d.size) = false := decide_eq_false (by omega)
                  have e2 : ¬ (2000 : Int) < d.size := by omega
                  have hc : parseC l = 0 := by
                    unfold parseC
                    rw [if_neg (by have := HLEN.out; omega), if_neg (by rw [HBH.out]; decide), if_neg (by rw [HB.out, hal]; decide), if_neg (by rw [HB.out]; simpa using hbig)]
                  have hz : parseZ l = sgn true (valD d.data.toList) := by
                    unfold parseZ
                    rw [if_pos hc, HN.out, HB.out]
                    rfl
                  have HCC := Lib.hid hc
                  have HZZ := Lib.hid hz
                  have HAL := Lib.hid hal
                  clear hc hz hal
                  go_wp2
                  go_loopw [5, 7] (fun g e wr => ∃ (k : Nat) (out : List Nat) (E : Int), out.length = k ∧ 9 * k ≤ d.size + 8 ∧ e = .int .i64 E ∧ E = (d.size : Int) - 9 * (k : Nat) ∧ AllB out ∧ val out = valD (d.data.toList.drop (d.size - 9 * k)) ∧
                      wr.ownsRow (w.heap.size + 1) 93 1 g out.length (u32s out) ∧ Own wr w.heap.size 24 [.bool false, .slice none 0 0] ∧ Keeps w wr) (fun _ e _ => (intOf e).toNat)
                  case atStart => exact ⟨0, [], (d.size : Int), rfl, by omega, rfl, by omega, AllB.nil, by rw [Nat.mul_zero, Nat.sub_zero, List.drop_of_length_le (by simp)]; rfl, hown, hR, hk⟩
                  case round =>
                    clear hown hR hk r0 r1 f0 f1
                    obtain ⟨k, out, E, hol, hkd, rfl, hE, hob, hval, hown, hR, hk⟩ := hrel
                    have HOL := Lib.hid hol
                    have HVAL := Lib.hid hval
                    have hkI : (k : Int) ≤ 300 := by omega
                    have hdI2 : (d.size : Int) ≤ 2000 := by omega
                    clear hol hval
                    by_cases hgo : 9 * k < d.size
                    · by_cases hfull : 9 * k + 9 ≤ d.size
                      · obtain ⟨lo, hlo⟩ : ∃ lo, d.size = 9 * k + 9 + lo := ⟨d.size - (9 * k + 9), by omega⟩
                        obtain rfl : E = (lo : Int) + 9 := by omega
                        have hloI : (lo : Int) ≤ 2000 := by omega
                        have HLO := Lib.hid hlo
                        clear hE hlo hfull hgo
                        go_wp2
                        go_loop [9, 10] (fun gv i => ∃ j : Nat, lo ≤ j ∧ j ≤ (lo + 9) ∧ i = .int .i64 (j : Nat) ∧ gv = .int .u32 (valD ((d.data.toList.drop lo).take (j - lo)) : Nat)) (fun _ i => (lo + 9) - (intOf i).toNat)
                        case atStart => exact ⟨lo, Nat.le_refl _, by omega, rfl, by rw [Nat.sub_self, List.take_zero]; rfl⟩
                        case round =>
                          obtain ⟨j, hj1, hj2, rfl, rfl⟩ := hrel
                          have hjI : (j : Int) ≤ 3000 := by omega
                          by_cases hlt : j < (lo + 9)
                          · have hjd : j < d.size := by have := HLO.out; omega
                            have hdg : isDg d[j] = true := (List.all_eq_true.1 HAL.out) _ (List.mem_of_getElem? (i := j) (by simp [hjd]; rfl))
                            have h12 := isDg_le hdg
                            have hst := take_next d.data.toList lo j hj1 (by simpa using hjd)
                            have hvs := valD_snoc ((d.data.toList.drop lo).take (j - lo)) (d.data.toList[j]'(by simpa using hjd))
                            rw [← hst] at hvs
                            have hvl := part_lt d.data.toList HAL.out lo (j - lo) 8 (by omega)
                            have HVS := Lib.hid hvs
                            clear hvs hst hdg
                            generalize valD ((d.data.toList.drop lo).take (j - lo)) = v at *
                            have vI : (v : Int) ≤ 99999999 := by omega
                            have c1 : (48 : Int) ≤ d[j].toNat := by omega
                            have c2 : (d[j].toNat : Int) ≤ 57 := by omega
                            clear hvl h12
                            go_wp2
                            go_round
                            case rel => exact ⟨j + 1, by omega, by omega, by go_num, by rw [HVS.out, show d.data.toList[j] = d[j] from rfl]; congr 1; omega⟩
                            case measure => simp [intOf]; omega
                          · obtain rfl : (lo + 9) = j := by omega
                            have hn := part_lt d.data.toList HAL.out lo ((lo + 9) - lo) 9 (by omega)
                            have hgs := group_step d.data.toList k lo (lo + 9) (by omega) (by have := HLO.out; simp; omega)
                            have HGS := Lib.hid hgs
                            have HN9 := Lib.hid hn
                            have hol3 : out.length ≤ 300 := by have := HOL.out; omega
                            have hnI : (valD ((d.data.toList.drop lo).take ((lo + 9) - lo)) : Int) < 1000000000 := by omega
                            clear hgs hn
                            obtain ⟨n, hnn⟩ : ∃ n, valD ((d.data.toList.drop lo).take ((lo + 9) - lo)) = n := ⟨_, rfl⟩
                            rw [hnn] at hnI ⊢
                            have HNN := Lib.hid hnn
                            clear hnn
                            go_wp2_with (at_builtin; refine wpList_append_own _ rfl _ _ 22 rfl (w.heap.size + 1) 93 i0 (.int .u32 0) 1 4 Tryz.underlying22 hi hz0 hz1 hz2 rfl (by decide) _ _ _ rfl (hown.alloc _) ⟨wr.heap.size, 0, none⟩ 1 1 [.int .u32 (n : Nat)] rfl rfl (newcell _ _ _) (by simp [Value.oneCell']) (by simp only [maxLen]; omega) (by omega) (by have := hR.lt; simp; omega) ?_; intro v' w1 hown' hgrow _)
                            rw [u32s_snoc out n rfl] at hown'
                            have hk2 : Keeps w w1 := (hk.alloc hk.size _).grown hgrow (by have := hk.size; simp; omega) (fun b e => by have := (hown.lt b e).1; omega)
                            have hR3 := (hR.alloc _).grown hgrow (fun e => by have := (hown.lt _ e.symm).1; omega)
                            go_roundw
                            case rel => exact ⟨k + 1, out ++ [n], (lo : Int), by rw [List.length_append, HOL.out]; rfl, by have := HLO.out; omega, by first | rfl | go_num, by have := HLO.out; omega, hob.append (AllB.single (by omega)),
                              by rw [val_snoc, HOL.out, HVAL.out, show d.size - 9 * k = (lo + 9) by have := HLO.out; omega, show d.size - 9 * (k + 1) = lo by have := HLO.out; omega, HGS.out, HNN.out], by simpa using hown', hR3, hk2⟩
                            case measure => simp [intOf]; omega
                      · obtain ⟨h9, hh9⟩ : ∃ h9, d.size = 9 * k + h9 := ⟨d.size - 9 * k, by omega⟩
                        obtain rfl : E = (h9 : Int) := by omega
                        have h9I : (h9 : Int) ≤ 8 := by omega
                        have h9p : (0 : Int) < (h9 : Int) := by omega
                        have hneg9 : (h9 : Int) - 9 < 0 := by omega
                        have e3 : decide ((h9 : Int) - 9 < 0) = true := decide_eq_true hneg9
                        have HLO := Lib.hid hh9
                        clear hE hh9 hfull hgo
                        go_wp2
                        go_loop [9, 10] (fun gv i => ∃ j : Nat, 0 ≤ j ∧ j ≤ h9 ∧ i = .int .i64 (j : Nat) ∧ gv = .int .u32 (valD ((d.data.toList.drop 0).take (j - 0)) : Nat)) (fun _ i => h9 - (intOf i).toNat)
                        case atStart => exact ⟨0, Nat.le_refl _, by omega, rfl, by rw [Nat.sub_self, List.take_zero]; rfl⟩
                        case round =>
                          obtain ⟨j, hj1, hj2, rfl, rfl⟩ := hrel
                          have hjI : (j : Int) ≤ 3000 := by omega
                          by_cases hlt : j < h9
                          · have hjd : j < d.size := by have := HLO.out; omega
                            have hdg : isDg d[j] = true := (List.all_eq_true.1 HAL.out) _ (List.mem_of_getElem? (i := j) (by simp [hjd]; rfl))
                            have h12 := isDg_le hdg
                            have hst := take_next d.data.toList 0 j hj1 (by simpa using hjd)
                            have hvs := valD_snoc ((d.data.toList.drop 0).take (j - 0)) (d.data.toList[j]'(by simpa using hjd))
                            rw [← hst] at hvs
                            have hvl := part_lt d.data.toList HAL.out 0 (j - 0) 8 (by omega)
                            have HVS := Lib.hid hvs
                            clear hvs hst hdg
                            generalize valD ((d.data.toList.drop 0).take (j - 0)) = v at *
                            have vI : (v : Int) ≤ 99999999 := by omega
                            have c1 : (48 : Int) ≤ d[j].toNat := by omega
                            have c2 : (d[j].toNat : Int) ≤ 57 := by omega
                            clear hvl h12
                            go_wp2
                            go_round
                            case rel => exact ⟨j + 1, by omega, by omega, by go_num, by rw [HVS.out, show d.data.toList[j] = d[j] from rfl]; congr 1; omega⟩
                            case measure => simp [intOf]; omega
                          · obtain rfl : h9 = j := by omega
                            have hn := part_lt d.data.toList HAL.out 0 (h9 - 0) 9 (by omega)
                            have hgs := group_step d.data.toList k 0 h9 (by omega) (by have := HLO.out; simp; omega)
                            have HGS := Lib.hid hgs
                            have HN9 := Lib.hid hn
                            have hol3 : out.length ≤ 300 := by have := HOL.out; omega
                            have hnI : (valD ((d.data.toList.drop 0).take (h9 - 0)) : Int) < 1000000000 := by omega
                            clear hgs hn
                            obtain ⟨n, hnn⟩ : ∃ n, valD ((d.data.toList.drop 0).take (h9 - 0)) = n := ⟨_, rfl⟩
                            rw [hnn] at hnI ⊢
                            have HNN := Lib.hid hnn
                            clear hnn
                            go_wp2_with (at_builtin; refine wpList_append_own _ rfl _ _ 22 rfl (w.heap.size + 1) 93 i0 (.int .u32 0) 1 4 Tryz.underlying22 hi hz0 hz1 hz2 rfl (by decide) _ _ _ rfl (hown.alloc _) ⟨wr.heap.size, 0, none⟩ 1 1 [.int .u32 (n : Nat)] rfl rfl (newcell _ _ _) (by simp [Value.oneCell']) (by simp only [maxLen]; omega) (by omega) (by have := hR.lt; simp; omega) ?_; intro v' w1 hown' hgrow _)
                            rw [u32s_snoc out n rfl] at hown'
                            have hk2 : Keeps w w1 := (hk.alloc hk.size _).grown hgrow (by have := hk.size; simp; omega) (fun b e => by have := (hown.lt b e).1; omega)
                            have hR3 := (hR.alloc _).grown hgrow (fun e => by have := (hown.lt _ e.symm).1; omega)
                            go_roundw
                            case rel => exact ⟨k + 1, out ++ [n], ((h9 : Int) - 9), by rw [List.length_append, HOL.out]; rfl, by have := HLO.out; omega, by first | rfl | go_num, by have := HLO.out; omega, hob.append (AllB.single (by omega)),
                              by rw [val_snoc, HOL.out, HVAL.out, show d.size - 9 * k = h9 by have := HLO.out; omega, show d.size - 9 * (k + 1) = 0 by have := HLO.out; omega, HGS.out, HNN.out], by simpa using hown', hR3, hk2⟩
                            case measure => simp [intOf]; omega
                    · have q1 : ¬ (0 : Int) < E := by omega
                      have q2 : decide ((0 : Int) < E) = false := decide_eq_false q1
                      have hv2 : val out = valD d.data.toList := by rw [HVAL.out, show d.size - 9 * k = 0 by omega, List.drop_zero]
                      have HV2 := Lib.hid hv2
                      have hu := U32.of_own hown
                      clear hE hgo hv2
                      go_wp2_with fail
                      refine (rmade_u true _ out _ hu hob (by rw [HOL.out]; omega)).mono ?_
                      rintro e w5 ⟨V5, rfl, hr5, hk5⟩
                      obtain ⟨A5, n5, c5, rfl, -⟩ := hr5.open_
                      have hR5 := hR.below hk5
                      have r0 := hR5.c0
                      have r1 := hR5.c1
                      have f0 := hR5.frozen 0
                      have f1 := hR5.frozen 1
                      rw [HV2.out] at hr5 ⊢
                      generalize decide (sgn true (valD d.data.toList) < 0) = b5 at *
                      go_wp2
                      have hR4 := hR5.two (.bool b5) (.slice A5 n5 c5)
                      refine bodyPost_ret (v := .tuple #[.agg #[.bool b5, .slice A5 n5 c5], .int .i64 0]) (by simp [results, Tryz.results132, go_sem, hR4.cell 0, hR4.cell 1]) rfl ?_
                      exact ⟨_, by rw [HCC.out], by rw [HZZ.out]; exact hr5.two hR5 rfl rfl rfl, ((hk.trans' hk5).set (Nat.le_refl _) _).set (Nat.le_refl _) _⟩
      · have hb : ((s[0].toNat : Int) == 45) = false := by rw [beq_eq_false_iff_ne]; omega
        have h45 : s[0] ≠ 45 := fun e => hneg (by rw [e]; rfl)
        have HN := Lib.hid (show negOf l = false by unfold negOf; rw [HH.out]; simpa using h45)
        have hbo : bodyOf l = s.data.toList := by
          unfold bodyOf
          rw [HH.out, if_neg (by simpa using h45), ← HL.out]
        have HB := Lib.hid hbo
        clear hneg h45 hbo
        go_enter Tryz.func132, Tryz.ntmps132
        go_upto_region 6 with fail
        obtain ⟨d, rfl⟩ : ∃ d : ByteArray, d = s := ⟨_, rfl⟩
        have hdI : (d.size : Int) ≤ 2001 := hsI
        by_cases hd0 : d.size = 0
        ·
          exact absurd hd0 (by omega)
        · have tz1 : ((d.size : Int) == 0) = false := by rw [beq_eq_false_iff_ne]; omega
          have hdp : 0 < d.size := by omega
          have hdpI : (0 : Int) < d.size := by omega
          have hhd : (bodyOf l).head? = some d[0] := by rw [HB.out, List.head?_eq_getElem?]; simp [hdp]; rfl
          have HHD := Lib.hid hhd
          clear hhd hd0
          by_cases h48 : d[0].toNat = 48
          · have tz2 : ((d[0].toNat : Int) == 48) = true := by rw [h48]; rfl
            by_cases h1 : 1 < d.size
            · have hbad : badHead l = true := by
                unfold badHead
                rw [HHD.out, show d[0] = 48 from UInt8.toNat_inj.1 (by rw [h48]; rfl), HB.out, show d.data.toList.length = d.size by simp]
                simp [h1]
              have e1 : decide ((1 : Int) < d.size) = true := decide_eq_true (by omega)
              have hc : parseC l = 8 := by
                unfold parseC
                rw [if_neg (by have := HLEN.out; omega), if_pos hbad]
              have HCC := Lib.hid hc
              have HZZ := Lib.hid (parseZ_err hc (by decide))
              clear hc hbad
              go_wp2
              refine bodyPost_ret (v := .tuple #[.agg #[.bool false, .slice none 0 0], .int .i64 8]) (by simp [results, Tryz.results132, go_sem]) rfl ?_
              exact ⟨_, by rw [HCC.out], by rw [HZZ.out]; exact IntRep.zero _, hk⟩
            · have hgood : badHead l = false := by
                unfold badHead
                rw [HN.out, HB.out, show d.data.toList.length = d.size by simp, decide_eq_false h1]
                simp
                intro e
                have h0 : d.size = 0 := by show d.data.size = 0; rw [e]; rfl
                omega
              have e1 : decide ((1 : Int) < d.size) = false := decide_eq_false (by omega)
              have HBH := Lib.hid hgood
              clear hgood
              go_wp2
              have hown := made2 w (.cells #[.bool false, .slice none 0 0] 24) 93
              have hR1 := hR.alloc (.cells #[] 93)
              have hk1 := keep2 w (.cells #[.bool false, .slice none 0 0] 24) (.cells #[] 93)
              clear r0 r1 f0 f1 hR hk
              generalize (w.alloc (.cells #[.bool false, .slice none 0 0] 24)).alloc (.cells #[] 93) = W at *
              have hR := hR1
              have hk := hk1
              clear hR1 hk1
              have r0 := hR.c0
              have r1 := hR.c1
              have f0 := hR.frozen 0
              have f1 := hR.frozen 1
              go_loop [6] (fun i => ∃ k : Nat, k ≤ d.size ∧ i = .int .i64 (k : Nat) ∧ (d.data.toList.take k).all isDg = true) (fun i => d.size - (intOf i).toNat)
              case atStart => exact ⟨0, Nat.zero_le _, rfl, rfl⟩
              case round =>
                obtain ⟨k, hkd, rfl, hall⟩ := hrel
                have HALL := Lib.hid hall
                clear hall
                by_cases hlt : k < d.size
                · have hst : d.data.toList.take (k + 1) = d.data.toList.take k ++ [d[k]] := by
                    rw [List.take_succ_eq_append_getElem (by simpa using hlt)]; rfl
                  have HST := Lib.hid hst
                  have hub : d[k].toNat < 256 := d[k].toNat_lt
                  clear hst
                  by_cases hdg : isDg d[k] = true
                  · have h1 := isDg_le hdg
                    have HDG := Lib.hid hdg
                    have e1 : decide ((d[k].toNat : Int) < 48) = false := decide_eq_false (by omega)
                    have e2 : decide ((57 : Int) < d[k].toNat) = false := decide_eq_false (by omega)
                    have e3 : ¬ (d[k].toNat : Int) < 48 := by omega
                    have e4 : ¬ (57 : Int) < d[k].toNat := by omega
                    clear h1 hdg hub
                    go_wp2
                    go_round
                    case rel => exact ⟨k + 1, by omega, by go_num, by rw [HST.out, List.all_append, HALL.out]; simpa using HDG.out⟩
                    case measure => simp [intOf]; omega
                  · have hc : parseC l = 8 := by
                      unfold parseC
                      rw [if_neg (by have := HLEN.out; omega), if_neg (by rw [HBH.out]; decide), if_pos]
                      rw [HB.out, List.all_eq_false]
                      exact ⟨d[k], List.mem_of_getElem? (i := k) (by simp [hlt]; rfl), hdg⟩
                    have HCC := Lib.hid hc
                    have HZZ := Lib.hid (parseZ_err hc (by decide))
                    have hnd : d[k].toNat < 48 ∨ 57 < d[k].toNat := by unfold isDg at hdg; simp at hdg; omega
                    clear hc hdg hown
                    by_cases hlo : d[k].toNat < 48
                    · have e1 : decide ((d[k].toNat : Int) < 48) = true := decide_eq_true (by omega)
                      have e3 : (d[k].toNat : Int) < 48 := by omega
                      clear hnd hub
                      go_wp2
                      have hR4 := hR.two (.bool false) (.slice none 0 0)
                      refine bodyPost_ret (v := .tuple #[.agg #[.bool false, .slice none 0 0], .int .i64 8]) (by simp [results, Tryz.results132, go_sem, hR4.cell 0, hR4.cell 1]) rfl ?_
                      exact ⟨_, by rw [HCC.out], by rw [HZZ.out]; exact IntRep.zero _, (hk.set (Nat.le_refl _) _).set (Nat.le_refl _) _⟩
                    · have e1 : decide ((d[k].toNat : Int) < 48) = false := decide_eq_false (by omega)
                      have e2 : decide ((57 : Int) < d[k].toNat) = true := decide_eq_true (by omega)
                      have e3 : ¬ (d[k].toNat : Int) < 48 := by omega
                      have e4 : (57 : Int) < d[k].toNat := by omega
                      clear hnd hub
                      go_wp2
                      have hR4 := hR.two (.bool false) (.slice none 0 0)
                      refine bodyPost_ret (v := .tuple #[.agg #[.bool false, .slice none 0 0], .int .i64 8]) (by simp [results, Tryz.results132, go_sem, hR4.cell 0, hR4.cell 1]) rfl ?_
                      exact ⟨_, by rw [HCC.out], by rw [HZZ.out]; exact IntRep.zero _, (hk.set (Nat.le_refl _) _).set (Nat.le_refl _) _⟩
                · obtain rfl : k = d.size := by omega
                  have hal : d.data.toList.all isDg = true := by have := HALL.out; rwa [List.take_of_length_le (by simp)] at this
                  by_cases hbig : 2000 < d.size
                  ·
                    exact absurd hbig (by omega)
                  · have e1 : decide ((2000 : Int) < d.size) = false := decide_eq_false (by omega)
                    have e2 : ¬ (2000 : Int) < d.size := by omega
                    have hc : parseC l = 0 := by
                      unfold parseC
                      rw [if_neg (by have := HLEN.out; omega), if_neg (by rw [HBH.out]; decide), if_neg (by rw [HB.out, hal]; decide), if_neg (by rw [HB.out]; simpa using hbig)]
                    have hz : parseZ l = sgn false (valD d.data.toList) := by
                      unfold parseZ
                      rw [if_pos hc, HN.out, HB.out]
                      rfl
                    have HCC := Lib.hid hc
                    have HZZ := Lib.hid hz
                    have HAL := Lib.hid hal
                    clear hc hz hal
                    go_wp2
                    go_loopw [5, 7] (fun g e wr => ∃ (k : Nat) (out : List Nat) (E : Int), out.length = k ∧ 9 * k ≤ d.size + 8 ∧ e = .int .i64 E ∧ E = (d.size : Int) - 9 * (k : Nat) ∧ AllB out ∧ val out = valD (d.data.toList.drop (d.size - 9 * k)) ∧
                        wr.ownsRow (w.heap.size + 1) 93 1 g out.length (u32s out) ∧ Own wr w.heap.size 24 [.bool false, .slice none 0 0] ∧ Keeps w wr) (fun _ e _ => (intOf e).toNat)
                    case atStart => exact ⟨0, [], (d.size : Int), rfl, by omega, rfl, by omega, AllB.nil, by rw [Nat.mul_zero, Nat.sub_zero, List.drop_of_length_le (by simp)]; rfl, hown, hR, hk⟩
                    case round =>
                      clear hown hR hk r0 r1 f0 f1
                      obtain ⟨k, out, E, hol, hkd, rfl, hE, hob, hval, hown, hR, hk⟩ := hrel
                      have HOL := Lib.hid hol
                      have HVAL := Lib.hid hval
                      have hkI : (k : Int) ≤ 300 := by omega
                      have hdI2 : (d.size : Int) ≤ 2000 := by omega
                      clear hol hval
                      by_cases hgo : 9 * k < d.size
                      · by_cases hfull : 9 * k + 9 ≤ d.size
                        · obtain ⟨lo, hlo⟩ : ∃ lo, d.size = 9 * k + 9 + lo := ⟨d.size - (9 * k + 9), by omega⟩
                          obtain rfl : E = (lo : Int) + 9 := by omega
                          have hloI : (lo : Int) ≤ 2000 := by omega
                          have HLO := Lib.hid hlo
                          clear hE hlo hfull hgo
                          go_wp2
                          go_loop [9, 10] (fun gv i => ∃ j : Nat, lo ≤ j ∧ j ≤ (lo + 9) ∧ i = .int .i64 (j : Nat) ∧ gv = .int .u32 (valD ((d.data.toList.drop lo).take (j - lo)) : Nat)) (fun _ i => (lo + 9) - (intOf i).toNat)
                          case atStart => exact ⟨lo, Nat.le_refl _, by omega, rfl, by rw [Nat.sub_self, List.take_zero]; rfl⟩
                          case round =>
                            obtain ⟨j, hj1, hj2, rfl, rfl⟩ := hrel
                            have hjI : (j : Int) ≤ 3000 := by omega
                            by_cases hlt : j < (lo + 9)
                            · have hjd : j < d.size := by have := HLO.out; omega
                              have hdg : isDg d[j] = true := (List.all_eq_true.1 HAL.out) _ (List.mem_of_getElem? (i := j) (by simp [hjd]; rfl))
                              have h12 := isDg_le hdg
                              have hst := take_next d.data.toList lo j hj1 (by simpa using hjd)
                              have hvs := valD_snoc ((d.data.toList.drop lo).take (j - lo)) (d.data.toList[j]'(by simpa using hjd))
                              rw [← hst] at hvs
                              have hvl := part_lt d.data.toList HAL.out lo (j - lo) 8 (by omega)
                              have HVS := Lib.hid hvs
                              clear hvs hst hdg
                              generalize valD ((d.data.toList.drop lo).take (j - lo)) = v at *
                              have vI : (v : Int) ≤ 99999999 := by omega
                              have c1 : (48 : Int) ≤ d[j].toNat := by omega
                              have c2 : (d[j].toNat : Int) ≤ 57 := by omega
                              clear hvl h12
                              go_wp2
                              go_round
                              case rel => exact ⟨j + 1, by omega, by omega, by go_num, by rw [HVS.out, show d.data.toList[j] = d[j] from rfl]; congr 1; omega⟩
                              case measure => simp [intOf]; omega
                            · obtain rfl : (lo + 9) = j := by omega
                              have hn := part_lt d.data.toList HAL.out lo ((lo + 9) - lo) 9 (by omega)
                              have hgs := group_step d.data.toList k lo (lo + 9) (by omega) (by have := HLO.out; simp; omega)
                              have HGS := Lib.hid hgs
                              have HN9 := Lib.hid hn
                              have hol3 : out.length ≤ 300 := by have := HOL.out; omega
                              have hnI : (valD ((d.data.toList.drop lo).take ((lo + 9) - lo)) : Int) < 1000000000 := by omega
                              clear hgs hn
                              obtain ⟨n, hnn⟩ : ∃ n, valD ((d.data.toList.drop lo).take ((lo + 9) - lo)) = n := ⟨_, rfl⟩
                              rw [hnn] at hnI ⊢
                              have HNN := Lib.hid hnn
                              clear hnn
                              go_wp2_with (at_builtin; refine wpList_append_own _ rfl _ _ 22 rfl (w.heap.size + 1) 93 i0 (.int .u32 0) 1 4 Tryz.underlying22 hi hz0 hz1 hz2 rfl (by decide) _ _ _ rfl (hown.alloc _) ⟨wr.heap.size, 0, none⟩ 1 1 [.int .u32 (n : Nat)] rfl rfl (newcell _ _ _) (by simp [Value.oneCell']) (by simp only [maxLen]; omega) (by omega) (by have := hR.lt; simp; omega) ?_; intro v' w1 hown' hgrow _)
                              rw [u32s_snoc out n rfl] at hown'
                              have hk2 : Keeps w w1 := (hk.alloc hk.size _).grown hgrow (by have := hk.size; simp; omega) (fun b e => by have := (hown.lt b e).1; omega)
                              have hR3 := (hR.alloc _).grown hgrow (fun e => by have := (hown.lt _ e.symm).1; omega)
                              go_roundw
                              case rel => exact ⟨k + 1, out ++ [n], (lo : Int), by rw [List.length_append, HOL.out]; rfl, by have := HLO.out; omega, by first | rfl | go_num, by have := HLO.out; omega, hob.append (AllB.single (by omega)),
                                by rw [val_snoc, HOL.out, HVAL.out, show d.size - 9 * k = (lo + 9) by have := HLO.out; omega, show d.size - 9 * (k + 1) = lo by have := HLO.out; omega, HGS.out, HNN.out], by simpa using hown', hR3, hk2⟩
                              case measure => simp [intOf]; omega
                        · obtain ⟨h9, hh9⟩ : ∃ h9, d.size = 9 * k + h9 := ⟨d.size - 9 * k, by omega⟩
                          obtain rfl : E = (h9 : Int) := by omega
                          have h9I : (h9 : Int) ≤ 8 := by omega
                          have h9p : (0 : Int) < (h9 : Int) := by omega
                          have hneg9 : (h9 : Int) - 9 < 0 := by omega
                          have e3 : decide ((h9 : Int) - 9 < 0) = true := decide_eq_true hneg9
                          have HLO := Lib.hid hh9
                          clear hE hh9 hfull hgo
                          go_wp2
                          go_loop [9, 10] (fun gv i => ∃ j : Nat, 0 ≤ j ∧ j ≤ h9 ∧ i = .int .i64 (j : Nat) ∧ gv = .int .u32 (valD ((d.data.toList.drop 0).take (j - 0)) : Nat)) (fun _ i => h9 - (intOf i).toNat)
                          case atStart => exact ⟨0, Nat.le_refl _, by omega, rfl, by rw [Nat.sub_self, List.take_zero]; rfl⟩
                          case round =>
                            obtain ⟨j, hj1, hj2, rfl, rfl⟩ := hrel
                            have hjI : (j : Int) ≤ 3000 := by omega
                            by_cases hlt : j < h9
                            · have hjd : j < d.size := by have := HLO.out; omega
                              have hdg : isDg d[j] = true := (List.all_eq_true.1 HAL.out) _ (List.mem_of_getElem? (i := j) (by simp [hjd]; rfl))
                              have h12 := isDg_le hdg
                              have hst := take_next d.data.toList 0 j hj1 (by simpa using hjd)
                              have hvs := valD_snoc ((d.data.toList.drop 0).take (j - 0)) (d.data.toList[j]'(by simpa using hjd))
                              rw [← hst] at hvs
                              have hvl := part_lt d.data.toList HAL.out 0 (j - 0) 8 (by omega)
                              have HVS := Lib.hid hvs
                              clear hvs hst hdg
                              generalize valD ((d.data.toList.drop 0).take (j - 0)) = v at *
                              have vI : (v : Int) ≤ 99999999 := by omega
                              have c1 : (48 : Int) ≤ d[j].toNat := by omega
                              have c2 : (d[j].toNat : Int) ≤ 57 := by omega
                              clear hvl h12
                              go_wp2
                              go_round
                              case rel => exact ⟨j + 1, by omega, by omega, by go_num, by rw [HVS.out, show d.data.toList[j] = d[j] from rfl]; congr 1; omega⟩
                              case measure => simp [intOf]; omega
                            · obtain rfl : h9 = j := by omega
                              have hn := part_lt d.data.toList HAL.out 0 (h9 - 0) 9 (by omega)
                              have hgs := group_step d.data.toList k 0 h9 (by omega) (by have := HLO.out; simp; omega)
                              have HGS := Lib.hid hgs
                              have HN9 := Lib.hid hn
                              have hol3 : out.length ≤ 300 := by have := HOL.out; omega
                              have hnI : (valD ((d.data.toList.drop 0).take (h9 - 0)) : Int) < 1000000000 := by omega
                              clear hgs hn
                              obtain ⟨n, hnn⟩ : ∃ n, valD ((d.data.toList.drop 0).take (h9 - 0)) = n := ⟨_, rfl⟩
                              rw [hnn] at hnI ⊢
                              have HNN := Lib.hid hnn
                              clear hnn
                              go_wp2_with (at_builtin; refine wpList_append_own _ rfl _ _ 22 rfl (w.heap.size + 1) 93 i0 (.int .u32 0) 1 4 Tryz.underlying22 hi hz0 hz1 hz2 rfl (by decide) _ _ _ rfl (hown.alloc _) ⟨wr.heap.size, 0, none⟩ 1 1 [.int .u32 (n : Nat)] rfl rfl (newcell _ _ _) (by simp [Value.oneCell']) (by simp only [maxLen]; omega) (by omega) (by have := hR.lt; simp; omega) ?_; intro v' w1 hown' hgrow _)
                              rw [u32s_snoc out n rfl] at hown'
                              have hk2 : Keeps w w1 := (hk.alloc hk.size _).grown hgrow (by have := hk.size; simp; omega) (fun b e => by have := (hown.lt b e).1; omega)
                              have hR3 := (hR.alloc _).grown hgrow (fun e => by have := (hown.lt _ e.symm).1; omega)
                              go_roundw
                              case rel => exact ⟨k + 1, out ++ [n], ((h9 : Int) - 9), by rw [List.length_append, HOL.out]; rfl, by have := HLO.out; omega, by first | rfl | go_num, by have := HLO.out; omega, hob.append (AllB.single (by omega)),
                                by rw [val_snoc, HOL.out, HVAL.out, show d.size - 9 * k = h9 by have := HLO.out; omega, show d.size - 9 * (k + 1) = 0 by have := HLO.out; omega, HGS.out, HNN.out], by simpa using hown', hR3, hk2⟩
                              case measure => simp [intOf]; omega
                      · have q1 : ¬ (0 : Int) < E := by omega
                        have q2 : decide ((0 : Int) < E) = false := decide_eq_false q1
                        have hv2 : val out = valD d.data.toList := by rw [HVAL.out, show d.size - 9 * k = 0 by omega, List.drop_zero]
                        have HV2 := Lib.hid hv2
                        have hu := U32.of_own hown
                        clear hE hgo hv2
                        go_wp2_with fail
                        refine (rmade_u false _ out _ hu hob (by rw [HOL.out]; omega)).mono ?_
                        rintro e w5 ⟨V5, rfl, hr5, hk5⟩
                        obtain ⟨A5, n5, c5, rfl, -⟩ := hr5.open_
                        have hR5 := hR.below hk5
                        have r0 := hR5.c0
                        have r1 := hR5.c1
                        have f0 := hR5.frozen 0
                        have f1 := hR5.frozen 1
                        rw [HV2.out] at hr5 ⊢
                        generalize decide (sgn false (valD d.data.toList) < 0) = b5 at *
                        go_wp2
                        have hR4 := hR5.two (.bool b5) (.slice A5 n5 c5)
                        refine bodyPost_ret (v := .tuple #[.agg #[.bool b5, .slice A5 n5 c5], .int .i64 0]) (by simp [results, Tryz.results132, go_sem, hR4.cell 0, hR4.cell 1]) rfl ?_
                        exact ⟨_, by rw [HCC.out], by rw [HZZ.out]; exact hr5.two hR5 rfl rfl rfl, ((hk.trans' hk5).set (Nat.le_refl _) _).set (Nat.le_refl _) _⟩
          · have tz2 : ((d[0].toNat : Int) == 48) = false := by rw [beq_eq_false_iff_ne]; omega
            have hgood : badHead l = false := by
              unfold badHead
              rw [HHD.out, HB.out, show decide (some d[0] = some (48 : UInt8)) = false from decide_eq_false (fun e => h48 (by rw [Option.some.inj e]; rfl))]
              simp
              intro e
              have h0 : d.size = 0 := by show d.data.size = 0; rw [e]; rfl
              omega
            clear h48
            have HBH := Lib.hid hgood
            clear hgood
            go_wp2
            have hown := made2 w (.cells #[.bool false, .slice none 0 0] 24) 93
            have hR1 := hR.alloc (.cells #[] 93)
            have hk1 := keep2 w (.cells #[.bool false, .slice none 0 0] 24) (.cells #[] 93)
            clear r0 r1 f0 f1 hR hk
            generalize (w.alloc (.cells #[.bool false, .slice none 0 0] 24)).alloc (.cells #[] 93) = W at *
            have hR := hR1
            have hk := hk1
            clear hR1 hk1
            have r0 := hR.c0
            have r1 := hR.c1
            have f0 := hR.frozen 0
            have f1 := hR.frozen 1
            go_loop [6] (fun i => ∃ k : Nat, k ≤ d.size ∧ i = .int .i64 (k : Nat) ∧ (d.data.toList.take k).all isDg = true) (fun i => d.size - (intOf i).toNat)
            case atStart => exact ⟨0, Nat.zero_le _, rfl, rfl⟩
            case round =>
              obtain ⟨k, hkd, rfl, hall⟩ := hrel
              have HALL := Lib.hid hall
              clear hall
              by_cases hlt : k < d.size
              · have hst : d.data.toList.take (k + 1) = d.data.toList.take k ++ [d[k]] := by
                  rw [List.take_succ_eq_append_getElem (by simpa using hlt)]; rfl
                have HST := Lib.hid hst
                have hub : d[k].toNat < 256 := d[k].toNat_lt
                clear hst
                by_cases hdg : isDg d[k] = true
                · have h1 := isDg_le hdg
                  have HDG := Lib.hid hdg
                  have e1 : decide ((d[k].toNat : Int) < 48) = false := decide_eq_false (by omega)
                  have e2 : decide ((57 : Int) < d[k].toNat) = false := decide_eq_false (by omega)
                  have e3 : ¬ (d[k].toNat : Int) < 48 := by omega
                  have e4 : ¬ (57 : Int) < d[k].toNat := by omega
                  clear h1 hdg hub
                  go_wp2
                  go_round
                  case rel => exact ⟨k + 1, by omega, by go_num, by rw [HST.out, List.all_append, HALL.out]; simpa using HDG.out⟩
                  case measure => simp [intOf]; omega
                · have hc : parseC l = 8 := by
                    unfold parseC
                    rw [if_neg (by have := HLEN.out; omega), if_neg (by rw [HBH.out]; decide), if_pos]
                    rw [HB.out, List.all_eq_false]
                    exact ⟨d[k], List.mem_of_getElem? (i := k) (by simp [hlt]; rfl), hdg⟩
                  have HCC := Lib.hid hc
                  have HZZ := Lib.hid (parseZ_err hc (by decide))
                  have hnd : d[k].toNat < 48 ∨ 57 < d[k].toNat := by unfold isDg at hdg; simp at hdg; omega
                  clear hc hdg hown
                  by_cases hlo : d[k].toNat < 48
                  · have e1 : decide ((d[k].toNat : Int) < 48) = true := decide_eq_true (by omega)
                    have e3 : (d[k].toNat : Int) < 48 := by omega
                    clear hnd hub
                    go_wp2
                    have hR4 := hR.two (.bool false) (.slice none 0 0)
                    refine bodyPost_ret (v := .tuple #[.agg #[.bool false, .slice none 0 0], .int .i64 8]) (by simp [results, Tryz.results132, go_sem, hR4.cell 0, hR4.cell 1]) rfl ?_
                    exact ⟨_, by rw [HCC.out], by rw [HZZ.out]; exact IntRep.zero _, (hk.set (Nat.le_refl _) _).set (Nat.le_refl _) _⟩
                  · have e1 : decide ((d[k].toNat : Int) < 48) = false := decide_eq_false (by omega)
                    have e2 : decide ((57 : Int) < d[k].toNat) = true := decide_eq_true (by omega)
                    have e3 : ¬ (d[k].toNat : Int) < 48 := by omega
                    have e4 : (57 : Int) < d[k].toNat := by omega
                    clear hnd hub
                    go_wp2
                    have hR4 := hR.two (.bool false) (.slice none 0 0)
                    refine bodyPost_ret (v := .tuple #[.agg #[.bool false, .slice none 0 0], .int .i64 8]) (by simp [results, Tryz.results132, go_sem, hR4.cell 0, hR4.cell 1]) rfl ?_
                    exact ⟨_, by rw [HCC.out], by rw [HZZ.out]; exact IntRep.zero _, (hk.set (Nat.le_refl _) _).set (Nat.le_refl _) _⟩
              · obtain rfl : k = d.size := by omega
                have hal : d.data.toList.all isDg = true := by have := HALL.out; rwa [List.take_of_length_le (by simp)] at this
                by_cases hbig : 2000 < d.size
                ·
                  have e1 : decide ((2000 : Int) < d.size) = true := decide_eq_true (by omega)
                  have e2 : (2000 : Int) < d.size := by omega
                  have hc : parseC l = 9 := by
                    unfold parseC
                    rw [if_neg (by have := HLEN.out; omega), if_neg (by rw [HBH.out]; decide), if_neg (by rw [HB.out, hal]; decide), if_pos (by rw [HB.out]; simpa using hbig)]
                  have HCC := Lib.hid hc
                  have HZZ := Lib.hid (parseZ_err hc (by decide))
                  clear hc hal hown
                  go_wp2
                  have hR4 := hR.two (.bool false) (.slice none 0 0)
                  refine bodyPost_ret (v := .tuple #[.agg #[.bool false, .slice none 0 0], .int .i64 9]) (by simp [results, Tryz.results132, go_sem, hR4.cell 0, hR4.cell 1]) rfl ?_
                  exact ⟨_, by rw [HCC.out], by rw [HZZ.out]; exact IntRep.zero _, (hk.set (Nat.le_refl _) _).set (Nat.le_refl _) _⟩
                · have e1 : decide ((2000 : Int) < d.size) = false := decide_eq_false (by omega)
                  have e2 : ¬ (2000 : Int) < d.size := by omega
                  have hc : parseC l = 0 := by
                    unfold parseC
                    rw [if_neg (by have := HLEN.out; omega), if_neg (by rw [HBH.out]; decide), if_neg (by rw [HB.out, hal]; decide), if_neg (by rw [HB.out]; simpa using hbig)]
                  have hz : parseZ l = sgn false (valD d.data.toList) := by
                    unfold parseZ
                    rw [if_pos hc, HN.out, HB.out]
                    rfl
                  have HCC := Lib.hid hc
                  have HZZ := Lib.hid hz
                  have HAL := Lib.hid hal
                  clear hc hz hal
                  go_wp2
                  go_loopw [5, 7] (fun g e wr => ∃ (k : Nat) (out : List Nat) (E : Int), out.length = k ∧ 9 * k ≤ d.size + 8 ∧ e = .int .i64 E ∧ E = (d.size : Int) - 9 * (k : Nat) ∧ AllB out ∧ val out = valD (d.data.toList.drop (d.size - 9 * k)) ∧
                      wr.ownsRow (w.heap.size + 1) 93 1 g out.length (u32s out) ∧ Own wr w.heap.size 24 [.bool false, .slice none 0 0] ∧ Keeps w wr) (fun _ e _ => (intOf e).toNat)
                  case atStart => exact ⟨0, [], (d.size : Int), rfl, by omega, rfl, by omega, AllB.nil, by rw [Nat.mul_zero, Nat.sub_zero, List.drop_of_length_le (by simp)]; rfl, hown, hR, hk⟩
                  case round =>
                    clear hown hR hk r0 r1 f0 f1
                    obtain ⟨k, out, E, hol, hkd, rfl, hE, hob, hval, hown, hR, hk⟩ := hrel
                    have HOL := Lib.hid hol
                    have HVAL := Lib.hid hval
                    have hkI : (k : Int) ≤ 300 := by omega
                    have hdI2 : (d.size : Int) ≤ 2000 := by omega
                    clear hol hval
                    by_cases hgo : 9 * k < d.size
                    · by_cases hfull : 9 * k + 9 ≤ d.size
                      · obtain ⟨lo, hlo⟩ : ∃ lo, d.size = 9 * k + 9 + lo := ⟨d.size - (9 * k + 9), by omega⟩
                        obtain rfl : E = (lo : Int) + 9 := by omega
                        have hloI : (lo : Int) ≤ 2000 := by omega
                        have HLO := Lib.hid hlo
                        clear hE hlo hfull hgo
                        go_wp2
                        go_loop [9, 10] (fun gv i => ∃ j : Nat, lo ≤ j ∧ j ≤ (lo + 9) ∧ i = .int .i64 (j : Nat) ∧ gv = .int .u32 (valD ((d.data.toList.drop lo).take (j - lo)) : Nat)) (fun _ i => (lo + 9) - (intOf i).toNat)
                        case atStart => exact ⟨lo, Nat.le_refl _, by omega, rfl, by rw [Nat.sub_self, List.take_zero]; rfl⟩
                        case round =>
                          obtain ⟨j, hj1, hj2, rfl, rfl⟩ := hrel
                          have hjI : (j : Int) ≤ 3000 := by omega
                          by_cases hlt : j < (lo + 9)
                          · have hjd : j < d.size := by have := HLO.out; omega
                            have hdg : isDg d[j] = true := (List.all_eq_true.1 HAL.out) _ (List.mem_of_getElem? (i := j) (by simp [hjd]; rfl))
                            have h12 := isDg_le hdg
                            have hst := take_next d.data.toList lo j hj1 (by simpa using hjd)
                            have hvs := valD_snoc ((d.data.toList.drop lo).take (j - lo)) (d.data.toList[j]'(by simpa using hjd))
                            rw [← hst] at hvs
                            have hvl := part_lt d.data.toList HAL.out lo (j - lo) 8 (by omega)
                            have HVS := Lib.hid hvs
                            clear hvs hst hdg
                            generalize valD ((d.data.toList.drop lo).take (j - lo)) = v at *
                            have vI : (v : Int) ≤ 99999999 := by omega
                            have c1 : (48 : Int) ≤ d[j].toNat := by omega
                            have c2 : (d[j].toNat : Int) ≤ 57 := by omega
                            clear hvl h12
                            go_wp2
                            go_round
                            case rel => exact ⟨j + 1, by omega, by omega, by go_num, by rw [HVS.out, show d.data.toList[j] = d[j] from rfl]; congr 1; omega⟩
                            case measure => simp [intOf]; omega
                          · obtain rfl : (lo + 9) = j := by omega
                            have hn := part_lt d.data.toList HAL.out lo ((lo + 9) - lo) 9 (by omega)
                            have hgs := group_step d.data.toList k lo (lo + 9) (by omega) (by have := HLO.out; simp; omega)
                            have HGS := Lib.hid hgs
                            have HN9 := Lib.hid hn
                            have hol3 : out.length ≤ 300 := by have := HOL.out; omega
                            have hnI : (valD ((d.data.toList.drop lo).take ((lo + 9) - lo)) : Int) < 1000000000 := by omega
                            clear hgs hn
                            obtain ⟨n, hnn⟩ : ∃ n, valD ((d.data.toList.drop lo).take ((lo + 9) - lo)) = n := ⟨_, rfl⟩
                            rw [hnn] at hnI ⊢
                            have HNN := Lib.hid hnn
                            clear hnn
                            go_wp2_with (at_builtin; refine wpList_append_own _ rfl _ _ 22 rfl (w.heap.size + 1) 93 i0 (.int .u32 0) 1 4 Tryz.underlying22 hi hz0 hz1 hz2 rfl (by decide) _ _ _ rfl (hown.alloc _) ⟨wr.heap.size, 0, none⟩ 1 1 [.int .u32 (n : Nat)] rfl rfl (newcell _ _ _) (by simp [Value.oneCell']) (by simp only [maxLen]; omega) (by omega) (by have := hR.lt; simp; omega) ?_; intro v' w1 hown' hgrow _)
                            rw [u32s_snoc out n rfl] at hown'
                            have hk2 : Keeps w w1 := (hk.alloc hk.size _).grown hgrow (by have := hk.size; simp; omega) (fun b e => by have := (hown.lt b e).1; omega)
                            have hR3 := (hR.alloc _).grown hgrow (fun e => by have := (hown.lt _ e.symm).1; omega)
                            go_roundw
                            case rel => exact ⟨k + 1, out ++ [n], (lo : Int), by rw [List.length_append, HOL.out]; rfl, by have := HLO.out; omega, by first | rfl | go_num, by have := HLO.out; omega, hob.append (AllB.single (by omega)),
                              by rw [val_snoc, HOL.out, HVAL.out, show d.size - 9 * k = (lo + 9) by have := HLO.out; omega, show d.size - 9 * (k + 1) = lo by have := HLO.out; omega, HGS.out, HNN.out], by simpa using hown', hR3, hk2⟩
                            case measure => simp [intOf]; omega
                      · obtain ⟨h9, hh9⟩ : ∃ h9, d.size = 9 * k + h9 := ⟨d.size - 9 * k, by omega⟩
                        obtain rfl : E = (h9 : Int) := by omega
                        have h9I : (h9 : Int) ≤ 8 := by omega
                        have h9p : (0 : Int) < (h9 : Int) := by omega
                        have hneg9 : (h9 : Int) - 9 < 0 := by omega
                        have e3 : decide ((h9 : Int) - 9 < 0) = true := decide_eq_true hneg9
                        have HLO := Lib.hid hh9
                        clear hE hh9 hfull hgo
                        go_wp2
                        go_loop [9, 10] (fun gv i => ∃ j : Nat, 0 ≤ j ∧ j ≤ h9 ∧ i = .int .i64 (j : Nat) ∧ gv = .int .u32 (valD ((d.data.toList.drop 0).take (j - 0)) : Nat)) (fun _ i => h9 - (intOf i).toNat)
                        case atStart => exact ⟨0, Nat.le_refl _, by omega, rfl, by rw [Nat.sub_self, List.take_zero]; rfl⟩
                        case round =>
                          obtain ⟨j, hj1, hj2, rfl, rfl⟩ := hrel
                          have hjI : (j : Int) ≤ 3000 := by omega
                          by_cases hlt : j < h9
                          · have hjd : j < d.size := by have := HLO.out; omega
                            have hdg : isDg d[j] = true := (List.all_eq_true.1 HAL.out) _ (List.mem_of_getElem? (i := j) (by simp [hjd]; rfl))
                            have h12 := isDg_le hdg
                            have hst := take_next d.data.toList 0 j hj1 (by simpa using hjd)
                            have hvs := valD_snoc ((d.data.toList.drop 0).take (j - 0)) (d.data.toList[j]'(by simpa using hjd))
                            rw [← hst] at hvs
                            have hvl := part_lt d.data.toList HAL.out 0 (j - 0) 8 (by omega)
                            have HVS := Lib.hid hvs
                            clear hvs hst hdg
                            generalize valD ((d.data.toList.drop 0).take (j - 0)) = v at *
                            have vI : (v : Int) ≤ 99999999 := by omega
                            have c1 : (48 : Int) ≤ d[j].toNat := by omega
                            have c2 : (d[j].toNat : Int) ≤ 57 := by omega
                            clear hvl h12
                            go_wp2
                            go_round
                            case rel => exact ⟨j + 1, by omega, by omega, by go_num, by rw [HVS.out, show d.data.toList[j] = d[j] from rfl]; congr 1; omega⟩
                            case measure => simp [intOf]; omega
                          · obtain rfl : h9 = j := by omega
                            have hn := part_lt d.data.toList HAL.out 0 (h9 - 0) 9 (by omega)
                            have hgs := group_step d.data.toList k 0 h9 (by omega) (by have := HLO.out; simp; omega)
                            have HGS := Lib.hid hgs
                            have HN9 := Lib.hid hn
                            have hol3 : out.length ≤ 300 := by have := HOL.out; omega
                            have hnI : (valD ((d.data.toList.drop 0).take (h9 - 0)) : Int) < 1000000000 := by omega
                            clear hgs hn
                            obtain ⟨n, hnn⟩ : ∃ n, valD ((d.data.toList.drop 0).take (h9 - 0)) = n := ⟨_, rfl⟩
                            rw [hnn] at hnI ⊢
                            have HNN := Lib.hid hnn
                            clear hnn
                            go_wp2_with (at_builtin; refine wpList_append_own _ rfl _ _ 22 rfl (w.heap.size + 1) 93 i0 (.int .u32 0) 1 4 Tryz.underlying22 hi hz0 hz1 hz2 rfl (by decide) _ _ _ rfl (hown.alloc _) ⟨wr.heap.size, 0, none⟩ 1 1 [.int .u32 (n : Nat)] rfl rfl (newcell _ _ _) (by simp [Value.oneCell']) (by simp only [maxLen]; omega) (by omega) (by have := hR.lt; simp; omega) ?_; intro v' w1 hown' hgrow _)
                            rw [u32s_snoc out n rfl] at hown'
                            have hk2 : Keeps w w1 := (hk.alloc hk.size _).grown hgrow (by have := hk.size; simp; omega) (fun b e => by have := (hown.lt b e).1; omega)
                            have hR3 := (hR.alloc _).grown hgrow (fun e => by have := (hown.lt _ e.symm).1; omega)
                            go_roundw
                            case rel => exact ⟨k + 1, out ++ [n], ((h9 : Int) - 9), by rw [List.length_append, HOL.out]; rfl, by have := HLO.out; omega, by first | rfl | go_num, by have := HLO.out; omega, hob.append (AllB.single (by omega)),
                              by rw [val_snoc, HOL.out, HVAL.out, show d.size - 9 * k = h9 by have := HLO.out; omega, show d.size - 9 * (k + 1) = 0 by have := HLO.out; omega, HGS.out, HNN.out], by simpa using hown', hR3, hk2⟩
                            case measure => simp [intOf]; omega
                    · have q1 : ¬ (0 : Int) < E := by omega
                      have q2 : decide ((0 : Int) < E) = false := decide_eq_false q1
                      have hv2 : val out = valD d.data.toList := by rw [HVAL.out, show d.size - 9 * k = 0 by omega, List.drop_zero]
                      have HV2 := Lib.hid hv2
                      have hu := U32.of_own hown
                      clear hE hgo hv2
                      go_wp2_with fail
                      refine (rmade_u false _ out _ hu hob (by rw [HOL.out]; omega)).mono ?_
                      rintro e w5 ⟨V5, rfl, hr5, hk5⟩
                      obtain ⟨A5, n5, c5, rfl, -⟩ := hr5.open_
                      have hR5 := hR.below hk5
                      have r0 := hR5.c0
                      have r1 := hR5.c1
                      have f0 := hR5.frozen 0
                      have f1 := hR5.frozen 1
                      rw [HV2.out] at hr5 ⊢
                      generalize decide (sgn false (valD d.data.toList) < 0) = b5 at *
                      go_wp2
                      have hR4 := hR5.two (.bool b5) (.slice A5 n5 c5)
                      refine bodyPost_ret (v := .tuple #[.agg #[.bool b5, .slice A5 n5 c5], .int .i64 0]) (by simp [results, Tryz.results132, go_sem, hR4.cell 0, hR4.cell 1]) rfl ?_
                      exact ⟨_, by rw [HCC.out], by rw [HZZ.out]; exact hr5.two hR5 rfl rfl rfl, ((hk.trans' hk5).set (Nat.le_refl _) _).set (Nat.le_refl _) _⟩
end Go.Proofs.YtmochehkkadjnaaGreatDoor
