/- known of the reports' laws: the walk. -/
import Derived.Test.YtgcigdahjabimaaGreatDoorPr37
import Derived.Test.YtgcigdahjabimaaGreatDoorPr38
import Derived.Deep.MidRow
namespace Go.Proofs.YtgcigdahjabimaaGreatDoor
open Go.RowKit Go.Shelf
theorem rat_v2 {w : World} {V : Value} {q : Rat} (h : RatRep w V q) (hl : szR q ≤ 100000) : RatV2 w V (q, true) := h.ratv hl
theorem three_rep {w : World} {g : Nat} {t : TypeId} {c0 c1 c2 c3 c4 c5 c6 c7 c8 c9 c10 c11 : Value} {x y z : Rat} (hO : Own w g t [c0, c1, c2, c3, c4, c5, c6, c7, c8, c9, c10, c11]) (h1 : RatRep w (.agg #[c0, c1, c2, c3]) x) (h2 : RatRep w (.agg #[c4, c5, c6, c7]) y) (h3 : RatRep w (.agg #[c8, c9, c10, c11]) z) : Row4 RatRep w (some ⟨g, 0, none⟩) [x, y, z] := fun j u hj => by
 match j, hj with
 | 0, hj =>
  obtain rfl : x = u := by simpa using hj
  exact ⟨g, 0, c0, c1, c2, c3, rfl, ⟨(hO.cell _).trans rfl, (hO.cell _).trans rfl, (hO.cell _).trans rfl, (hO.cell _).trans rfl⟩, h1⟩
 | 1, hj =>
  obtain rfl : y = u := by simpa using hj
  exact ⟨g, 0, c4, c5, c6, c7, rfl, ⟨(hO.cell _).trans rfl, (hO.cell _).trans rfl, (hO.cell _).trans rfl, (hO.cell _).trans rfl⟩, h2⟩
 | 2, hj =>
  obtain rfl : z = u := by simpa using hj
  exact ⟨g, 0, c8, c9, c10, c11, rfl, ⟨(hO.cell _).trans rfl, (hO.cell _).trans rfl, (hO.cell _).trans rfl, (hO.cell _).trans rfl⟩, h3⟩
 | j + 3, hj => simp at hj
theorem one_row {w : World} {g : Nat} {t : TypeId} {o0 o1 o2 o3 : Value} {x : QV} (hO : Own w g t [o0, o1, o2, o3]) (h1 : RatV2 w (.agg #[o0, o1, o2, o3]) x) : Row4 RatV2 w (some ⟨g, 0, none⟩) [x] := fun j z hj => by
 match j, hj with
 | 0, hj =>
  obtain rfl : x = z := by simpa using hj
  exact ⟨g, 0, o0, o1, o2, o3, rfl, ⟨(hO.cell _).trans rfl, (hO.cell _).trans rfl, (hO.cell _).trans rfl, (hO.cell _).trans rfl⟩, h1⟩
 | j + 1, hj => simp at hj
theorem row_of {w : World} {g : Nat} {t : TypeId} {l : List Rn} {qs : List QV} (hO : Own w g t (cellsQ l)) (hl : qs.length = l.length) (h : ∀ k x, qs[k]? = some x → RatV2 w (l.getD k rz0).v x) : Row4 RatV2 w (some ⟨g, 0, none⟩) qs := fun j z hj => by
 have hjl : j < l.length := by rw [← hl]; exact (List.getElem?_eq_some_iff.1 hj).1
 have c0 := cellsQ_get l hjl (show 0 < 4 by decide)
 have c1 := cellsQ_get l hjl (show 1 < 4 by decide)
 have c2 := cellsQ_get l hjl (show 2 < 4 by decide)
 have c3 := cellsQ_get l hjl (show 3 < 4 by decide)
 refine ⟨g, 0, (l.getD j rz0).a, (l.getD j rz0).b, (l.getD j rz0).c, (l.getD j rz0).d, rfl, ⟨?_, ?_, ?_, ?_⟩, h j z hj⟩
 ·rw [Nat.zero_add, hO.cell]; exact c0
 ·rw [Nat.zero_add, hO.cell]; exact c1
 ·rw [Nat.zero_add, hO.cell]; exact c2
 ·rw [Nat.zero_add, hO.cell]; exact c3
theorem gsl_same {w : World} {A B : Option Addr} {n ca cb : Nat} {l : List Rat} (ha : Row4 RatRep w A l) (hb : Row4 RatRep w B l) (hn : l.length = n) (hl : n ≤ maxLen) (za : ∀ x ∈ l, szR x ≤ 40000) :
 Calls Tryz.prog 19 #[.slice A n ca, .slice B n cb] w fun e w' => e = .returned (.bool true) ∧ Keeps w w' := by
 have h := gsl_any (ca := ca) (cb := cb) ha hb hn hn hl hl za za
 rwa [decide_eq_true rfl] at h
theorem own_range {w : World} {b : Nat} {t : TypeId} {vs : List Value} (h : Own w b t vs) : w.rangeAt b 0 vs := fun j v hv => by
 rw [Nat.zero_add, h.cell]
 exact hv
set_option maxRecDepth 100000 in
theorem build_sum (b1 d1 b2 d2 : Bool) (A1 B1 A2 B2 : Option Addr) (n1 c1 m1 e1 n2 c2 m2 e2 P2 P3 : Nat) (u : World) : (Instr.build 49 #[(0, .int .i64 2), (3, .int .i64 1), (6, .agg #[.bool b1, .slice A1 n1 c1, .bool d1, .slice B1 m1 e1]), (7, .agg #[.bool b2, .slice A2 n2 c2, .bool d2, .slice B2 m2 e2]), (8, .slice (some ⟨P2, 0, none⟩) 1 1), (9, .slice (some ⟨P3, 0, none⟩) 1 1)]).run Tryz.prog u =
 .ok (.agg #[.int .i64 2, .int .i64 0, .int .i64 0, .int .i64 1, .int .i64 0, .int .i64 0, .bool b1, .slice A1 n1 c1, .bool d1, .slice B1 m1 e1, .bool b2, .slice A2 n2 c2, .bool d2, .slice B2 m2 e2, .slice (some ⟨P2, 0, none⟩) 1 1, .slice (some ⟨P3, 0, none⟩) 1 1, .int .i64 0]) u := by kernel_rfl
def kn3Φ (VS : Value) : Nat → Value → World → Prop
 | 0, v, _ => v = VS
 | 1, v, w => RatRep w v (wq 1)
 | 2, v, w => RatRep w v (wq 4)
 | 3, v, w => ∃ b, v = .slice (some ⟨b, 0, none⟩) 2 2 ∧ Row4 RatV2 w (some ⟨b, 0, none⟩) knE
 | 4, v, w => ∃ g, v = .tuple #[.slice (some ⟨g, 0, none⟩) 3 3, .int .i64 0] ∧ Own w g 3 (i64s [0, 0, 1])
 | 5, v, w => ∃ g, v = .tuple #[.slice (some ⟨g, 0, none⟩) 3 3, .int .i64 0] ∧ Own w g 3 (i64s [0, 0, 1])
 | 6, v, w => ∃ g, v = .slice (some ⟨g, 0, none⟩) 3 3 ∧ Own w g 3 (i64s [0, 0, 1])
 | 7, v, _ => v = .int .i64 0
 | 8, v, w => ∃ g, v = .slice (some ⟨g, 0, none⟩) 3 3 ∧ Own w g 3 (i64s [0, 0, 1])
 | _, _, _ => True
def kn4Φ (VS : Value) : Nat → Value → World → Prop
 | 0, v, _ => v = VS
 | 1, v, w => RatRep w v (wq 7)
 | 2, v, w => ∃ A c, v = .tuple #[.slice A 1 c, .int .i64 0] ∧ IRow w A [0]
 | 3, v, w => ∃ A c, v = .tuple #[.slice A 1 c, .int .i64 0] ∧ IRow w A [0]
 | 4, v, w => ∃ A c, v = .slice A 1 c ∧ IRow w A [0]
 | 5, v, _ => v = .int .i64 0
 | 6, v, w => ∃ A c, v = .slice A 1 c ∧ IRow w A [0]
 | _, _, _ => True
def kn7Φ (q1 q5 : Bool) (q2 q6 Aa : Option Addr) (q3 q4 q7 q8 ca P1 gh : Nat) (TT : Array UInt8) : Nat → Value → World → Prop
 | 0, v, _ => v = .int .i64 0
 | 1, v, _ => v = .int .i64 0
 | 2, v, _ => v = .int .i64 0
 | 3, v, _ => v = .int .i64 0
 | 4, v, _ => v = .int .i64 0
 | 5, v, _ => v = .int .i64 0
 | 6, v, _ => v = .int .i64 0
 | 7, v, _ => v = .bool true
 | 8, v, _ => v = .bool true
 | 9, v, _ => v = .slice (some ⟨P1, 0, none⟩) 3 3
 | 10, v, _ => v = .agg #[.bool q1, .slice q2 q3 q4, .bool q5, .slice q6 q7 q8]
 | 11, v, w => RatRep w v (wq 0)
 | 12, v, w => RatRep w v (wq 4)
 | 13, v, w => ∃ b, v = .slice (some ⟨b, 0, none⟩) 3 3 ∧ Row4 RatRep w (some ⟨b, 0, none⟩) [Rat.divInt 1 4, wq 0, wq 4]
 | 14, v, _ => v = .bool true
 | 15, v, _ => v = .bool true
 | 16, v, _ => v = .bool true
 | 17, v, _ => v = .int .i64 1
 | 18, v, _ => v = .bool true
 | 19, v, _ => v = .bool true
 | 20, v, _ => v = .bool true
 | 21, v, _ => v = .slice (some ⟨gh, 0, none⟩) 3 3
 | 22, v, w => ∃ b, v = .slice (some ⟨b, 0, none⟩) 3 3 ∧ IRow w (some ⟨b, 0, none⟩) [0, 0, 1]
 | 23, v, _ => v = .bool true
 | 24, v, _ => v = .bool true
 | 25, v, _ => v = .bool true
 | 26, v, _ => v = .slice Aa 1 ca
 | 27, v, w => ∃ b, v = .slice (some ⟨b, 0, none⟩) 1 1 ∧ IRow w (some ⟨b, 0, none⟩) [0]
 | 28, v, _ => v = .bool true
 | 29, v, _ => v = .bool true
 | 30, v, _ => v = .bool true
 | 31, v, _ => v = .string ⟨TT⟩
 | 32, v, _ => v = .bool true
 | 33, v, _ => v = .bool true
 | _, _, _ => True
set_option maxRecDepth 100000 in
set_option maxHeartbeats 4000000 in
theorem known_r {w : World} (ht : PowTab w) : Calls Tryz.prog 7 #[] w fun e w' => e = .returned (.bool true) ∧ Keeps w w' := by
 have S := (St.start w).alloc 25 [.int .i64 0, .int .i64 0, .int .i64 0, .int .i64 5, .int .i64 0, .int .i64 0]
 have HT := Lib.hid ht
 clear ht
 go_enter Tryz.func7, Tryz.ntmps7
 go_wp2_with fail
 obtain ⟨W0, eW, S⟩ := S.pack
 rw [eW]
 clear eW
 refine (lhalf_num 1 (by omega) (by omega)).mono ?_
 rintro e W1 ⟨U, rfl, hp, hk1⟩
 obtain ⟨b1, A1, n1, c1, d1, B1, m1, e1, rfl⟩ := hp.open_
 replace S := (S.below hk1).addQ hp
 clear hk1 hp
 go_wp2_with fail
 refine (lwhole_num 0 (by omega) (by omega)).mono ?_
 rintro e W2 ⟨U, rfl, hp, hk1⟩
 obtain ⟨b2, A2, n2, c2, d2, B2, m2, e2, rfl⟩ := hp.open_
 replace S := (S.below hk1).addQ hp
 clear hk1 hp
 go_wp2_with fail
 refine (lwhole_num 0 (by omega) (by omega)).mono ?_
 rintro e W3 ⟨U, rfl, hp, hk1⟩
 obtain ⟨b3, A3, n3, c3, d3, B3, m3, e3, rfl⟩ := hp.open_
 replace S := (S.below hk1).addQ hp
 clear hk1 hp
 go_wp2_with fail
 refine (lwhole_num 5 (by omega) (by omega)).mono ?_
 rintro e W4 ⟨U, rfl, hp, hk1⟩
 obtain ⟨b4, A4, n4, c4, d4, B4, m4, e4, rfl⟩ := hp.open_
 replace S := (S.below hk1).addQ hp
 clear hk1 hp
 go_wp2_with fail
 refine (lwhole_num 0 (by omega) (by omega)).mono ?_
 rintro e W5 ⟨U, rfl, hp, hk1⟩
 obtain ⟨b5, A5, n5, c5, d5, B5, m5, e5, rfl⟩ := hp.open_
 replace S := (S.below hk1).addQ hp
 clear hk1 hp
 go_wp2_with fail
 refine (lwhole_num 2 (by omega) (by omega)).mono ?_
 rintro e W6 ⟨U, rfl, hp, hk1⟩
 obtain ⟨b6, A6, n6, c6, d6, B6, m6, e6, rfl⟩ := hp.open_
 replace S := (S.below hk1).addQ hp
 clear hk1 hp
 go_wp2_with fail
 replace S := S.alloc 32 (cellsQ [⟨b1, A1, n1, c1, d1, B1, m1, e1⟩, ⟨b2, A2, n2, c2, d2, B2, m2, e2⟩, ⟨b3, A3, n3, c3, d3, B3, m3, e3⟩, ⟨b4, A4, n4, c4, d4, B4, m4, e4⟩, ⟨b5, A5, n5, c5, d5, B5, m5, e5⟩, ⟨b6, A6, n6, c6, d6, B6, m6, e6⟩])
 obtain ⟨W7, eW, S⟩ := S.pack
 have eW' : (W6.alloc (.cells #[.bool b1, .slice A1 n1 c1, .bool d1, .slice B1 m1 e1, .bool b2, .slice A2 n2 c2, .bool d2, .slice B2 m2 e2, .bool b3, .slice A3 n3 c3, .bool d3, .slice B3 m3 e3, .bool b4, .slice A4 n4 c4, .bool d4, .slice B4 m4 e4, .bool b5, .slice A5 n5 c5, .bool d5, .slice B5 m5 e5, .bool b6, .slice A6 n6 c6, .bool d6, .slice B6 m6 e6] 32)) = W7 := eW
 rw [eW']
 clear eW eW'
 have hrow : Row4 RatV2 W7 (some ⟨W6.heap.size, 0, none⟩) knF := row_of (S.o 0 rfl) rfl (fun k x hk => by
  have h6 := S.qi 0 rfl
  have h5 := S.qi 1 rfl
  have h4 := S.qi 2 rfl
  have h3 := S.qi 3 rfl
  have h2 := S.qi 4 rfl
  have h1 := S.qi 5 rfl
  match k, hk with
  | 0, hk => obtain rfl : (hf1, true) = x := Option.some.inj hk; exact rat_v2 h1 (by decide +kernel)
  | 1, hk => obtain rfl : (wq 0, true) = x := Option.some.inj hk; exact rat_v2 h2 (by decide +kernel)
  | 2, hk => obtain rfl : (wq 0, true) = x := Option.some.inj hk; exact rat_v2 h3 (by decide +kernel)
  | 3, hk => obtain rfl : (wq 5, true) = x := Option.some.inj hk; exact rat_v2 h4 (by decide +kernel)
  | 4, hk => obtain rfl : (wq 0, true) = x := Option.some.inj hk; exact rat_v2 h5 (by decide +kernel)
  | 5, hk => obtain rfl : (wq 2, true) = x := Option.some.inj hk; exact rat_v2 h6 (by decide +kernel)
  | k + 6, hk => simp [knF] at hk)
 have hspt : IRow W7 (some ⟨w.heap.size, 0, none⟩) knP := own_irow (l := knP) (S.o 1 rfl)
 refine (checks_any (n := 2) (m := 2) hrow rfl hspt rfl (by decide +kernel) (by omega) (by omega) (by omega)).mono ?_
 rintro e W8 ⟨V8, b8, rfl, hk8, -, hV8⟩
 obtain ⟨rfl, l8, hl8, rfl, hS8⟩ := hV8 kn_chkC
 obtain ⟨⟨y0, y1, y2, y3, y4, y5, y6, y7⟩, ⟨z0, z1, z2, z3, z4, z5, z6, z7⟩, ⟨v0, v1, v2, v3, v4, v5, v6, v7⟩, rfl⟩ := len3 hl8
 have hS0 : RatRep W8 (.agg #[.bool y0, .slice y1 y2 y3, .bool y4, .slice y5 y6 y7]) (Rat.divInt 1 4) := by rw [← kn_tot0]; exact hS8 0 (by simp)
 have hS1 : RatRep W8 (.agg #[.bool z0, .slice z1 z2 z3, .bool z4, .slice z5 z6 z7]) (wq 0) := by rw [← kn_tot1]; exact hS8 1 (by simp)
 have hS2 : RatRep W8 (.agg #[.bool v0, .slice v1 v2 v3, .bool v4, .slice v5 v6 v7]) (wq 4) := by rw [← kn_tot2]; exact hS8 2 (by simp)
 replace S := ((((S.below hk8).onlyL.dropb.dropb).addQ hS0).addQ hS1).addQ hS2
 clear hrow hspt hk8 hV8 hS8 hS0 hS1 hS2 hl8
 rw [kn_chkC, kn_best]
 have hcl : (cellsQ [⟨y0, y1, y2, y3, y4, y5, y6, y7⟩, ⟨z0, z1, z2, z3, z4, z5, z6, z7⟩, ⟨v0, v1, v2, v3, v4, v5, v6, v7⟩]).toArray = #[.bool y0, .slice y1 y2 y3, .bool y4, .slice y5 y6 y7, .bool z0, .slice z1 z2 z3, .bool z4, .slice z5 z6 z7, .bool v0, .slice v1 v2 v3, .bool v4, .slice v5 v6 v7] := rfl
 rw [hcl]
 clear hcl
 go_upto_region 2 with fail
 replace S := S.alloc 32 [.bool y0, .slice y1 y2 y3, .bool y4, .slice y5 y6 y7, .bool z0, .slice z1 z2 z3, .bool z4, .slice z5 z6 z7, .bool v0, .slice v1 v2 v3, .bool v4, .slice v5 v6 v7]
 obtain ⟨W9, eW, S⟩ := S.pack
 rw [eW]
 clear eW
 generalize W8.heap.size = P1 at *
 go_wp2_with fail
 refine (lwhole_num 4 (by omega) (by omega)).mono ?_
 rintro e W10 ⟨U, rfl, hp, hk1⟩
 obtain ⟨b1, A1, n1, c1, d1, B1, m1, e1, rfl⟩ := hp.open_
 replace S := (S.below hk1).addQ hp
 clear hk1 hp
 go_wp2_with fail
 refine (lwhole_num 4 (by omega) (by omega)).mono ?_
 rintro e W11 ⟨U, rfl, hp, hk1⟩
 obtain ⟨b2, A2, n2, c2, d2, B2, m2, e2, rfl⟩ := hp.open_
 replace S := (S.below hk1).addQ hp
 clear hk1 hp
 go_wp2_with fail
 refine (lhalf_num 1 (by omega) (by omega)).mono ?_
 rintro e W12 ⟨U, rfl, hp, hk1⟩
 obtain ⟨b3, A3, n3, c3, d3, B3, m3, e3, rfl⟩ := hp.open_
 replace S := (S.below hk1).addQ hp
 clear hk1 hp
 go_wp2_with fail
 replace S := S.alloc 31 [.bool b3, .slice A3 n3 c3, .bool d3, .slice B3 m3 e3]
 obtain ⟨W13, eW, S⟩ := S.pack
 rw [eW]
 clear eW
 generalize W12.heap.size = P2 at *
 refine (lwhole_num 8 (by omega) (by omega)).mono ?_
 rintro e W14 ⟨U, rfl, hp, hk1⟩
 obtain ⟨b4, A4, n4, c4, d4, B4, m4, e4, rfl⟩ := hp.open_
 replace S := (S.below hk1).addQ hp
 clear hk1 hp
 have hbs := fun u => build_sum b1 d1 b2 d2 A1 B1 A2 B2 n1 c1 m1 e1 n2 c2 m2 e2 P2 W14.heap.size u
 go_upto_region 3 with fail
 clear hbs
 replace S := S.alloc 31 [.bool b4, .slice A4 n4 c4, .bool d4, .slice B4 m4 e4]
 replace S := S.alloc 49 [.int .i64 2, .int .i64 0, .int .i64 0, .int .i64 1, .int .i64 0, .int .i64 0, .bool b1, .slice A1 n1 c1, .bool d1, .slice B1 m1 e1, .bool b2, .slice A2 n2 c2, .bool d2, .slice B2 m2 e2, .slice (some ⟨P2, 0, none⟩) 1 1, .slice (some ⟨W14.heap.size, 0, none⟩) 1 1, .int .i64 0]
 simp only [World.size_alloc] at S
 obtain ⟨W, eW, S⟩ := S.pack
 rw [eW]
 clear eW
 generalize W14.heap.size = P3 at *
 obtain ⟨VS, hVS⟩ : ∃ V, Value.agg #[.int .i64 2, .int .i64 0, .int .i64 0, .int .i64 1, .int .i64 0, .int .i64 0, .bool b1, .slice A1 n1 c1, .bool d1, .slice B1 m1 e1, .bool b2, .slice A2 n2 c2, .bool d2, .slice B2 m2 e2, .slice (some ⟨P2, 0, none⟩) 1 1, .slice (some ⟨P3, 0, none⟩) 1 1, .int .i64 0] = V := ⟨_, rfl⟩
 have hsm : SmArg W VS knS := ⟨_, _, _, _, _, _, _, _, _, _, _, _, hVS.symm, rat_v2 (S.qi 3 rfl) (by decide +kernel), rat_v2 (S.qi 2 rfl) (by decide +kernel), one_row (S.o 2 rfl) (rat_v2 (S.qi 1 rfl) (by decide +kernel)), one_row (S.o 1 rfl) (rat_v2 (S.qi 0 rfl) (by decide +kernel)), by decide, by decide⟩
 have HSA := Lib.hid hsm
 have HVS := Lib.hid hVS
 clear hVS hsm
 refine wp_region_steps (m := 9) rfl (by kernel_rfl) (kn3Φ VS) [] ?_ ?_ ?_
 ·intro i v w w' hi h hk
  match i, hi with
  | 0, _ => exact h
  | 1, _ => exact h.map hk.same32
  | 2, _ => exact h.map hk.same32
  | 3, _ => exact h.elim fun b ⟨h1, h3⟩ => ⟨b, h1, h3.below lasts_v hk⟩
  | 4, _ => exact h.elim fun b ⟨h1, h3⟩ => ⟨b, h1, h3.below hk⟩
  | 5, _ => exact h.elim fun b ⟨h1, h3⟩ => ⟨b, h1, h3.below hk⟩
  | 6, _ => exact h.elim fun b ⟨h1, h3⟩ => ⟨b, h1, h3.below hk⟩
  | 7, _ => exact h
  | 8, _ => exact h.elim fun b ⟨h1, h3⟩ => ⟨b, h1, h3.below hk⟩
  | i + 9, hi => exact absurd hi (by omega)
 ·intro i hi vs wph3 hk3 hd
  have hkq := (Keeps.trans' (w1 := W.drew) (Below.drew (Below.refl _ W)) hk3)
  have S3 := S.below hkq
  match i, hi with
  | 0, _ =>
   refine step_yes [] rfl (by kernel_rfl) fun K hK => ?_
   simp only [frD] at hK ⊢
   refine ⟨by rfl, ?_⟩
   exact wp_load_mid 49 _ rfl _ 0 rfl _ _ (own_range (S3.o 0 rfl)) Tryz.underlying49 rfl (by kernel_rfl) (hK _ _ ⟨Below.refl _ _, HVS.out, by simp⟩)
  | 1, _ =>
   refine step_yes [] rfl (by kernel_rfl) fun K hK => ?_
   simp only [frD] at hK ⊢
   refine ⟨by rfl, ?_⟩
   go_simp
   refine (lwhole_num 1 (by omega) (by omega)).mono ?_
   rintro e wph4 ⟨U, rfl, hr, hk4⟩
   exact hK _ _ ⟨hk4, hr, by simp⟩
  | 2, _ =>
   have h1 : RatRep wph3 (vs 1) (wq 1) := hd 1 (List.contains_iff_mem.1 (by kernel_rfl))
   refine step_yes [(1, some 39)] rfl (by kernel_rfl) fun K hK => ?_
   simp only [frD] at hK ⊢
   refine ⟨by rfl, ?_⟩
   go_simp
   refine (lwhole_num 4 (by omega) (by omega)).mono ?_
   rintro e wph4 ⟨U, rfl, hr, hk4⟩
   exact hK _ _ ⟨hk4, hr, by simp⟩
  | 3, _ =>
   have h1 : RatRep wph3 (vs 1) (wq 1) := hd 1 (List.contains_iff_mem.1 (by kernel_rfl))
   have h2 : RatRep wph3 (vs 2) (wq 4) := hd 2 (List.contains_iff_mem.1 (by kernel_rfl))
   obtain ⟨b1, A1, n1, c1, d1, B1, m1, e1, q1⟩ := h1.open_
   obtain ⟨b2, A2, n2, c2, d2, B2, m2, e2, q2⟩ := h2.open_
   rw [q1] at h1
   rw [q2] at h2
   refine step_yes [(1, some 39), (2, some 40)] rfl (by kernel_rfl) fun K hK => ?_
   simp only [frD, q1, q2] at hK ⊢
   refine ⟨by rfl, ?_⟩
   go_simp
   exact hK _ _ ⟨bl.alloc (Nat.le_refl _) _, ⟨_, rfl, two_row (Own.new wph3 _ _) (rat_v2 (h1.map (box2 wph3 _).same32) (by decide +kernel)) (rat_v2 (h2.map (box2 wph3 _).same32) (by decide +kernel))⟩, by simp⟩
  | 4, _ =>
   have h0 : (vs 0) = VS := hd 0 (List.contains_iff_mem.1 (by kernel_rfl))
   have h2 : RatRep wph3 (vs 2) (wq 4) := hd 2 (List.contains_iff_mem.1 (by kernel_rfl))
   have h3 : ∃ b, (vs 3) = .slice (some ⟨b, 0, none⟩) 2 2 ∧ Row4 RatV2 wph3 (some ⟨b, 0, none⟩) knE := hd 3 (List.contains_iff_mem.1 (by kernel_rfl))
   obtain ⟨b3, q3, hR⟩ := h3
   refine step_yes [(0, some 38), (2, some 40), (3, some 41)] rfl (by kernel_rfl) fun K hK => ?_
   simp only [frD, h0, q3] at hK ⊢
   refine ⟨by rfl, ?_⟩
   go_simp
   refine (hist_any (HSA.out.below hkq) hR rfl (by decide) kn_sz (by decide +kernel)).mono ?_
   rintro e wph4 ⟨V, rfl, hk4, -, hV⟩
   obtain ⟨g, rfl, -, hO⟩ := hV kn_hisC
   exact hK _ _ ⟨hk4, ⟨g, by rw [kn_hisC]; rfl, kn_hisL ▸ hO⟩, by simp⟩
  | 5, _ =>
   have h4 : ∃ g, (vs 4) = .tuple #[.slice (some ⟨g, 0, none⟩) 3 3, .int .i64 0] ∧ Own wph3 g 3 (i64s [0, 0, 1]) := hd 4 (List.contains_iff_mem.1 (by kernel_rfl))
   obtain ⟨g, q4, hO⟩ := h4
   refine step_yes [(4, some 42)] rfl (by kernel_rfl) fun K hK => ?_
   simp only [frD, q4] at hK ⊢
   refine ⟨by rfl, ?_⟩
   go_simp
   exact hK _ _ ⟨Below.refl _ _, ⟨g, rfl, hO⟩, by simp⟩
  | 6, _ =>
   have h5 : ∃ g, (vs 5) = .tuple #[.slice (some ⟨g, 0, none⟩) 3 3, .int .i64 0] ∧ Own wph3 g 3 (i64s [0, 0, 1]) := hd 5 (List.contains_iff_mem.1 (by kernel_rfl))
   obtain ⟨g, q4, hO⟩ := h5
   refine step_yes [(5, some 37)] rfl (by kernel_rfl) fun K hK => ?_
   simp only [frD, q4] at hK ⊢
   refine ⟨by rfl, ?_⟩
   go_simp
   exact hK _ _ ⟨Below.refl _ _, ⟨g, rfl, hO⟩, by simp⟩
  | 7, _ =>
   have h5 : ∃ g, (vs 5) = .tuple #[.slice (some ⟨g, 0, none⟩) 3 3, .int .i64 0] ∧ Own wph3 g 3 (i64s [0, 0, 1]) := hd 5 (List.contains_iff_mem.1 (by kernel_rfl))
   obtain ⟨g, q4, hO⟩ := h5
   refine step_yes [(5, some 37)] rfl (by kernel_rfl) fun K hK => ?_
   simp only [frD, q4] at hK ⊢
   refine ⟨by rfl, ?_⟩
   go_simp
   exact hK _ _ ⟨Below.refl _ _, rfl, by simp⟩
  | 8, _ =>
   have h0 : (vs 0) = VS := hd 0 (List.contains_iff_mem.1 (by kernel_rfl))
   have h1 : RatRep wph3 (vs 1) (wq 1) := hd 1 (List.contains_iff_mem.1 (by kernel_rfl))
   have h2 : RatRep wph3 (vs 2) (wq 4) := hd 2 (List.contains_iff_mem.1 (by kernel_rfl))
   have h3 : ∃ b, (vs 3) = .slice (some ⟨b, 0, none⟩) 2 2 ∧ Row4 RatV2 wph3 (some ⟨b, 0, none⟩) knE := hd 3 (List.contains_iff_mem.1 (by kernel_rfl))
   have h4 : ∃ g, (vs 4) = .tuple #[.slice (some ⟨g, 0, none⟩) 3 3, .int .i64 0] ∧ Own wph3 g 3 (i64s [0, 0, 1]) := hd 4 (List.contains_iff_mem.1 (by kernel_rfl))
   have h5 : ∃ g, (vs 5) = .tuple #[.slice (some ⟨g, 0, none⟩) 3 3, .int .i64 0] ∧ Own wph3 g 3 (i64s [0, 0, 1]) := hd 5 (List.contains_iff_mem.1 (by kernel_rfl))
   have h6 : ∃ g, (vs 6) = .slice (some ⟨g, 0, none⟩) 3 3 ∧ Own wph3 g 3 (i64s [0, 0, 1]) := hd 6 (List.contains_iff_mem.1 (by kernel_rfl))
   obtain ⟨g, q4, hO⟩ := h6
   clear h0 h1 h2 h3 h4 h5
   refine step_yes [(0, some 38), (1, some 39), (2, some 40), (3, some 41), (4, some 42), (5, some 37), (6, some 43)] rfl (by kernel_rfl) fun K hK => ?_
   simp only [frD, q4] at hK ⊢
   refine ⟨by rfl, ?_⟩
   go_simp
   have hk9 := hK (.slice (some ⟨g, 0, none⟩) 3 3) _ ⟨Below.refl _ _, ⟨g, rfl, hO⟩, by simp⟩
   simp only [Act.put, List.setIfInBounds_toArray, List.set_cons_zero, List.set_cons_succ] at hk9
   exact hk9
  | i + 9, hi => exact absurd hi (by omega)
 ·intro vs wph3 hk3 hΦ _
  simp only [List.drop_succ_cons, List.drop_zero]
  rw [fr_frD, show (List.range 9).map _ = [(0, some 38), (1, some 39), (2, some 40), (3, some 41), (4, some 42), (5, some 37), (6, some 43), (7, some 44), (8, some 5)] by kernel_rfl]
  have ph0 := hΦ 0 (by omega)
  have ph1 := hΦ 1 (by omega)
  have ph2 := hΦ 2 (by omega)
  have ph3 := hΦ 3 (by omega)
  have ph4 := hΦ 4 (by omega)
  have ph5 := hΦ 5 (by omega)
  have ph6 := hΦ 6 (by omega)
  have ph7 := hΦ 7 (by omega)
  have ph8 := hΦ 8 (by omega)
  simp only [kn3Φ] at ph0 ph1 ph2 ph3 ph4 ph5 ph6 ph7 ph8
  clear hΦ
  simp only [frD]
  simp only [Act.put, List.setIfInBounds_toArray, List.set_cons_zero, List.set_cons_succ]
  generalize vs 0 = U0 at ph0 ⊢
  generalize vs 1 = U1 at ph1 ⊢
  generalize vs 2 = U2 at ph2 ⊢
  generalize vs 3 = U3 at ph3 ⊢
  generalize vs 4 = U4 at ph4 ⊢
  generalize vs 5 = U5 at ph5 ⊢
  generalize vs 6 = U6 at ph6 ⊢
  generalize vs 7 = U7 at ph7 ⊢
  generalize vs 8 = U8 at ph8 ⊢
  clear ph0 ph1 ph2 ph3 ph4 ph5 ph6
  obtain ⟨gh, rfl, hO8⟩ := ph8
  subst ph7
  replace S := S.drew.below hk3
  have HSA := Lib.hid (HSA.out.below (Keeps.trans' (w1 := W.drew) (Below.drew (Below.refl _ W)) hk3))
  clear hk3
  go_upto_region 4 with fail
  obtain ⟨V3, eW, S⟩ := S.pack
  rw [eW] at hO8 HSA ⊢
  have HIH0 := Lib.hid (own_irow (l := [0, 0, 1]) hO8)
  clear eW hO8
  refine wp_region_steps (m := 7) rfl (by kernel_rfl) (kn4Φ VS) [] ?_ ?_ ?_
  ·intro i v w w' hi h hk
   match i, hi with
   | 0, _ => exact h
   | 1, _ => exact h.map hk.same32
   | 2, _ => exact h.elim fun A ⟨c, h1, h3⟩ => ⟨A, c, h1, h3.below hk⟩
   | 3, _ => exact h.elim fun A ⟨c, h1, h3⟩ => ⟨A, c, h1, h3.below hk⟩
   | 4, _ => exact h.elim fun A ⟨c, h1, h3⟩ => ⟨A, c, h1, h3.below hk⟩
   | 5, _ => exact h
   | 6, _ => exact h.elim fun A ⟨c, h1, h3⟩ => ⟨A, c, h1, h3.below hk⟩
   | i + 7, hi => exact absurd hi (by omega)
  ·intro i hi vs wph3 hk3 hd
   have hkq := (Keeps.trans' (w1 := V3.drew) (Below.drew (Below.refl _ V3)) hk3)
   have S3 := S.below hkq
   match i, hi with
   | 0, _ =>
    refine step_yes [] rfl (by kernel_rfl) fun K hK => ?_
    simp only [frD] at hK ⊢
    refine ⟨by rfl, ?_⟩
    exact wp_load_mid 49 _ rfl _ 0 rfl _ _ (own_range (S3.o 0 rfl)) Tryz.underlying49 rfl (by kernel_rfl) (hK _ _ ⟨Below.refl _ _, HVS.out, by simp⟩)
   | 1, _ =>
    refine step_yes [] rfl (by kernel_rfl) fun K hK => ?_
    simp only [frD] at hK ⊢
    refine ⟨by rfl, ?_⟩
    go_simp
    refine (lwhole_num 7 (by omega) (by omega)).mono ?_
    rintro e wph4 ⟨U, rfl, hr, hk4⟩
    exact hK _ _ ⟨hk4, hr, by simp⟩
   | 2, _ =>
    have h0 : (vs 0) = VS := hd 0 (List.contains_iff_mem.1 (by kernel_rfl))
    have h1 : RatRep wph3 (vs 1) (wq 7) := hd 1 (List.contains_iff_mem.1 (by kernel_rfl))
    skip
    refine step_yes [(0, some 46), (1, some 47)] rfl (by kernel_rfl) fun K hK => ?_
    simp only [frD, h0] at hK ⊢
    refine ⟨by rfl, ?_⟩
    go_simp
    refine (above_any (HSA.out.below hkq) (rat_v2 h1 (by decide +kernel)) kn_sz (by decide)).mono ?_
    rintro e wph4 ⟨V, rfl, hk4, -, hV⟩
    obtain ⟨A, c, rfl, hO⟩ := hV kn_abvC
    exact hK _ _ ⟨hk4, ⟨A, c, by rw [kn_abvC, kn_abvL]; rfl, kn_abvL ▸ hO⟩, by simp⟩
   | 3, _ =>
    have h2 : ∃ A c, (vs 2) = .tuple #[.slice A 1 c, .int .i64 0] ∧ IRow wph3 A [0] := hd 2 (List.contains_iff_mem.1 (by kernel_rfl))
    obtain ⟨A, c, q4, hO⟩ := h2
    refine step_yes [(2, some 48)] rfl (by kernel_rfl) fun K hK => ?_
    simp only [frD, q4] at hK ⊢
    refine ⟨by rfl, ?_⟩
    go_simp
    exact hK _ _ ⟨Below.refl _ _, ⟨A, c, rfl, hO⟩, by simp⟩
   | 4, _ =>
    have h3 : ∃ A c, (vs 3) = .tuple #[.slice A 1 c, .int .i64 0] ∧ IRow wph3 A [0] := hd 3 (List.contains_iff_mem.1 (by kernel_rfl))
    obtain ⟨A, c, q4, hO⟩ := h3
    refine step_yes [(3, some 45)] rfl (by kernel_rfl) fun K hK => ?_
    simp only [frD, q4] at hK ⊢
    refine ⟨by rfl, ?_⟩
    go_simp
    exact hK _ _ ⟨Below.refl _ _, ⟨A, c, rfl, hO⟩, by simp⟩
   | 5, _ =>
    have h3 : ∃ A c, (vs 3) = .tuple #[.slice A 1 c, .int .i64 0] ∧ IRow wph3 A [0] := hd 3 (List.contains_iff_mem.1 (by kernel_rfl))
    obtain ⟨A, c, q4, hO⟩ := h3
    refine step_yes [(3, some 45)] rfl (by kernel_rfl) fun K hK => ?_
    simp only [frD, q4] at hK ⊢
    refine ⟨by rfl, ?_⟩
    go_simp
    exact hK _ _ ⟨Below.refl _ _, rfl, by simp⟩
   | 6, _ =>
    have h0 : (vs 0) = VS := hd 0 (List.contains_iff_mem.1 (by kernel_rfl))
    have h1 : RatRep wph3 (vs 1) (wq 7) := hd 1 (List.contains_iff_mem.1 (by kernel_rfl))
    have h2 : ∃ A c, (vs 2) = .tuple #[.slice A 1 c, .int .i64 0] ∧ IRow wph3 A [0] := hd 2 (List.contains_iff_mem.1 (by kernel_rfl))
    have h3 : ∃ A c, (vs 3) = .tuple #[.slice A 1 c, .int .i64 0] ∧ IRow wph3 A [0] := hd 3 (List.contains_iff_mem.1 (by kernel_rfl))
    have h4 : ∃ A c, (vs 4) = .slice A 1 c ∧ IRow wph3 A [0] := hd 4 (List.contains_iff_mem.1 (by kernel_rfl))
    obtain ⟨A, c, q4, hO⟩ := h4
    clear h0 h1 h2 h3
    refine step_yes [(0, some 46), (1, some 47), (2, some 48), (3, some 45), (4, some 49)] rfl (by kernel_rfl) fun K hK => ?_
    simp only [frD, q4] at hK ⊢
    refine ⟨by rfl, ?_⟩
    go_simp
    have hk9 := hK (.slice A 1 c) _ ⟨Below.refl _ _, ⟨A, c, rfl, hO⟩, by simp⟩
    simp only [Act.put, List.setIfInBounds_toArray, List.set_cons_zero, List.set_cons_succ] at hk9
    exact hk9
   | i + 7, hi => exact absurd hi (by omega)
  ·intro vs wph3 hk3 hΦ _
   simp only [List.drop_succ_cons, List.drop_zero]
   rw [fr_frD, show (List.range 7).map _ = [(0, some 46), (1, some 47), (2, some 48), (3, some 45), (4, some 49), (5, some 50), (6, some 7)] by kernel_rfl]
   have ph0 := hΦ 0 (by omega)
   have ph1 := hΦ 1 (by omega)
   have ph2 := hΦ 2 (by omega)
   have ph3 := hΦ 3 (by omega)
   have ph4 := hΦ 4 (by omega)
   have ph5 := hΦ 5 (by omega)
   have ph6 := hΦ 6 (by omega)
   simp only [kn4Φ] at ph0 ph1 ph2 ph3 ph4 ph5 ph6
   clear hΦ
   simp only [frD]
   simp only [Act.put, List.setIfInBounds_toArray, List.set_cons_zero, List.set_cons_succ]
   generalize vs 0 = U0 at ph0 ⊢
   generalize vs 1 = U1 at ph1 ⊢
   generalize vs 2 = U2 at ph2 ⊢
   generalize vs 3 = U3 at ph3 ⊢
   generalize vs 4 = U4 at ph4 ⊢
   generalize vs 5 = U5 at ph5 ⊢
   generalize vs 6 = U6 at ph6 ⊢
   clear ph0 ph1 ph2 ph3 ph4
   obtain ⟨Aa, ca, rfl, hO9⟩ := ph6
   subst ph5
   replace S := S.drew.below hk3
   have hkq := (Keeps.trans' (w1 := V3.drew) (Below.drew (Below.refl _ V3)) hk3)
   have HSA := Lib.hid (HSA.out.below hkq)
   have HIH1 := Lib.hid (Row.below HIH0.out hkq)
   clear hk3 hkq HIH0
   go_upto_region 5 with fail
   obtain ⟨V5, eW, S⟩ := S.pack
   rw [eW] at hO9 HSA HIH1 ⊢
   have HIA0 := Lib.hid hO9
   clear eW hO9
   go_wp2_with (refine wpList_load_mid rfl 49 _ rfl (P3 + 1) 0 rfl _ _ (own_range (S.o 0 rfl)) Tryz.underlying49 rfl (by kernel_rfl) ?_)
   have hvs := HVS.out
   rw [hvs]
   clear hvs
   obtain ⟨TT, hTT⟩ : ∃ T : Array UInt8, #[100, 105, 109, 32, 50, 10, 115, 116, 97, 116, 105, 111, 110, 115, 32, 48, 10, 112, 111, 105, 110, 116, 115, 32, 48, 10, 114, 111, 119, 115, 32, 49, 10, 102, 114, 101, 101, 32, 48, 10, 114, 97, 110, 107, 32, 48, 10, 111, 98, 106, 101, 99, 116, 105, 118, 101, 32, 52, 10, 115, 105, 103, 109, 97, 50, 32, 52, 10, 114, 111, 119, 32, 48, 32, 49, 47, 50, 32, 56, 10, 119, 111, 114, 115, 116, 32, 48, 10] = T := ⟨_, rfl⟩
   have hpv : prnV knS = .tuple #[.string ⟨TT⟩, .int .i64 0] := by
    unfold prnV
    rw [kn_form, kn_sumT, ← hTT]
    rfl
   have HTT := Lib.hid hTT
   clear hTT
   refine (print_any HSA.out (HT.out.keep S.k) kn_sz (fun _ => by rw [kn_sumT]; decide)).mono ?_
   rintro e V6 ⟨rfl, hk6⟩
   rw [hpv]
   replace S := S.below hk6
   have HIH2 := Lib.hid (Row.below HIH1.out hk6)
   have HIA1 := Lib.hid (Row.below HIA0.out hk6)
   clear hk6 hpv HIH1 HIA0 HSA HVS
   go_wp2_with fail
   refine (rcode_eq (c' := 0) (gof_num 1 4 (by omega) (by omega) (by omega) (by omega)) (by decide) rfl).mono ?_
   rintro e V8 ⟨U, rfl, hp, hk⟩
   rw [if_pos rfl] at hp
   obtain ⟨q1, q2, q3, q4, q5, q6, q7, q8, rfl⟩ := hp.open_
   replace S := (S.below hk).addQ hp
   have HIH3 := Lib.hid (Row.below HIH2.out hk)
   have HIA2 := Lib.hid (Row.below HIA1.out hk)
   clear hk hp HIH2 HIA1
   go_upto_region 7 with fail
   replace S := S.alloc 31 [.bool q1, .slice q2 q3 q4, .bool q5, .slice q6 q7 q8]
   have hkb := box2 V8 (.cells #[.bool q1, .slice q2 q3 q4, .bool q5, .slice q6 q7 q8] 31)
   obtain ⟨V7, eW, S⟩ := S.pack
   rw [eW] at hkb ⊢
   have HIH := Lib.hid (fun (u : World) (hk : Keeps V7 u) => Row.below (Row.below HIH3.out hkb) hk)
   have HIA := Lib.hid (fun (u : World) (hk : Keeps V7 u) => Row.below (Row.below HIA2.out hkb) hk)
   have hq4 := S.qi 0 rfl
   have HQ4 := Lib.hid (fun (u : World) (hk : Keeps V7 u) => RatRep.map hq4 hk.same32)
   have hsr := three_rep (S.o 4 rfl) (S.qi 7 rfl) (S.qi 6 rfl) (S.qi 5 rfl)
   have HSR := Lib.hid (fun (u : World) (hk : Keeps V7 u) => Row4.below lasts_rep hsr hk)
   have hTT := HTT.out
   clear eW hkb HIH3 HIA2 hq4 hsr HTT
   refine wp_region_steps (m := 34) rfl (by kernel_rfl) (kn7Φ q1 q5 q2 q6 Aa q3 q4 q7 q8 ca P1 gh TT) [] ?_ ?_ ?_
   ·intro i v w w' hi h hk
    match i, hi with
    | 0, _ | 1, _ | 2, _ | 3, _ | 4, _ | 5, _ | 6, _ | 7, _ | 8, _ | 9, _ | 10, _ | 14, _ | 15, _ | 16, _ | 17, _ | 18, _ | 19, _ | 20, _ | 21, _ | 23, _ | 24, _ | 25, _ | 26, _ | 28, _ | 29, _ | 30, _ | 31, _ | 32, _ | 33, _ => exact h
    | 11, _ => exact h.map hk.same32
    | 12, _ => exact h.map hk.same32
    | 13, _ => exact h.elim fun b ⟨h1, h3⟩ => ⟨b, h1, h3.below lasts_rep hk⟩
    | 22, _ => exact h.elim fun b ⟨h1, h3⟩ => ⟨b, h1, h3.below hk⟩
    | 27, _ => exact h.elim fun b ⟨h1, h3⟩ => ⟨b, h1, h3.below hk⟩
    | i + 34, hi => exact absurd hi (by omega)
   ·intro i hi vs wph3 hk3 hd
    have hkq := (Keeps.trans' (w1 := V7.drew) (Below.drew (Below.refl _ V7)) hk3)
    have S3 := S.below hkq
    obtain ⟨a0, a1, a2, a3⟩ := S3.cc4 0 rfl
    match i, hi with
    | 0, _ =>
     refine step_yes [] rfl (by kernel_rfl) fun K hK => ?_
     simp only [frD] at hK ⊢
     refine ⟨by rfl, ?_⟩
     go_simp
     exact hK _ _ ⟨Below.refl _ _, rfl, by simp⟩
    | 1, _ =>
     refine step_yes [] rfl (by kernel_rfl) fun K hK => ?_
     simp only [frD] at hK ⊢
     refine ⟨by rfl, ?_⟩
     go_simp
     exact hK _ _ ⟨Below.refl _ _, rfl, by simp⟩
    | 2, _ =>
     have e0 : vs 0 = .int .i64 0 := hd 0 (List.contains_iff_mem.1 (by kernel_rfl))
     have e1 : vs 1 = .int .i64 0 := hd 1 (List.contains_iff_mem.1 (by kernel_rfl))
     refine step_yes [(0, some 60), (1, some 61)] rfl (by kernel_rfl) fun K hK => ?_
     simp only [frD, e0, e1] at hK ⊢
     refine ⟨by rfl, ?_⟩
     go_simp
     exact hK _ _ ⟨Below.refl _ _, rfl, by simp⟩
    | 3, _ =>
     refine step_yes [] rfl (by kernel_rfl) fun K hK => ?_
     simp only [frD] at hK ⊢
     refine ⟨by rfl, ?_⟩
     go_simp
     exact hK _ _ ⟨Below.refl _ _, rfl, by simp⟩
    | 4, _ =>
     have e2 : vs 2 = .int .i64 0 := hd 2 (List.contains_iff_mem.1 (by kernel_rfl))
     have e3 : vs 3 = .int .i64 0 := hd 3 (List.contains_iff_mem.1 (by kernel_rfl))
     refine step_yes [(2, some 62), (3, some 63)] rfl (by kernel_rfl) fun K hK => ?_
     simp only [frD, e2, e3] at hK ⊢
     refine ⟨by rfl, ?_⟩
     go_simp
     exact hK _ _ ⟨Below.refl _ _, rfl, by simp⟩
    | 5, _ =>
     refine step_yes [] rfl (by kernel_rfl) fun K hK => ?_
     simp only [frD] at hK ⊢
     refine ⟨by rfl, ?_⟩
     go_simp
     exact hK _ _ ⟨Below.refl _ _, rfl, by simp⟩
    | 6, _ =>
     have e4 : vs 4 = .int .i64 0 := hd 4 (List.contains_iff_mem.1 (by kernel_rfl))
     have e5 : vs 5 = .int .i64 0 := hd 5 (List.contains_iff_mem.1 (by kernel_rfl))
     refine step_yes [(4, some 64), (5, some 65)] rfl (by kernel_rfl) fun K hK => ?_
     simp only [frD, e4, e5] at hK ⊢
     refine ⟨by rfl, ?_⟩
     go_simp
     exact hK _ _ ⟨Below.refl _ _, rfl, by simp⟩
    | 7, _ =>
     have e6 : vs 6 = .int .i64 0 := hd 6 (List.contains_iff_mem.1 (by kernel_rfl))
     refine step_yes [(6, some 66)] rfl (by kernel_rfl) fun K hK => ?_
     simp only [frD, e6] at hK ⊢
     refine ⟨by rfl, ?_⟩
     go_simp
     exact hK _ _ ⟨Below.refl _ _, rfl, by simp⟩
    | 8, _ =>
     have e7 : vs 7 = .bool true := hd 7 (List.contains_iff_mem.1 (by kernel_rfl))
     refine step_yes [(7, some 67)] rfl (by kernel_rfl) fun K hK => ?_
     simp only [frD, e7] at hK ⊢
     refine ⟨by rfl, ?_⟩
     go_simp
     exact hK _ _ ⟨Below.refl _ _, rfl, by simp⟩
    | 9, _ =>
     have e8 : vs 8 = .bool true := hd 8 (List.contains_iff_mem.1 (by kernel_rfl))
     refine step_yes [(8, some 68)] rfl (by kernel_rfl) fun K hK => ?_
     simp only [frD, e8] at hK ⊢
     refine ⟨by rfl, ?_⟩
     go_simp
     exact hK _ _ ⟨Below.refl _ _, rfl, by simp⟩
    | 10, _ =>
     have e8 : vs 8 = .bool true := hd 8 (List.contains_iff_mem.1 (by kernel_rfl))
     refine step_yes [(8, some 68)] rfl (by kernel_rfl) fun K hK => ?_
     simp only [frD, e8] at hK ⊢
     refine ⟨by rfl, ?_⟩
     go_simp
     exact hK _ _ ⟨Below.refl _ _, rfl, by simp⟩
    | 11, _ =>
     have e8 : vs 8 = .bool true := hd 8 (List.contains_iff_mem.1 (by kernel_rfl))
     refine step_yes [(8, some 68)] rfl (by kernel_rfl) fun K hK => ?_
     simp only [frD, e8] at hK ⊢
     refine ⟨by rfl, ?_⟩
     go_simp
     refine (lwhole_num 0 (by omega) (by omega)).mono ?_
     rintro e wph4 ⟨U, rfl, hr, hk4⟩
     exact hK _ _ ⟨hk4, hr, by simp⟩
    | 12, _ =>
     have e8 : vs 8 = .bool true := hd 8 (List.contains_iff_mem.1 (by kernel_rfl))
     have h11 : RatRep wph3 (vs 11) (wq 0) := hd 11 (List.contains_iff_mem.1 (by kernel_rfl))
     refine step_yes [(8, some 68), (11, some 71)] rfl (by kernel_rfl) fun K hK => ?_
     simp only [frD, e8] at hK ⊢
     refine ⟨by rfl, ?_⟩
     go_simp
     refine (lwhole_num 4 (by omega) (by omega)).mono ?_
     rintro e wph4 ⟨U, rfl, hr, hk4⟩
     exact hK _ _ ⟨hk4, hr, by simp⟩
    | 13, _ =>
     have e8 : vs 8 = .bool true := hd 8 (List.contains_iff_mem.1 (by kernel_rfl))
     have e10 : vs 10 = .agg #[.bool q1, .slice q2 q3 q4, .bool q5, .slice q6 q7 q8] := hd 10 (List.contains_iff_mem.1 (by kernel_rfl))
     have h11 : RatRep wph3 (vs 11) (wq 0) := hd 11 (List.contains_iff_mem.1 (by kernel_rfl))
     have h12 : RatRep wph3 (vs 12) (wq 4) := hd 12 (List.contains_iff_mem.1 (by kernel_rfl))
     obtain ⟨b1, A1, n1, c1, d1, B1, m1, e1, z1⟩ := h11.open_
     obtain ⟨b2, A2, n2, c2, d2, B2, m2, e2, z2⟩ := h12.open_
     rw [z1] at h11
     rw [z2] at h12
     refine step_yes [(8, some 68), (10, some 70), (11, some 71), (12, some 72)] rfl (by kernel_rfl) fun K hK => ?_
     simp only [frD, e8, e10, z1, z2] at hK ⊢
     refine ⟨by rfl, ?_⟩
     go_simp
     exact hK _ _ ⟨bl.alloc (Nat.le_refl _) _, ⟨_, rfl, three_rep (Own.new wph3 _ _) ((HQ4.out _ hkq).map (box2 wph3 _).same32) (h11.map (box2 wph3 _).same32) (h12.map (box2 wph3 _).same32)⟩, by simp⟩
    | 14, _ =>
     have e8 : vs 8 = .bool true := hd 8 (List.contains_iff_mem.1 (by kernel_rfl))
     have e9 : vs 9 = .slice (some ⟨P1, 0, none⟩) 3 3 := hd 9 (List.contains_iff_mem.1 (by kernel_rfl))
     have h12 : RatRep wph3 (vs 12) (wq 4) := hd 12 (List.contains_iff_mem.1 (by kernel_rfl))
     have h13 : ∃ b, (vs 13) = .slice (some ⟨b, 0, none⟩) 3 3 ∧ Row4 RatRep wph3 (some ⟨b, 0, none⟩) [Rat.divInt 1 4, wq 0, wq 4] := hd 13 (List.contains_iff_mem.1 (by kernel_rfl))
     obtain ⟨b3, z3, hR⟩ := h13
     refine step_yes [(8, some 68), (9, some 69), (12, some 72), (13, some 73)] rfl (by kernel_rfl) fun K hK => ?_
     simp only [frD, e8, e9, z3] at hK ⊢
     refine ⟨by rfl, ?_⟩
     go_simp
     refine (gsl_same (HSR.out _ hkq) hR rfl (by decide) (by decide +kernel)).mono ?_
     rintro e wph4 ⟨rfl, hk4⟩
     exact hK _ _ ⟨hk4, rfl, by simp⟩
    | 15, _ =>
     have e8 : vs 8 = .bool true := hd 8 (List.contains_iff_mem.1 (by kernel_rfl))
     have e14 : vs 14 = .bool true := hd 14 (List.contains_iff_mem.1 (by kernel_rfl))
     refine step_yes [(8, some 68), (14, some 74)] rfl (by kernel_rfl) fun K hK => ?_
     simp only [frD, e8, e14] at hK ⊢
     refine ⟨by rfl, ?_⟩
     go_simp
     exact hK _ _ ⟨Below.refl _ _, rfl, by simp⟩
    | 16, _ =>
     have e14 : vs 14 = .bool true := hd 14 (List.contains_iff_mem.1 (by kernel_rfl))
     have e15 : vs 15 = .bool true := hd 15 (List.contains_iff_mem.1 (by kernel_rfl))
     refine step_yes [(14, some 74), (15, some 75)] rfl (by kernel_rfl) fun K hK => ?_
     simp only [frD, e14, e15] at hK ⊢
     refine ⟨by rfl, ?_⟩
     go_simp
     exact hK _ _ ⟨Below.refl _ _, rfl, by simp⟩
    | 17, _ =>
     have e16 : vs 16 = .bool true := hd 16 (List.contains_iff_mem.1 (by kernel_rfl))
     refine step_yes [(16, some 76)] rfl (by kernel_rfl) fun K hK => ?_
     simp only [frD, e16] at hK ⊢
     refine ⟨by rfl, ?_⟩
     go_simp
     exact hK _ _ ⟨Below.refl _ _, rfl, by simp⟩
    | 18, _ =>
     have e16 : vs 16 = .bool true := hd 16 (List.contains_iff_mem.1 (by kernel_rfl))
     have e17 : vs 17 = .int .i64 1 := hd 17 (List.contains_iff_mem.1 (by kernel_rfl))
     refine step_yes [(16, some 76), (17, some 77)] rfl (by kernel_rfl) fun K hK => ?_
     simp only [frD, e16, e17] at hK ⊢
     refine ⟨by rfl, ?_⟩
     go_simp
     exact hK _ _ ⟨Below.refl _ _, rfl, by simp⟩
    | 19, _ =>
     have e16 : vs 16 = .bool true := hd 16 (List.contains_iff_mem.1 (by kernel_rfl))
     have e18 : vs 18 = .bool true := hd 18 (List.contains_iff_mem.1 (by kernel_rfl))
     refine step_yes [(16, some 76), (18, some 78)] rfl (by kernel_rfl) fun K hK => ?_
     simp only [frD, e16, e18] at hK ⊢
     refine ⟨by rfl, ?_⟩
     go_simp
     exact hK _ _ ⟨Below.refl _ _, rfl, by simp⟩
    | 20, _ =>
     have e16 : vs 16 = .bool true := hd 16 (List.contains_iff_mem.1 (by kernel_rfl))
     have e19 : vs 19 = .bool true := hd 19 (List.contains_iff_mem.1 (by kernel_rfl))
     refine step_yes [(16, some 76), (19, some 79)] rfl (by kernel_rfl) fun K hK => ?_
     simp only [frD, e16, e19] at hK ⊢
     refine ⟨by rfl, ?_⟩
     go_simp
     exact hK _ _ ⟨Below.refl _ _, rfl, by simp⟩
    | 21, _ =>
     have e20 : vs 20 = .bool true := hd 20 (List.contains_iff_mem.1 (by kernel_rfl))
     refine step_yes [(20, some 80)] rfl (by kernel_rfl) fun K hK => ?_
     simp only [frD, e20] at hK ⊢
     refine ⟨by rfl, ?_⟩
     go_simp
     exact hK _ _ ⟨Below.refl _ _, rfl, by simp⟩
    | 22, _ =>
     have e20 : vs 20 = .bool true := hd 20 (List.contains_iff_mem.1 (by kernel_rfl))
     refine step_yes [(20, some 80)] rfl (by kernel_rfl) fun K hK => ?_
     simp only [frD, e20] at hK ⊢
     refine ⟨by rfl, ?_⟩
     go_simp
     exact hK _ _ ⟨bl.alloc (Nat.le_refl _) _, ⟨_, rfl, own_irow (l := [0, 0, 1]) (Own.new wph3 _ _)⟩, by simp⟩
    | 23, _ =>
     have e20 : vs 20 = .bool true := hd 20 (List.contains_iff_mem.1 (by kernel_rfl))
     have e21 : vs 21 = .slice (some ⟨gh, 0, none⟩) 3 3 := hd 21 (List.contains_iff_mem.1 (by kernel_rfl))
     have h22 : ∃ b, (vs 22) = .slice (some ⟨b, 0, none⟩) 3 3 ∧ IRow wph3 (some ⟨b, 0, none⟩) [0, 0, 1] := hd 22 (List.contains_iff_mem.1 (by kernel_rfl))
     obtain ⟨b3, z3, hR⟩ := h22
     refine step_yes [(20, some 80), (21, some 81), (22, some 82)] rfl (by kernel_rfl) fun K hK => ?_
     simp only [frD, e20, e21, z3] at hK ⊢
     refine ⟨by rfl, ?_⟩
     go_simp
     refine (equalI_same (HIH.out _ hkq) hR rfl (by decide)).mono ?_
     rintro e wph4 ⟨rfl, hk4⟩
     exact hK _ _ ⟨hk4, rfl, by simp⟩
    | 24, _ =>
     have e20 : vs 20 = .bool true := hd 20 (List.contains_iff_mem.1 (by kernel_rfl))
     have e23 : vs 23 = .bool true := hd 23 (List.contains_iff_mem.1 (by kernel_rfl))
     refine step_yes [(20, some 80), (23, some 83)] rfl (by kernel_rfl) fun K hK => ?_
     simp only [frD, e20, e23] at hK ⊢
     refine ⟨by rfl, ?_⟩
     go_simp
     exact hK _ _ ⟨Below.refl _ _, rfl, by simp⟩
    | 25, _ =>
     have e23 : vs 23 = .bool true := hd 23 (List.contains_iff_mem.1 (by kernel_rfl))
     have e24 : vs 24 = .bool true := hd 24 (List.contains_iff_mem.1 (by kernel_rfl))
     refine step_yes [(23, some 83), (24, some 84)] rfl (by kernel_rfl) fun K hK => ?_
     simp only [frD, e23, e24] at hK ⊢
     refine ⟨by rfl, ?_⟩
     go_simp
     exact hK _ _ ⟨Below.refl _ _, rfl, by simp⟩
    | 26, _ =>
     have e25 : vs 25 = .bool true := hd 25 (List.contains_iff_mem.1 (by kernel_rfl))
     refine step_yes [(25, some 85)] rfl (by kernel_rfl) fun K hK => ?_
     simp only [frD, e25] at hK ⊢
     refine ⟨by rfl, ?_⟩
     go_simp
     exact hK _ _ ⟨Below.refl _ _, rfl, by simp⟩
    | 27, _ =>
     have e25 : vs 25 = .bool true := hd 25 (List.contains_iff_mem.1 (by kernel_rfl))
     refine step_yes [(25, some 85)] rfl (by kernel_rfl) fun K hK => ?_
     simp only [frD, e25] at hK ⊢
     refine ⟨by rfl, ?_⟩
     go_simp
     exact hK _ _ ⟨bl.alloc (Nat.le_refl _) _, ⟨_, rfl, own_irow (l := [0]) (Own.new wph3 _ _)⟩, by simp⟩
    | 28, _ =>
     have e25 : vs 25 = .bool true := hd 25 (List.contains_iff_mem.1 (by kernel_rfl))
     have e26 : vs 26 = .slice Aa 1 ca := hd 26 (List.contains_iff_mem.1 (by kernel_rfl))
     have h27 : ∃ b, (vs 27) = .slice (some ⟨b, 0, none⟩) 1 1 ∧ IRow wph3 (some ⟨b, 0, none⟩) [0] := hd 27 (List.contains_iff_mem.1 (by kernel_rfl))
     obtain ⟨b3, z3, hR⟩ := h27
     refine step_yes [(25, some 85), (26, some 86), (27, some 87)] rfl (by kernel_rfl) fun K hK => ?_
     simp only [frD, e25, e26, z3] at hK ⊢
     refine ⟨by rfl, ?_⟩
     go_simp
     refine (equalI_same (HIA.out _ hkq) hR rfl (by decide)).mono ?_
     rintro e wph4 ⟨rfl, hk4⟩
     exact hK _ _ ⟨hk4, rfl, by simp⟩
    | 29, _ =>
     have e25 : vs 25 = .bool true := hd 25 (List.contains_iff_mem.1 (by kernel_rfl))
     have e28 : vs 28 = .bool true := hd 28 (List.contains_iff_mem.1 (by kernel_rfl))
     refine step_yes [(25, some 85), (28, some 88)] rfl (by kernel_rfl) fun K hK => ?_
     simp only [frD, e25, e28] at hK ⊢
     refine ⟨by rfl, ?_⟩
     go_simp
     exact hK _ _ ⟨Below.refl _ _, rfl, by simp⟩
    | 30, _ =>
     have e28 : vs 28 = .bool true := hd 28 (List.contains_iff_mem.1 (by kernel_rfl))
     have e29 : vs 29 = .bool true := hd 29 (List.contains_iff_mem.1 (by kernel_rfl))
     refine step_yes [(28, some 88), (29, some 89)] rfl (by kernel_rfl) fun K hK => ?_
     simp only [frD, e28, e29] at hK ⊢
     refine ⟨by rfl, ?_⟩
     go_simp
     exact hK _ _ ⟨Below.refl _ _, rfl, by simp⟩
    | 31, _ =>
     have e30 : vs 30 = .bool true := hd 30 (List.contains_iff_mem.1 (by kernel_rfl))
     refine step_yes [(30, some 90)] rfl (by kernel_rfl) fun K hK => ?_
     simp only [frD, e30] at hK ⊢
     refine ⟨by rfl, ?_⟩
     go_simp
     exact hK _ _ ⟨Below.refl _ _, rfl, by simp⟩
    | 32, _ =>
     have e30 : vs 30 = .bool true := hd 30 (List.contains_iff_mem.1 (by kernel_rfl))
     have e31 : vs 31 = .string ⟨TT⟩ := hd 31 (List.contains_iff_mem.1 (by kernel_rfl))
     refine step_yes [(30, some 90), (31, some 91)] rfl (by kernel_rfl) fun K hK => ?_
     simp only [frD, e30, e31] at hK ⊢
     refine ⟨by rfl, ?_⟩
     go_simp
     exact hK _ _ ⟨Below.refl _ _, rfl, by simp⟩
    | 33, _ =>
     have e30 : vs 30 = .bool true := hd 30 (List.contains_iff_mem.1 (by kernel_rfl))
     have e32 : vs 32 = .bool true := hd 32 (List.contains_iff_mem.1 (by kernel_rfl))
     refine step_yes [(30, some 90), (32, some 92)] rfl (by kernel_rfl) fun K hK => ?_
     simp only [frD, e30, e32] at hK ⊢
     refine ⟨by rfl, ?_⟩
     go_simp
     exact hK _ _ ⟨Below.refl _ _, rfl, by simp⟩
    | i + 34, hi => exact absurd hi (by omega)
   ·intro vs wph3 hk3 hΦ _
    simp only [List.drop_succ_cons, List.drop_zero]
    rw [fr_frD, show (List.range 34).map _ = [(0, some 60), (1, some 61), (2, some 62), (3, some 63), (4, some 64), (5, some 65), (6, some 66), (7, some 67), (8, some 68), (9, some 69), (10, some 70), (11, some 71), (12, some 72), (13, some 73), (14, some 74), (15, some 75), (16, some 76), (17, some 77), (18, some 78), (19, some 79), (20, some 80), (21, some 81), (22, some 82), (23, some 83), (24, some 84), (25, some 85), (26, some 86), (27, some 87), (28, some 88), (29, some 89), (30, some 90), (31, some 91), (32, some 92), (33, some 93)] by kernel_rfl]
    have ph0 := hΦ 0 (by omega)
    have ph1 := hΦ 1 (by omega)
    have ph2 := hΦ 2 (by omega)
    have ph3 := hΦ 3 (by omega)
    have ph4 := hΦ 4 (by omega)
    have ph5 := hΦ 5 (by omega)
    have ph6 := hΦ 6 (by omega)
    have ph7 := hΦ 7 (by omega)
    have ph8 := hΦ 8 (by omega)
    have ph9 := hΦ 9 (by omega)
    have ph10 := hΦ 10 (by omega)
    have ph11 := hΦ 11 (by omega)
    have ph12 := hΦ 12 (by omega)
    have ph13 := hΦ 13 (by omega)
    have ph14 := hΦ 14 (by omega)
    have ph15 := hΦ 15 (by omega)
    have ph16 := hΦ 16 (by omega)
    have ph17 := hΦ 17 (by omega)
    have ph18 := hΦ 18 (by omega)
    have ph19 := hΦ 19 (by omega)
    have ph20 := hΦ 20 (by omega)
    have ph21 := hΦ 21 (by omega)
    have ph22 := hΦ 22 (by omega)
    have ph23 := hΦ 23 (by omega)
    have ph24 := hΦ 24 (by omega)
    have ph25 := hΦ 25 (by omega)
    have ph26 := hΦ 26 (by omega)
    have ph27 := hΦ 27 (by omega)
    have ph28 := hΦ 28 (by omega)
    have ph29 := hΦ 29 (by omega)
    have ph30 := hΦ 30 (by omega)
    have ph31 := hΦ 31 (by omega)
    have ph32 := hΦ 32 (by omega)
    have ph33 := hΦ 33 (by omega)
    simp only [kn7Φ] at ph0 ph1 ph2 ph3 ph4 ph5 ph6 ph7 ph8 ph9 ph10 ph11 ph12 ph13 ph14 ph15 ph16 ph17 ph18 ph19 ph20 ph21 ph22 ph23 ph24 ph25 ph26 ph27 ph28 ph29 ph30 ph31 ph32 ph33
    clear hΦ
    simp only [frD, ph0, ph1, ph2, ph3, ph4, ph5, ph6, ph7, ph8, ph9, ph10, ph14, ph15, ph16, ph17, ph18, ph19, ph20, ph21, ph23, ph24, ph25, ph26, ph28, ph29, ph30, ph31, ph32, ph33]
    simp only [Act.put, List.setIfInBounds_toArray, List.set_cons_zero, List.set_cons_succ]
    clear ph0
    clear ph1
    clear ph2
    clear ph3
    clear ph4
    clear ph5
    clear ph6
    clear ph7
    clear ph8
    clear ph9
    clear ph10
    generalize vs 11 = U11 at ph11 ⊢
    generalize vs 12 = U12 at ph12 ⊢
    generalize vs 13 = U13 at ph13 ⊢
    clear ph14
    clear ph15
    clear ph16
    clear ph17
    clear ph18
    clear ph19
    clear ph20
    clear ph21
    generalize vs 22 = U22 at ph22 ⊢
    clear ph23
    clear ph24
    clear ph25
    clear ph26
    generalize vs 27 = U27 at ph27 ⊢
    clear ph28
    clear ph29
    clear ph30
    clear ph31
    clear ph32
    clear ph33
    replace S := S.drew.below hk3
    clear ph11 ph12 ph13 ph22 ph27
    go_wp2
    go_ret
    exact ⟨rfl, S.k⟩
end Go.Proofs.YtgcigdahjabimaaGreatDoor
