/- volume.total: the walk, for both height functions. -/
import Derived.Test.YtecibfncnaccjaaGreatPo39
import Derived.Test.YtecibfncnaccjaaGreatPo30
import Derived.Test.YtecibfncnaccjaaGreatPo40
import Derived.Test.YtecibfncnaccjaaGreatPo37
namespace Go.Proofs.YtecibfncnaccjaaGreat
open Go.RowKit Go.Shelf
theorem trig_u {P : Program} {F : FuncId} {args : Array Value} {w : World} {p n : Rat} (h : Calls P F args w (TriG p n w)) : Calls P F args w fun e w' => ∃ U V, e = .returned (.tuple #[U, V]) ∧ RatRep w' U p ∧ RatRep w' V n ∧ Keeps w w' := by
 refine h.mono ?_
 rintro e w' ⟨U, V, p', n', rfl, h1, h2, ⟨rfl, rfl⟩, hk⟩
 exact ⟨U, V, rfl, h1, h2, hk⟩
theorem szR_upT {a b c : Rat} (ha : szR a ≤ 1) (hb : szR b ≤ 1) (hc : szR c ≤ 1) : szR (upT a b c) ≤ 30 ∧ szR (dnT a b c) ≤ 30 := by
 have h0 := szR_null
 have h1 : szR (meanT a b c) ≤ 6 := by
  have := szR_mul (Rat.divInt 1 3) (a + b + c)
  have := szR_sum3 a b c
  have : szR (Rat.divInt 1 3) ≤ 1 := by decide +kernel
  unfold meanT
  omega
 have h2 : szR (pkT c a b) ≤ 13 := by
  have := szR_pk c a b
  unfold pkT
  omega
 have h3 : szR (pkT (-a) (-b) (-c)) ≤ 13 := by
  have := szR_pk (-a) (-b) (-c)
  rw [szR_neg, szR_neg, szR_neg] at this
  unfold pkT
  omega
 have h4 := szR_add (pkT (-a) (-b) (-c)) (meanT a b c)
 have h5 := szR_sub (pkT c a b) (meanT a b c)
 have h6 := szR_neg (meanT a b c)
 constructor
 ·unfold upT
  split
  ·omega
  ·split
   ·omega
   ·split <;> omega
 ·unfold dnT
  split
  ·omega
  ·split
   ·omega
   ·split <;> omega
theorem szR_upV {x y z : Rat} (hx : szR x ≤ 1) (hy : szR y ≤ 1) (hz : szR z ≤ 1) : szR (upV x y z) ≤ 30 ∧ szR (dnV x y z) ≤ 30 := by
 obtain ⟨a, b, c, h, -, -, hp⟩ := srtR_3 x y z
 have e1 : upV x y z = upT a b c := by unfold upV; rw [h]; rfl
 have e2 : dnV x y z = dnT a b c := by unfold dnV; rw [h]; rfl
 rw [e1, e2]
 simp only [List.cons.injEq, and_true] at hp
 rcases hp with ⟨rfl, rfl, rfl⟩ | ⟨rfl, rfl, rfl⟩ | ⟨rfl, rfl, rfl⟩ | ⟨rfl, rfl, rfl⟩ | ⟨rfl, rfl, rfl⟩ | ⟨rfl, rfl, rfl⟩ <;> exact szR_upT (by assumption) (by assumption) (by assumption)
theorem szR_i1 {z : Int} (h1 : -9000000 ≤ z) (h2 : z ≤ 9000000) : szR (z : Rat) ≤ 1 := by
 have h := szR_small z 1 (by decide) (by omega) (by decide)
 rw [show Rat.divInt z 1 = (z : Rat) from by have := Rat.num_divInt_den (z : Rat); simpa using this] at h
 exact h
def HtC (P : Program) (F : FuncId) (L : Array Value) (u : World) (k : Nat) (x : Int) : Prop := Calls P F (#[.int .i64 (k : Nat)] ++ L) u fun e u' => e = .returned (.int .i64 x) ∧ Keeps u u'
abbrev upI (h : Nat → Int) (t : Tri) : Rat := upV (h t.1 : Rat) (h t.2.1 : Rat) (h t.2.2 : Rat)
abbrev dnI (h : Nat → Int) (t : Tri) : Rat := dnV (h t.1 : Rat) (h t.2.1 : Rat) (h t.2.2 : Rat)
set_option maxRecDepth 100000 in
set_option maxHeartbeats 4000000 in
theorem vtotal_L {w : World} {A Az : Option Addr} {c nz cz p1 p2 : Nat} {l : List Tri} {h : Nat → Int} {gx gy st gw gh : Int} (hr : TRow w A l) (hn : l.length ≤ 3000) (hs1 : 2 ≤ st) (hs2 : st ≤ 65536)
 (hb : ∀ t ∈ l, (-9000000 ≤ h t.1 ∧ h t.1 ≤ 9000000) ∧ (-9000000 ≤ h t.2.1 ∧ h t.2.1 ≤ 9000000) ∧ -9000000 ≤ h t.2.2 ∧ h t.2.2 ≤ 9000000)
 (hh : ∀ u, Keeps w u → ∀ t ∈ l, HtC Tryz.prog 42 #[.pointer (some ⟨p1, 0, none⟩), .pointer (some ⟨p2, 0, none⟩)] u t.1 (h t.1) ∧ HtC Tryz.prog 42 #[.pointer (some ⟨p1, 0, none⟩), .pointer (some ⟨p2, 0, none⟩)] u t.2.1 (h t.2.1) ∧ HtC Tryz.prog 42 #[.pointer (some ⟨p1, 0, none⟩), .pointer (some ⟨p2, 0, none⟩)] u t.2.2 (h t.2.2)) :
 Calls Tryz.prog 40 #[grV gx gy st gw gh Az nz cz, .slice A l.length c, .func (.func 42) #[] #[.pointer (some ⟨p1, 0, none⟩), .pointer (some ⟨p2, 0, none⟩)]] w (TriG (((st * st / 2 : Int) : Rat) * sumR (l.map (upI h))) (((st * st / 2 : Int) : Rat) * sumR (l.map (dnI h))) w) := by
 have HR := Lib.hid hr
 have HLN := Lib.hid hn
 have hnI : (l.length : Int) ≤ 3000 := by omega
 have HBD := Lib.hid hb
 have HH := Lib.hid hh
 have HZU : Hid (∀ q ∈ l.map (upI h), szR q ≤ 30) := Lib.hid (fun q hq => by
  obtain ⟨t, ht, rfl⟩ := List.mem_map.1 hq
  have := hb t ht
  exact (szR_upV (szR_i1 this.1.1 this.1.2) (szR_i1 this.2.1.1 this.2.1.2) (szR_i1 this.2.2.1 this.2.2.2)).1)
 have HZD : Hid (∀ q ∈ l.map (dnI h), szR q ≤ 30) := Lib.hid (fun q hq => by
  obtain ⟨t, ht, rfl⟩ := List.mem_map.1 hq
  have := hb t ht
  exact (szR_upV (szR_i1 this.1.1 this.1.2) (szR_i1 this.2.1.1 this.2.1.2) (szR_i1 this.2.2.1 this.2.2.2)).2)
 have hq0 : 0 ≤ st * st := Int.mul_nonneg (by omega) (by omega)
 have hq1 : st * st ≤ 65536 * 65536 := Int.mul_le_mul hs2 hs2 (by omega) (by omega)
 obtain ⟨sq, hsq⟩ : ∃ q, st * st = q := ⟨_, rfl⟩
 rw [hsq] at hq0 hq1 ⊢
 obtain ⟨ar, har⟩ : ∃ q, sq / 2 = q := ⟨_, rfl⟩
 have har2 : sq.tdiv 2 = ar := by rw [Int.tdiv_eq_ediv_of_nonneg hq0]; exact har
 have har0 : 0 ≤ ar := by omega
 have har1 : ar ≤ 2147483648 := by omega
 have HAR : Hid (lenI ar ≤ 2) := Lib.hid (by
  have := dig_length_le (n := ar.natAbs) (k := 2) (by omega)
  exact this)
 rw [har]
 clear hr hn hb hh
 have y0 := szR_int 0
 have S := (St.start w)
 go_enter Tryz.func40, Tryz.ntmps40
 go_wp2_with fail
 replace S := (((S.alloc 24 [.int .i64 gx, .int .i64 gy, .int .i64 st, .int .i64 gw, .int .i64 gh, .slice Az nz cz]).alloc 35 [.bool false, .slice none 0 0, .bool false, .slice none 0 0]).alloc 35 [.bool false, .slice none 0 0, .bool false, .slice none 0 0])
 simp only [World.size_alloc] at S
 obtain ⟨W1, eW, S⟩ := S.pack
 rw [eW]
 clear eW
 refine ((whole_num 0 (by omega) (by omega))).mono ?_
 rintro e W2 ⟨U2, rfl, hp, hk⟩
 obtain ⟨b3, A3, n3, c3, d3, B3, m3, e3, rfl⟩ := hp.open_
 replace S := (S.below hk).addQ hp
 clear hk hp
 go_wp2_with fail
 refine ((whole_num 0 (by omega) (by omega))).mono ?_
 rintro e W3 ⟨U3, rfl, hp, hk⟩
 obtain ⟨b4, A4, n4, c4, d4, B4, m4, e4, rfl⟩ := hp.open_
 replace S := (S.below hk).addQ hp
 clear hk hp
 have r1_0 := S.c 1 0 rfl rfl
 have f1_0 := S.f 1 0 rfl
 have r1_1 := S.c 1 1 rfl rfl
 have f1_1 := S.f 1 1 rfl
 have r1_2 := S.c 1 2 rfl rfl
 have f1_2 := S.f 1 2 rfl
 have r1_3 := S.c 1 3 rfl rfl
 have f1_3 := S.f 1 3 rfl
 have r2_0 := S.c 0 0 rfl rfl
 have f2_0 := S.f 0 0 rfl
 have r2_1 := S.c 0 1 rfl rfl
 have f2_1 := S.f 0 1 rfl
 have r2_2 := S.c 0 2 rfl rfl
 have f2_2 := S.f 0 2 rfl
 have r2_3 := S.c 0 3 rfl rfl
 have f2_3 := S.f 0 3 rfl
 go_wp2
 replace S := ((S.put4 1 rfl rfl rfl (x' := .bool b3) (y' := .slice A3 n3 c3) (z' := .bool d3) (u' := .slice B3 m3 e3)).put4 0 rfl rfl rfl (x' := .bool b4) (y' := .slice A4 n4 c4) (z' := .bool d4) (u' := .slice B4 m4 e4))
 obtain ⟨W4, eW, S⟩ := S.pack
 rw [eW]
 clear eW
 clear r1_0 f1_0 r1_1 f1_1 r1_2 f1_2 r1_3 f1_3 r2_0 f2_0 r2_1 f2_1 r2_2 f2_2 r2_3 f2_3
 replace S := (S.onlyL.addQ (S.qi 0 rfl)).addQ (S.qi 1 rfl)
 go_loopw [17] (fun i wr => ∃ (k : Nat) (b8 : Bool) (A8 : Option Addr) (n8 c8 : Nat) (d8 : Bool) (B8 : Option Addr) (m8 e8 : Nat) (b9 : Bool) (A9 : Option Addr) (n9 c9 : Nat) (d9 : Bool) (B9 : Option Addr) (m9 e9 : Nat), k ≤ l.length ∧ i = .int .i64 (k : Nat) ∧
  St w wr [(w.heap.size + 1 + 1, 35, [.bool b9, .slice A9 n9 c9, .bool d9, .slice B9 m9 e9]), (w.heap.size + 1, 35, [.bool b8, .slice A8 n8 c8, .bool d8, .slice B8 m8 e8]), (w.heap.size, 24, grL gx gy st gw gh Az nz cz)]
   [fun w => RatRep w (.agg #[.bool b8, .slice A8 n8 c8, .bool d8, .slice B8 m8 e8]) (sumR ((l.map (upI h)).take k)), fun w => RatRep w (.agg #[.bool b9, .slice A9 n9 c9, .bool d9, .slice B9 m9 e9]) (sumR ((l.map (dnI h)).take k))]) (fun i _ => l.length - (intOf i).toNat)
 case atStart => exact ⟨0, b3, A3, n3, c3, d3, B3, m3, e3, b4, A4, n4, c4, d4, B4, m4, e4, Nat.zero_le _, rfl, S⟩
 case round =>
  clear S
  obtain ⟨k, b8, A8, n8, c8, d8, B8, m8, e8, b9, A9, n9, c9, d9, B9, m9, e9, hkd, rfl, S⟩ := hrel
  have zu := szR_sum HZU.out k (by rw [List.length_map]; exact hkd)
  have zd := szR_sum HZD.out k (by rw [List.length_map]; exact hkd)
  by_cases hlt : k < l.length
  ·obtain ⟨⟨ta, tb, td⟩, hq⟩ : ∃ t, l[k]? = some t := ⟨_, List.getElem?_eq_getElem hlt⟩
   obtain ⟨B, o, rfl, hBl, x0, x1, x2⟩ := (HR.out.below S.k) k _ hq
   have hmem : (ta, tb, td) ∈ l := List.mem_of_getElem? hq
   have hlk : l[k] = (ta, tb, td) := (List.getElem?_eq_some_iff.1 hq).2
   have hb := HBD.out _ hmem
   have HA := Lib.hid (fun (u : World) (hk : Keeps w u) => (HH.out u hk _ hmem).1)
   have HB := Lib.hid (fun (u : World) (hk : Keeps w u) => (HH.out u hk _ hmem).2.1)
   have HD := Lib.hid (fun (u : World) (hk : Keeps w u) => (HH.out u hk _ hmem).2.2)
   have hsu := sumR_take (l := l.map (upI h)) (k := k) (by rw [List.length_map]; exact hlt)
   have hsd := sumR_take (l := l.map (dnI h)) (k := k) (by rw [List.length_map]; exact hlt)
   rw [List.getElem_map, hlk] at hsu hsd
   simp only [upI, dnI] at hsu hsd hb x0 x1 x2 HA HB HD
   obtain ⟨xa, hxa⟩ : ∃ x, h ta = x := ⟨_, rfl⟩
   obtain ⟨xb, hxb⟩ : ∃ x, h tb = x := ⟨_, rfl⟩
   obtain ⟨xd, hxd⟩ : ∃ x, h td = x := ⟨_, rfl⟩
   rw [hxa] at hsu hsd hb HA
   rw [hxb] at hsu hsd hb HB
   rw [hxd] at hsu hsd hb HD
   obtain ⟨⟨ba1, ba2⟩, ⟨bb1, bb2⟩, bd1, bd2⟩ := hb
   have zx := szR_i1 ba1 ba2
   have zy := szR_i1 bb1 bb2
   have zz := szR_i1 bd1 bd2
   have zuv := szR_upV zx zy zz
   obtain ⟨zv1, zv2⟩ := zuv
   have HSU := Lib.hid hsu
   have HSD := Lib.hid hsd
   have hkI : (k : Int) ≤ 3000 := by have := HLN.out; omega
   have hk9 : k ≤ 3000 := by have := HLN.out; omega
   generalize sumR ((l.map (upI h)).take k) = su at *
   generalize sumR ((l.map (dnI h)).take k) = sd at *
   clear hsu hsd hq hmem hlk hxa hxb hxd hBl
   have y0 := szR_int xa
   have y1 := szR_int xb
   have y2 := szR_int xd
   have y3 := szR_add su (upV (((xa : Int) : Rat)) (((xb : Int) : Rat)) (((xd : Int) : Rat)))
   have y4 := szR_add sd (dnV (((xa : Int) : Rat)) (((xb : Int) : Rat)) (((xd : Int) : Rat)))
   have t1 : decide ((k : Int) < (l.length : Int)) = true := by exact decide_eq_true (by omega)
   go_upto_region 5 with fail
   replace S := (S.alloc 74 [.int .i64 (ta : Nat), .int .i64 (tb : Nat), .int .i64 (td : Nat)])
   obtain ⟨W41, eW, S⟩ := S.pack
   rw [eW]
   clear eW
   generalize wr.heap.size = P41 at *
   refine wp_region_late 18 22 (m := 21) rfl (by kernel_rfl) (fun iF vF wF => (List.getD [ve (.func (.func 42) #[] #[.pointer (some ⟨p1, 0, none⟩), .pointer (some ⟨p2, 0, none⟩)]), ve (.pointer (some ⟨P41, 0, none⟩)), ve (.int .i64 (ta : Nat)), ve (.int .i64 xa), fun vF wF => RatRep wF vF (((xa : Int) : Rat)), ve (.func (.func 42) #[] #[.pointer (some ⟨p1, 0, none⟩), .pointer (some ⟨p2, 0, none⟩)]), ve (.pointer (some ⟨P41, 1, none⟩)), ve (.int .i64 (tb : Nat)), ve (.int .i64 xb), fun vF wF => RatRep wF vF (((xb : Int) : Rat)), ve (.func (.func 42) #[] #[.pointer (some ⟨p1, 0, none⟩), .pointer (some ⟨p2, 0, none⟩)]), ve (.pointer (some ⟨P41, 2, none⟩)), ve (.int .i64 (td : Nat)), ve (.int .i64 xd), fun vF wF => RatRep wF vF (((xd : Int) : Rat)), fun vF wF => TupU (upV (((xa : Int) : Rat)) (((xb : Int) : Rat)) (((xd : Int) : Rat))) (dnV (((xa : Int) : Rat)) (((xb : Int) : Rat)) (((xd : Int) : Rat))) vF wF, fun vF wF => TupU (upV (((xa : Int) : Rat)) (((xb : Int) : Rat)) (((xd : Int) : Rat))) (dnV (((xa : Int) : Rat)) (((xb : Int) : Rat)) (((xd : Int) : Rat))) vF wF, fun vF wF => RatRep wF vF (upV (((xa : Int) : Rat)) (((xb : Int) : Rat)) (((xd : Int) : Rat))), fun vF wF => RatRep wF vF (dnV (((xa : Int) : Rat)) (((xb : Int) : Rat)) (((xd : Int) : Rat))), fun vF wF => ∃ b, vF = .pointer (some ⟨b, 0, none⟩) ∧ W41.heap.size ≤ b ∧ Own wF b 35 [.bool false, .slice none 0 0, .bool false, .slice none 0 0], fun vF wF => ∃ b, vF = .pointer (some ⟨b, 0, none⟩) ∧ W41.heap.size ≤ b ∧ Own wF b 35 [.bool false, .slice none 0 0, .bool false, .slice none 0 0]] iF (fun _ _ => True)) vF wF) [19, 20] (by simp) ?_ ?_ ?_ ?_
   ·intro i v w w' _ h hk
    refine stabL_get ?_ i v w w' h hk
    exact stab_cons st_e (stab_cons st_e (stab_cons st_e (stab_cons st_e (stab_cons st_q (stab_cons st_e (stab_cons st_e (stab_cons st_e (stab_cons st_e (stab_cons st_q (stab_cons st_e (stab_cons st_e (stab_cons st_e (stab_cons st_e (stab_cons st_q (stab_cons st_tu (stab_cons st_tu (stab_cons st_q (stab_cons st_q (stab_cons st_a (stab_cons st_a stab_nil))))))))))))))))))))
   ·intro i hi vs w3 hk3 hd
    have S3 := S.drew.below hk3
    have a0 := S3.c 0 0 rfl rfl
    have a1 := S3.c 0 1 rfl rfl
    have a2 := S3.c 0 2 rfl rfl
    match i, hi with
    | 0, _ =>
     refine sv0 [] (ve (.func (.func 42) #[] #[.pointer (some ⟨p1, 0, none⟩), .pointer (some ⟨p2, 0, none⟩)])) rfl fun K hK => ?_; clear hd; simp only [frD] at hK ⊢; go_simp
     exact hK _ _ bl rfl
    | 1, _ =>
     refine sv0 [] (ve (.pointer (some ⟨P41, 0, none⟩))) rfl fun K hK => ?_; clear hd; simp only [frD] at hK ⊢; go_simp
     exact hK _ _ bl rfl
    | 2, _ =>
     have qe1 : (vs 1) = .pointer (some ⟨P41, 0, none⟩) := hdk hd 1
     refine sv0 [(1, some 23)] (ve (.int .i64 (ta : Nat))) rfl fun K hK => ?_; clear hd; simp only [frD, qe1] at hK ⊢; go_simp
     exact hK _ _ bl rfl
    | 3, _ =>
     have qe0 : (vs 0) = .func (.func 42) #[] #[.pointer (some ⟨p1, 0, none⟩), .pointer (some ⟨p2, 0, none⟩)] := hdk hd 0; have qe2 : (vs 2) = .int .i64 (ta : Nat) := hdk hd 2
     refine step_callc (F := 42) (X := (vs 0)) (L := #[.pointer (some ⟨p1, 0, none⟩), .pointer (some ⟨p2, 0, none⟩)]) (A := #[(vs 2)]) (B := #[.int .i64 (ta : Nat)]) (C := #[.int .i64 (ta : Nat), .pointer (some ⟨p1, 0, none⟩), .pointer (some ⟨p2, 0, none⟩)]) [(0, some 22), (2, some 24)] (ve (.int .i64 xa)) rfl (by kernel_rfl) (fun _ _ h => h) rfl (wanted_none rfl) rfl rfl (by kernel_rfl) qe0 (by kernel_rfl) (by rw [qe2]) rfl Tryz.func42 (by kernel_rfl) (by kernel_rfl) ?_
     refine ((HA.out _ S3.k)).mono ?_; rintro e w4 ⟨rfl, hk4⟩; exact ⟨_, rfl, hk4, rfl⟩
    | 4, _ =>
     have qe3 : (vs 3) = .int .i64 xa := hdk hd 3
     refine sc (A := #[(vs 3)]) (B := #[.int .i64 xa]) [(3, some 25)] (fun vF wF => RatRep wF vF (((xa : Int) : Rat))) rfl (wanted_none rfl) (by rw [qe3]) Tryz.func44 ?_
     refine ((whole_num xa (by omega) (by omega))).mono ?_; rintro e w4 ⟨U, rfl, hr, hk4⟩; exact ⟨_, rfl, hk4, hr⟩
    | 5, _ =>
     refine sv0 [] (ve (.func (.func 42) #[] #[.pointer (some ⟨p1, 0, none⟩), .pointer (some ⟨p2, 0, none⟩)])) rfl fun K hK => ?_; clear hd; simp only [frD] at hK ⊢; go_simp
     exact hK _ _ bl rfl
    | 6, _ =>
     refine sv0 [] (ve (.pointer (some ⟨P41, 1, none⟩))) rfl fun K hK => ?_; clear hd; simp only [frD] at hK ⊢; go_simp
     exact hK _ _ bl rfl
    | 7, _ =>
     have qe6 : (vs 6) = .pointer (some ⟨P41, 1, none⟩) := hdk hd 6
     refine sv0 [(6, some 28)] (ve (.int .i64 (tb : Nat))) rfl fun K hK => ?_; clear hd; simp only [frD, qe6] at hK ⊢; go_simp
     exact hK _ _ bl rfl
    | 8, _ =>
     have h4 : RatRep w3 (vs 4) (((xa : Int) : Rat)) := hdk hd 4; have qe5 : (vs 5) = .func (.func 42) #[] #[.pointer (some ⟨p1, 0, none⟩), .pointer (some ⟨p2, 0, none⟩)] := hdk hd 5; have qe7 : (vs 7) = .int .i64 (tb : Nat) := hdk hd 7
     refine step_callc (F := 42) (X := (vs 5)) (L := #[.pointer (some ⟨p1, 0, none⟩), .pointer (some ⟨p2, 0, none⟩)]) (A := #[(vs 7)]) (B := #[.int .i64 (tb : Nat)]) (C := #[.int .i64 (tb : Nat), .pointer (some ⟨p1, 0, none⟩), .pointer (some ⟨p2, 0, none⟩)]) [(4, some 26), (5, some 27), (7, some 29)] (ve (.int .i64 xb)) rfl (by kernel_rfl) (fun _ _ h => h) rfl (wanted_none rfl) rfl rfl (by kernel_rfl) qe5 (by kernel_rfl) (by rw [qe7]) rfl Tryz.func42 (by kernel_rfl) (by kernel_rfl) ?_
     refine ((HB.out _ S3.k)).mono ?_; rintro e w4 ⟨rfl, hk4⟩; exact ⟨_, rfl, hk4, rfl⟩
    | 9, _ =>
     have qe8 : (vs 8) = .int .i64 xb := hdk hd 8
     refine sc (A := #[(vs 8)]) (B := #[.int .i64 xb]) [(8, some 30)] (fun vF wF => RatRep wF vF (((xb : Int) : Rat))) rfl (wanted_none rfl) (by rw [qe8]) Tryz.func44 ?_
     refine ((whole_num xb (by omega) (by omega))).mono ?_; rintro e w4 ⟨U, rfl, hr, hk4⟩; exact ⟨_, rfl, hk4, hr⟩
    | 10, _ =>
     refine sv0 [] (ve (.func (.func 42) #[] #[.pointer (some ⟨p1, 0, none⟩), .pointer (some ⟨p2, 0, none⟩)])) rfl fun K hK => ?_; clear hd; simp only [frD] at hK ⊢; go_simp
     exact hK _ _ bl rfl
    | 11, _ =>
     refine sv0 [] (ve (.pointer (some ⟨P41, 2, none⟩))) rfl fun K hK => ?_; clear hd; simp only [frD] at hK ⊢; go_simp
     exact hK _ _ bl rfl
    | 12, _ =>
     have qe11 : (vs 11) = .pointer (some ⟨P41, 2, none⟩) := hdk hd 11
     refine sv0 [(11, some 33)] (ve (.int .i64 (td : Nat))) rfl fun K hK => ?_; clear hd; simp only [frD, qe11] at hK ⊢; go_simp
     exact hK _ _ bl rfl
    | 13, _ =>
     have h9 : RatRep w3 (vs 9) (((xb : Int) : Rat)) := hdk hd 9; have qe10 : (vs 10) = .func (.func 42) #[] #[.pointer (some ⟨p1, 0, none⟩), .pointer (some ⟨p2, 0, none⟩)] := hdk hd 10; have qe12 : (vs 12) = .int .i64 (td : Nat) := hdk hd 12
     refine step_callc (F := 42) (X := (vs 10)) (L := #[.pointer (some ⟨p1, 0, none⟩), .pointer (some ⟨p2, 0, none⟩)]) (A := #[(vs 12)]) (B := #[.int .i64 (td : Nat)]) (C := #[.int .i64 (td : Nat), .pointer (some ⟨p1, 0, none⟩), .pointer (some ⟨p2, 0, none⟩)]) [(9, some 31), (10, some 32), (12, some 34)] (ve (.int .i64 xd)) rfl (by kernel_rfl) (fun _ _ h => h) rfl (wanted_none rfl) rfl rfl (by kernel_rfl) qe10 (by kernel_rfl) (by rw [qe12]) rfl Tryz.func42 (by kernel_rfl) (by kernel_rfl) ?_
     refine ((HD.out _ S3.k)).mono ?_; rintro e w4 ⟨rfl, hk4⟩; exact ⟨_, rfl, hk4, rfl⟩
    | 14, _ =>
     have qe13 : (vs 13) = .int .i64 xd := hdk hd 13
     refine sc (A := #[(vs 13)]) (B := #[.int .i64 xd]) [(13, some 35)] (fun vF wF => RatRep wF vF (((xd : Int) : Rat))) rfl (wanted_none rfl) (by rw [qe13]) Tryz.func44 ?_
     refine ((whole_num xd (by omega) (by omega))).mono ?_; rintro e w4 ⟨U, rfl, hr, hk4⟩; exact ⟨_, rfl, hk4, hr⟩
    | 15, _ =>
     have h4 : RatRep w3 (vs 4) (((xa : Int) : Rat)) := hdk hd 4; have h9 : RatRep w3 (vs 9) (((xb : Int) : Rat)) := hdk hd 9; have h14 : RatRep w3 (vs 14) (((xd : Int) : Rat)) := hdk hd 14
     refine sc (A := #[(vs 4), (vs 9), (vs 14)]) (B := #[(vs 4), (vs 9), (vs 14)]) [(4, some 26), (9, some 31), (14, some 36)] (fun vF wF => TupU (upV (((xa : Int) : Rat)) (((xb : Int) : Rat)) (((xd : Int) : Rat))) (dnV (((xa : Int) : Rat)) (((xb : Int) : Rat)) (((xd : Int) : Rat))) vF wF) rfl (wanted_none rfl) rfl Tryz.func77 ?_
     refine ((trig_u (vtriangle_num (h4.num (by omega)) (h9.num (by omega)) (h14.num (by omega)) (by omega) (by omega) (by omega)))).mono ?_; rintro e w4 ⟨U, V, rfl, hr, hr2, hk4⟩; exact ⟨_, rfl, hk4, ⟨U, V, rfl, hr, hr2⟩⟩
    | 16, _ =>
     have h15 : TupU (upV (((xa : Int) : Rat)) (((xb : Int) : Rat)) (((xd : Int) : Rat))) (dnV (((xa : Int) : Rat)) (((xb : Int) : Rat)) (((xd : Int) : Rat))) (vs 15) w3 := hdk hd 15; obtain ⟨Q9, R9, q9, hQ9, hR9⟩ := h15
     refine sv0 [(15, some 37)] (fun vF wF => TupU (upV (((xa : Int) : Rat)) (((xb : Int) : Rat)) (((xd : Int) : Rat))) (dnV (((xa : Int) : Rat)) (((xb : Int) : Rat)) (((xd : Int) : Rat))) vF wF) rfl fun K hK => ?_; clear hd; simp only [frD, q9] at hK ⊢; go_simp
     exact hK _ _ bl ⟨Q9, R9, rfl, hQ9, hR9⟩
    | 17, _ =>
     have h16 : TupU (upV (((xa : Int) : Rat)) (((xb : Int) : Rat)) (((xd : Int) : Rat))) (dnV (((xa : Int) : Rat)) (((xb : Int) : Rat)) (((xd : Int) : Rat))) (vs 16) w3 := hdk hd 16; obtain ⟨Q9, R9, q9, hQ9, hR9⟩ := h16
     refine sv0 [(16, some 21)] (fun vF wF => RatRep wF vF (upV (((xa : Int) : Rat)) (((xb : Int) : Rat)) (((xd : Int) : Rat)))) rfl fun K hK => ?_; clear hd; simp only [frD, q9] at hK ⊢; go_simp
     exact hK _ _ bl hQ9
    | 18, _ =>
     have h16 : TupU (upV (((xa : Int) : Rat)) (((xb : Int) : Rat)) (((xd : Int) : Rat))) (dnV (((xa : Int) : Rat)) (((xb : Int) : Rat)) (((xd : Int) : Rat))) (vs 16) w3 := hdk hd 16; obtain ⟨Q9, R9, q9, hQ9, hR9⟩ := h16
     refine sv0 [(16, some 21)] (fun vF wF => RatRep wF vF (dnV (((xa : Int) : Rat)) (((xb : Int) : Rat)) (((xd : Int) : Rat)))) rfl fun K hK => ?_; clear hd; simp only [frD, q9] at hK ⊢; go_simp
     exact hK _ _ bl hR9
    | 19, _ =>
     refine step_yes [] rfl (by kernel_rfl) fun K hK => ?_; simp only [frD] at hK ⊢; refine ⟨by rfl, ?_⟩; go_simp
     exact hK _ _ ⟨bl.alloc (Nat.le_refl _) _, ⟨_, rfl, hk3.size, Own.new w3 _ _⟩, fun _ => ⟨rfl, by simp⟩⟩
    | 20, _ =>
     refine step_yes [] rfl (by kernel_rfl) fun K hK => ?_; simp only [frD] at hK ⊢; refine ⟨by rfl, ?_⟩; go_simp
     exact hK _ _ ⟨bl.alloc (Nat.le_refl _) _, ⟨_, rfl, hk3.size, Own.new w3 _ _⟩, fun _ => ⟨rfl, by simp⟩⟩
    | i + 21, hi => exact absurd hi (by omega)
   ·intro vs w3 hk3 hd
    have h16 : TupU (upV (((xa : Int) : Rat)) (((xb : Int) : Rat)) (((xd : Int) : Rat))) (dnV (((xa : Int) : Rat)) (((xb : Int) : Rat)) (((xd : Int) : Rat))) (vs 16) w3 := hdk hd 16; obtain ⟨Q9, R9, q9, hQ9, hR9⟩ := h16
    refine pure_at (v := R9) [(16, some 21)] rfl (by kernel_rfl) (by exact hR9) fun w4 K hK => ?_; simp only [frD, q9] at hK ⊢; refine ⟨by rfl, ?_⟩; go_simp; exact hK
   ·intro vs W42 hk3 hΦ hne
    simp only [List.drop_succ_cons, List.drop_zero]
    rw [fr_frD, show (List.range 21).map _ = [(0, some 22), (1, some 23), (2, some 24), (3, some 25), (4, some 26), (5, some 27), (6, some 28), (7, some 29), (8, some 30), (9, some 31), (10, some 32), (11, some 33), (12, some 34), (13, some 35), (14, some 36), (15, some 37), (16, some 21), (17, some 38), (18, some 39), (19, some 10), (20, some 11)] by kernel_rfl]
    have pd0 : (vs 0) = .func (.func 42) #[] #[.pointer (some ⟨p1, 0, none⟩), .pointer (some ⟨p2, 0, none⟩)] := hΦ 0 (by decide)
    have pd1 : (vs 1) = .pointer (some ⟨P41, 0, none⟩) := hΦ 1 (by decide)
    have pd2 : (vs 2) = .int .i64 (ta : Nat) := hΦ 2 (by decide)
    have pd3 : (vs 3) = .int .i64 xa := hΦ 3 (by decide)
    have pd4 : RatRep W42 (vs 4) (((xa : Int) : Rat)) := hΦ 4 (by decide)
    have pd5 : (vs 5) = .func (.func 42) #[] #[.pointer (some ⟨p1, 0, none⟩), .pointer (some ⟨p2, 0, none⟩)] := hΦ 5 (by decide)
    have pd6 : (vs 6) = .pointer (some ⟨P41, 1, none⟩) := hΦ 6 (by decide)
    have pd7 : (vs 7) = .int .i64 (tb : Nat) := hΦ 7 (by decide)
    have pd8 : (vs 8) = .int .i64 xb := hΦ 8 (by decide)
    have pd9 : RatRep W42 (vs 9) (((xb : Int) : Rat)) := hΦ 9 (by decide)
    have pd10 : (vs 10) = .func (.func 42) #[] #[.pointer (some ⟨p1, 0, none⟩), .pointer (some ⟨p2, 0, none⟩)] := hΦ 10 (by decide)
    have pd11 : (vs 11) = .pointer (some ⟨P41, 2, none⟩) := hΦ 11 (by decide)
    have pd12 : (vs 12) = .int .i64 (td : Nat) := hΦ 12 (by decide)
    have pd13 : (vs 13) = .int .i64 xd := hΦ 13 (by decide)
    have pd14 : RatRep W42 (vs 14) (((xd : Int) : Rat)) := hΦ 14 (by decide)
    have pd15 : TupU (upV (((xa : Int) : Rat)) (((xb : Int) : Rat)) (((xd : Int) : Rat))) (dnV (((xa : Int) : Rat)) (((xb : Int) : Rat)) (((xd : Int) : Rat))) (vs 15) W42 := hΦ 15 (by decide)
    have pd16 : TupU (upV (((xa : Int) : Rat)) (((xb : Int) : Rat)) (((xd : Int) : Rat))) (dnV (((xa : Int) : Rat)) (((xb : Int) : Rat)) (((xd : Int) : Rat))) (vs 16) W42 := hΦ 16 (by decide)
    have pd17 : RatRep W42 (vs 17) (upV (((xa : Int) : Rat)) (((xb : Int) : Rat)) (((xd : Int) : Rat))) := hΦ 17 (by decide)
    have pd18 : RatRep W42 (vs 18) (dnV (((xa : Int) : Rat)) (((xb : Int) : Rat)) (((xd : Int) : Rat))) := hΦ 18 (by decide)
    have pd19 : ∃ b, (vs 19) = .pointer (some ⟨b, 0, none⟩) ∧ W41.heap.size ≤ b ∧ Own W42 b 35 [.bool false, .slice none 0 0, .bool false, .slice none 0 0] := hΦ 19 (by decide)
    have pd20 : ∃ b, (vs 20) = .pointer (some ⟨b, 0, none⟩) ∧ W41.heap.size ≤ b ∧ Own W42 b 35 [.bool false, .slice none 0 0, .bool false, .slice none 0 0] := hΦ 20 (by decide)
    clear hΦ
    obtain ⟨bpd19, qA19, hlA19, hOA19⟩ := pd19
    obtain ⟨bpd20, qA20, hlA20, hOA20⟩ := pd20
    simp only [frD, pd0, pd1, pd2, pd3, pd5, pd6, pd7, pd8, pd10, pd11, pd12, pd13, qA19, qA20]
    simp only [Act.put, List.setIfInBounds_toArray, List.set_cons_zero, List.set_cons_succ]
    clear pd0 pd1 pd2 pd3 pd5 pd6 pd7 pd8 pd10 pd11 pd12 pd13
    generalize vs 4 = Upd4 at pd4 ⊢
    generalize vs 9 = Upd9 at pd9 ⊢
    generalize vs 14 = Upd14 at pd14 ⊢
    generalize vs 15 = Upd15 at pd15 ⊢
    generalize vs 16 = Upd16 at pd16 ⊢
    generalize vs 17 = Upd17 at pd17 ⊢
    generalize vs 18 = Upd18 at pd18 ⊢
    have SD := S.drew
    replace S := S.drew.box (S.drew.below hk3) hOA19 hlA19
    have nApd : bpd20 ≠ bpd19 := fun e => hne 20 19 (by decide) (by decide) (by simp) (by simp) (by decide) (by rw [qA20, qA19, e])
    have nBpd := nApd.symm
    replace S := SD.box2 S hOA20 hlA20 nApd
    clear qA19 hlA19 hOA19 qA20 hlA20 hOA20
    clear SD hne
    clear pd4
    clear pd9
    clear pd14
    clear pd15
    clear pd16
    obtain ⟨b43, A43, n43, c43, d43, B43, m43, e43, rfl⟩ := pd17.open_
    replace S := S.addQ pd17
    clear pd17
    obtain ⟨b44, A44, n44, c44, d44, B44, m44, e44, rfl⟩ := pd18.open_
    replace S := S.addQ pd18
    clear pd18
    clear hk3
    have r4_0 := S.c 1 0 rfl rfl
    have f4_0 := S.f 1 0 rfl
    have r4_1 := S.c 1 1 rfl rfl
    have f4_1 := S.f 1 1 rfl
    have r4_2 := S.c 1 2 rfl rfl
    have f4_2 := S.f 1 2 rfl
    have r4_3 := S.c 1 3 rfl rfl
    have f4_3 := S.f 1 3 rfl
    have r5_0 := S.c 0 0 rfl rfl
    have f5_0 := S.f 0 0 rfl
    have r5_1 := S.c 0 1 rfl rfl
    have f5_1 := S.f 0 1 rfl
    have r5_2 := S.c 0 2 rfl rfl
    have f5_2 := S.f 0 2 rfl
    have r5_3 := S.c 0 3 rfl rfl
    have f5_3 := S.f 0 3 rfl
    go_upto_region 6 with fail
    replace S := ((S.put4 1 rfl rfl rfl (x' := .bool b43) (y' := .slice A43 n43 c43) (z' := .bool d43) (u' := .slice B43 m43 e43)).put4 0 rfl rfl rfl (x' := .bool b44) (y' := .slice A44 n44 c44) (z' := .bool d44) (u' := .slice B44 m44 e44))
    obtain ⟨W43, eW, S⟩ := S.pack
    rw [eW]
    clear eW
    clear r4_0 f4_0 r4_1 f4_1 r4_2 f4_2 r4_3 f4_3 r5_0 f5_0 r5_1 f5_1 r5_2 f5_2 r5_3 f5_3
    refine wp_region_steps (m := 6) rfl (by kernel_rfl) (fun iF vF wF => (List.getD [ve (.agg #[.bool b8, .slice A8 n8 c8, .bool d8, .slice B8 m8 e8]), ve (.agg #[.bool b43, .slice A43 n43 c43, .bool d43, .slice B43 m43 e43]), fun vF wF => RatRep wF vF (su + (upV (((xa : Int) : Rat)) (((xb : Int) : Rat)) (((xd : Int) : Rat)))), ve (.agg #[.bool b9, .slice A9 n9 c9, .bool d9, .slice B9 m9 e9]), ve (.agg #[.bool b44, .slice A44 n44 c44, .bool d44, .slice B44 m44 e44]), fun vF wF => RatRep wF vF (sd + (dnV (((xa : Int) : Rat)) (((xb : Int) : Rat)) (((xd : Int) : Rat))))] iF (fun _ _ => True)) vF wF) [] ?_ ?_ ?_
    ·intro i v w w' _ h hk
     refine stabL_get ?_ i v w w' h hk
     exact stab_cons st_e (stab_cons st_e (stab_cons st_q (stab_cons st_e (stab_cons st_e (stab_cons st_q stab_nil)))))
    ·intro i hi vs w3 hk3 hd
     have S3 := S.drew.below hk3
     obtain ⟨a0, a1, a2, a3⟩ := S3.cc4 4 rfl
     obtain ⟨a4, a5, a6, a7⟩ := S3.cc4 3 rfl
     obtain ⟨a8, a9, a10, a11⟩ := S3.cc4 1 rfl
     obtain ⟨a12, a13, a14, a15⟩ := S3.cc4 0 rfl
     match i, hi with
     | 0, _ =>
      refine sv0 [] (ve (.agg #[.bool b8, .slice A8 n8 c8, .bool d8, .slice B8 m8 e8])) rfl fun K hK => ?_; clear hd; simp only [frD] at hK ⊢; go_simp
      exact hK _ _ bl rfl
     | 1, _ =>
      refine sv0 [] (ve (.agg #[.bool b43, .slice A43 n43 c43, .bool d43, .slice B43 m43 e43])) rfl fun K hK => ?_; clear hd; simp only [frD] at hK ⊢; go_simp
      exact hK _ _ bl rfl
     | 2, _ =>
      have qe0 : (vs 0) = .agg #[.bool b8, .slice A8 n8 c8, .bool d8, .slice B8 m8 e8] := hdk hd 0; have qe1 : (vs 1) = .agg #[.bool b43, .slice A43 n43 c43, .bool d43, .slice B43 m43 e43] := hdk hd 1
      refine sc (A := #[(vs 0), (vs 1)]) (B := #[.agg #[.bool b8, .slice A8 n8 c8, .bool d8, .slice B8 m8 e8], .agg #[.bool b43, .slice A43 n43 c43, .bool d43, .slice B43 m43 e43]]) [(0, some 40), (1, some 41)] (fun vF wF => RatRep wF vF (su + (upV (((xa : Int) : Rat)) (((xb : Int) : Rat)) (((xd : Int) : Rat))))) rfl (wanted_none rfl) (by rw [qe0, qe1]) Tryz.func36 ?_
      refine ((fadd_num ((S3.qi 2 rfl).num (by omega)) ((S3.qi 1 rfl).num (by omega)))).mono ?_; rintro e w4 ⟨U, rfl, hr, hk4⟩; exact ⟨_, rfl, hk4, hr⟩
     | 3, _ =>
      refine sv0 [] (ve (.agg #[.bool b9, .slice A9 n9 c9, .bool d9, .slice B9 m9 e9])) rfl fun K hK => ?_; clear hd; simp only [frD] at hK ⊢; go_simp
      exact hK _ _ bl rfl
     | 4, _ =>
      refine sv0 [] (ve (.agg #[.bool b44, .slice A44 n44 c44, .bool d44, .slice B44 m44 e44])) rfl fun K hK => ?_; clear hd; simp only [frD] at hK ⊢; go_simp
      exact hK _ _ bl rfl
     | 5, _ =>
      have h2 : RatRep w3 (vs 2) (su + (upV (((xa : Int) : Rat)) (((xb : Int) : Rat)) (((xd : Int) : Rat)))) := hdk hd 2; have qe3 : (vs 3) = .agg #[.bool b9, .slice A9 n9 c9, .bool d9, .slice B9 m9 e9] := hdk hd 3; have qe4 : (vs 4) = .agg #[.bool b44, .slice A44 n44 c44, .bool d44, .slice B44 m44 e44] := hdk hd 4
      refine sc (A := #[(vs 3), (vs 4)]) (B := #[.agg #[.bool b9, .slice A9 n9 c9, .bool d9, .slice B9 m9 e9], .agg #[.bool b44, .slice A44 n44 c44, .bool d44, .slice B44 m44 e44]]) [(2, some 42), (3, some 43), (4, some 44)] (fun vF wF => RatRep wF vF (sd + (dnV (((xa : Int) : Rat)) (((xb : Int) : Rat)) (((xd : Int) : Rat))))) rfl (wanted_none rfl) (by rw [qe3, qe4]) Tryz.func36 ?_
      refine ((fadd_num ((S3.qi 3 rfl).num (by omega)) ((S3.qi 0 rfl).num (by omega)))).mono ?_; rintro e w4 ⟨U, rfl, hr, hk4⟩; exact ⟨_, rfl, hk4, hr⟩
     | i + 6, hi => exact absurd hi (by omega)
    ·intro vs W44 hk3 hΦ _
     simp only [List.drop_succ_cons, List.drop_zero]
     rw [fr_frD, show (List.range 6).map _ = [(0, some 40), (1, some 41), (2, some 42), (3, some 43), (4, some 44), (5, some 45)] by kernel_rfl]
     have pe0 : (vs 0) = .agg #[.bool b8, .slice A8 n8 c8, .bool d8, .slice B8 m8 e8] := hΦ 0 (by decide)
     have pe1 : (vs 1) = .agg #[.bool b43, .slice A43 n43 c43, .bool d43, .slice B43 m43 e43] := hΦ 1 (by decide)
     have pe2 : RatRep W44 (vs 2) (su + (upV (((xa : Int) : Rat)) (((xb : Int) : Rat)) (((xd : Int) : Rat)))) := hΦ 2 (by decide)
     have pe3 : (vs 3) = .agg #[.bool b9, .slice A9 n9 c9, .bool d9, .slice B9 m9 e9] := hΦ 3 (by decide)
     have pe4 : (vs 4) = .agg #[.bool b44, .slice A44 n44 c44, .bool d44, .slice B44 m44 e44] := hΦ 4 (by decide)
     have pe5 : RatRep W44 (vs 5) (sd + (dnV (((xa : Int) : Rat)) (((xb : Int) : Rat)) (((xd : Int) : Rat)))) := hΦ 5 (by decide)
     clear hΦ
     simp only [frD, pe0, pe1, pe3, pe4]
     simp only [Act.put, List.setIfInBounds_toArray, List.set_cons_zero, List.set_cons_succ]
     clear pe0 pe1 pe3 pe4
     generalize vs 2 = Upe2 at pe2 ⊢
     generalize vs 5 = Upe5 at pe5 ⊢
     replace S := S.drew.below hk3
     obtain ⟨b45, A45, n45, c45, d45, B45, m45, e45, rfl⟩ := pe2.open_
     replace S := S.addQ pe2
     clear pe2
     obtain ⟨b46, A46, n46, c46, d46, B46, m46, e46, rfl⟩ := pe5.open_
     replace S := S.addQ pe5
     clear pe5
     clear hk3
     have r1_0 := S.c 4 0 rfl rfl
     have f1_0 := S.f 4 0 rfl
     have r1_1 := S.c 4 1 rfl rfl
     have f1_1 := S.f 4 1 rfl
     have r1_2 := S.c 4 2 rfl rfl
     have f1_2 := S.f 4 2 rfl
     have r1_3 := S.c 4 3 rfl rfl
     have f1_3 := S.f 4 3 rfl
     have r2_0 := S.c 3 0 rfl rfl
     have f2_0 := S.f 3 0 rfl
     have r2_1 := S.c 3 1 rfl rfl
     have f2_1 := S.f 3 1 rfl
     have r2_2 := S.c 3 2 rfl rfl
     have f2_2 := S.f 3 2 rfl
     have r2_3 := S.c 3 3 rfl rfl
     have f2_3 := S.f 3 3 rfl
     go_wp2
     replace S := ((S.put4 4 rfl rfl rfl (x' := .bool b45) (y' := .slice A45 n45 c45) (z' := .bool d45) (u' := .slice B45 m45 e45)).put4 3 rfl rfl rfl (x' := .bool b46) (y' := .slice A46 n46 c46) (z' := .bool d46) (u' := .slice B46 m46 e46))
     clear r1_0 f1_0 r1_1 f1_1 r1_2 f1_2 r1_3 f1_3 r2_0 f2_0 r2_1 f2_1 r2_2 f2_2 r2_3 f2_3
     go_roundw
     case rel => exact ⟨k + 1, _, _, _, _, _, _, _, _, _, _, _, _, _, _, _, _, by omega, by go_num, by rw [HSU.out, HSD.out]; exact (St.take (bs := [_, _, _]) (cs := []) (S.dropb.dropb.dropb.onlyL.addQ (S.qi 0 rfl))).addQ (S.qi 1 rfl)⟩
     case measure => simp [intOf]; omega
  ·have hFIN : (ar : Rat) * sumR ((l.map (upI h)).take k) = (ar : Rat) * sumR (l.map (upI h)) ∧ (ar : Rat) * sumR ((l.map (dnI h)).take k) = (ar : Rat) * sumR (l.map (dnI h)) := by
    rw [List.take_of_length_le (by rw [List.length_map]; omega), List.take_of_length_le (by rw [List.length_map]; omega)]
    exact ⟨rfl, rfl⟩
   have HFIN := Lib.hid hFIN
   have hk9 : k ≤ 3000 := by have := HLN.out; omega
   generalize sumR ((l.map (upI h)).take k) = su at *
   generalize sumR ((l.map (dnI h)).take k) = sd at *
   clear hFIN
   have z1 : lenI ar ≤ 2 := by have := HAR.out; exact this
   have y0 := szR_int ar
   have y1 := szR_mul (((ar : Int) : Rat)) su
   have y2 := szR_mul (((ar : Int) : Rat)) sd
   have t1 : decide ((k : Int) < (l.length : Int)) = false := by exact decide_eq_false (by omega)
   obtain ⟨r0_0, r0_1, r0_2, r0_3, r0_4, r0_5⟩ := S.cc6 2 rfl
   go_wp2_with fail
   refine ((whole_num ar (by omega) (by omega))).mono ?_
   rintro e W41 ⟨U41, rfl, hp, hk⟩
   obtain ⟨b43, A43, n43, c43, d43, B43, m43, e43, rfl⟩ := hp.open_
   replace S := (S.below hk).addQ hp
   clear hk hp
   clear r0_0 r0_1 r0_2 r0_3 r0_4 r0_5
   go_upto_region 9 with fail
   replace S := (S.alloc 35 [.bool b43, .slice A43 n43 c43, .bool d43, .slice B43 m43 e43])
   obtain ⟨W42, eW, S⟩ := S.pack
   rw [eW]
   clear eW
   generalize W41.heap.size = P41 at *
   refine wp_region_steps (m := 6) rfl (by kernel_rfl) (fun iF vF wF => (List.getD [ve (.agg #[.bool b43, .slice A43 n43 c43, .bool d43, .slice B43 m43 e43]), ve (.agg #[.bool b8, .slice A8 n8 c8, .bool d8, .slice B8 m8 e8]), fun vF wF => RatRep wF vF ((((ar : Int) : Rat)) * su), ve (.agg #[.bool b43, .slice A43 n43 c43, .bool d43, .slice B43 m43 e43]), ve (.agg #[.bool b9, .slice A9 n9 c9, .bool d9, .slice B9 m9 e9]), fun vF wF => RatRep wF vF ((((ar : Int) : Rat)) * sd)] iF (fun _ _ => True)) vF wF) [] ?_ ?_ ?_
   ·intro i v w w' _ h hk
    refine stabL_get ?_ i v w w' h hk
    exact stab_cons st_e (stab_cons st_e (stab_cons st_q (stab_cons st_e (stab_cons st_e (stab_cons st_q stab_nil)))))
   ·intro i hi vs w3 hk3 hd
    have S3 := S.drew.below hk3
    obtain ⟨a0, a1, a2, a3⟩ := S3.cc4 2 rfl
    obtain ⟨a4, a5, a6, a7⟩ := S3.cc4 1 rfl
    obtain ⟨a8, a9, a10, a11⟩ := S3.cc4 0 rfl
    match i, hi with
    | 0, _ =>
     refine sv0 [] (ve (.agg #[.bool b43, .slice A43 n43 c43, .bool d43, .slice B43 m43 e43])) rfl fun K hK => ?_; clear hd; simp only [frD] at hK ⊢; go_simp
     exact hK _ _ bl rfl
    | 1, _ =>
     refine sv0 [] (ve (.agg #[.bool b8, .slice A8 n8 c8, .bool d8, .slice B8 m8 e8])) rfl fun K hK => ?_; clear hd; simp only [frD] at hK ⊢; go_simp
     exact hK _ _ bl rfl
    | 2, _ =>
     have qe0 : (vs 0) = .agg #[.bool b43, .slice A43 n43 c43, .bool d43, .slice B43 m43 e43] := hdk hd 0; have qe1 : (vs 1) = .agg #[.bool b8, .slice A8 n8 c8, .bool d8, .slice B8 m8 e8] := hdk hd 1
     refine sc (A := #[(vs 0), (vs 1)]) (B := #[.agg #[.bool b43, .slice A43 n43 c43, .bool d43, .slice B43 m43 e43], .agg #[.bool b8, .slice A8 n8 c8, .bool d8, .slice B8 m8 e8]]) [(0, some 54), (1, some 55)] (fun vF wF => RatRep wF vF ((((ar : Int) : Rat)) * su)) rfl (wanted_none rfl) (by rw [qe0, qe1]) Tryz.func32 ?_
     refine ((fmul_num ((S3.qi 0 rfl).num (by omega)) ((S3.qi 1 rfl).num (by omega)))).mono ?_; rintro e w4 ⟨U, rfl, hr, hk4⟩; exact ⟨_, rfl, hk4, hr⟩
    | 3, _ =>
     refine sv0 [] (ve (.agg #[.bool b43, .slice A43 n43 c43, .bool d43, .slice B43 m43 e43])) rfl fun K hK => ?_; clear hd; simp only [frD] at hK ⊢; go_simp
     exact hK _ _ bl rfl
    | 4, _ =>
     refine sv0 [] (ve (.agg #[.bool b9, .slice A9 n9 c9, .bool d9, .slice B9 m9 e9])) rfl fun K hK => ?_; clear hd; simp only [frD] at hK ⊢; go_simp
     exact hK _ _ bl rfl
    | 5, _ =>
     have h2 : RatRep w3 (vs 2) ((((ar : Int) : Rat)) * su) := hdk hd 2; have qe3 : (vs 3) = .agg #[.bool b43, .slice A43 n43 c43, .bool d43, .slice B43 m43 e43] := hdk hd 3; have qe4 : (vs 4) = .agg #[.bool b9, .slice A9 n9 c9, .bool d9, .slice B9 m9 e9] := hdk hd 4
     refine sc (A := #[(vs 3), (vs 4)]) (B := #[.agg #[.bool b43, .slice A43 n43 c43, .bool d43, .slice B43 m43 e43], .agg #[.bool b9, .slice A9 n9 c9, .bool d9, .slice B9 m9 e9]]) [(2, some 56), (3, some 57), (4, some 58)] (fun vF wF => RatRep wF vF ((((ar : Int) : Rat)) * sd)) rfl (wanted_none rfl) (by rw [qe3, qe4]) Tryz.func32 ?_
     refine ((fmul_num ((S3.qi 0 rfl).num (by omega)) ((S3.qi 2 rfl).num (by omega)))).mono ?_; rintro e w4 ⟨U, rfl, hr, hk4⟩; exact ⟨_, rfl, hk4, hr⟩
    | i + 6, hi => exact absurd hi (by omega)
   ·intro vs W43 hk3 hΦ _
    simp only [List.drop_succ_cons, List.drop_zero]
    rw [fr_frD, show (List.range 6).map _ = [(0, some 54), (1, some 55), (2, some 56), (3, some 57), (4, some 58), (5, some 59)] by kernel_rfl]
    have pi0 : (vs 0) = .agg #[.bool b43, .slice A43 n43 c43, .bool d43, .slice B43 m43 e43] := hΦ 0 (by decide)
    have pi1 : (vs 1) = .agg #[.bool b8, .slice A8 n8 c8, .bool d8, .slice B8 m8 e8] := hΦ 1 (by decide)
    have pi2 : RatRep W43 (vs 2) ((((ar : Int) : Rat)) * su) := hΦ 2 (by decide)
    have pi3 : (vs 3) = .agg #[.bool b43, .slice A43 n43 c43, .bool d43, .slice B43 m43 e43] := hΦ 3 (by decide)
    have pi4 : (vs 4) = .agg #[.bool b9, .slice A9 n9 c9, .bool d9, .slice B9 m9 e9] := hΦ 4 (by decide)
    have pi5 : RatRep W43 (vs 5) ((((ar : Int) : Rat)) * sd) := hΦ 5 (by decide)
    clear hΦ
    simp only [frD, pi0, pi1, pi3, pi4]
    simp only [Act.put, List.setIfInBounds_toArray, List.set_cons_zero, List.set_cons_succ]
    clear pi0 pi1 pi3 pi4
    generalize vs 2 = Upi2 at pi2 ⊢
    generalize vs 5 = Upi5 at pi5 ⊢
    replace S := S.drew.below hk3
    obtain ⟨b44, A44, n44, c44, d44, B44, m44, e44, rfl⟩ := pi2.open_
    replace S := S.addQ pi2
    clear pi2
    obtain ⟨b45, A45, n45, c45, d45, B45, m45, e45, rfl⟩ := pi5.open_
    replace S := S.addQ pi5
    clear pi5
    clear hk3
    have r1_0 := S.c 2 0 rfl rfl
    have f1_0 := S.f 2 0 rfl
    have r1_1 := S.c 2 1 rfl rfl
    have f1_1 := S.f 2 1 rfl
    have r1_2 := S.c 2 2 rfl rfl
    have f1_2 := S.f 2 2 rfl
    have r1_3 := S.c 2 3 rfl rfl
    have f1_3 := S.f 2 3 rfl
    have r2_0 := S.c 1 0 rfl rfl
    have f2_0 := S.f 1 0 rfl
    have r2_1 := S.c 1 1 rfl rfl
    have f2_1 := S.f 1 1 rfl
    have r2_2 := S.c 1 2 rfl rfl
    have f2_2 := S.f 1 2 rfl
    have r2_3 := S.c 1 3 rfl rfl
    have f2_3 := S.f 1 3 rfl
    go_wp2
    replace S := ((S.put4 2 rfl rfl rfl (x' := .bool b44) (y' := .slice A44 n44 c44) (z' := .bool d44) (u' := .slice B44 m44 e44)).put4 1 rfl rfl rfl (x' := .bool b45) (y' := .slice A45 n45 c45) (z' := .bool d45) (u' := .slice B45 m45 e45))
    refine bodyPost_ret (v := .tuple #[.agg #[.bool b44, .slice A44 n44 c44, .bool d44, .slice B44 m44 e44], .agg #[.bool b45, .slice A45 n45 c45, .bool d45, .slice B45 m45 e45]]) (by simp [results, Tryz.results40, go_sem, S.c 2 0 rfl rfl, S.c 2 1 rfl rfl, S.c 2 2 rfl rfl, S.c 2 3 rfl rfl, S.c 1 0 rfl rfl, S.c 1 1 rfl rfl, S.c 1 2 rfl rfl, S.c 1 3 rfl rfl]) rfl ?_
    exact ⟨_, _, _, _, rfl, S.qi 1 rfl, S.qi 0 rfl, HFIN.out, S.k⟩
end Go.Proofs.YtecibfncnaccjaaGreat
