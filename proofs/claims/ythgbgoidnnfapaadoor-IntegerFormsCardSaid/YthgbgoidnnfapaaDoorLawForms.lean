/- The walk of the law IntegerForms. -/
import Derived.Test.YthgbgoidnnfapaaDoorLawC
import Derived.Test.YthgbgoidnnfapaaDoorLog
import Derived.Test.YthgbgoidnnfapaaDoorRLog
namespace Go.Proofs.YthgbgoidnnfapaaDoor
open Go.RowKit Go.Shelf

structure Two2 (w : World) (t : TypeId) (a b : Nat) (x1 y1 x2 y2 : Value) : Prop where
  o1 : Own w a t [x1, y1]
  o2 : Own w b t [x2, y2]
section
variable {w w' : World} {t : TypeId} {a b : Nat} {x1 y1 x2 y2 : Value}
theorem Two2.below (h : Two2 w t a b x1 y1 x2 y2) (hk : Keeps w w') : Two2 w' t a b x1 y1 x2 y2 := ⟨h.o1.below hk, h.o2.below hk⟩
theorem Two2.drew (h : Two2 w t a b x1 y1 x2 y2) : Two2 w.drew t a b x1 y1 x2 y2 := ⟨h.o1, h.o2⟩
theorem Two2.cells (h : Two2 w t a b x1 y1 x2 y2) : w.cell? ⟨a, 0, none⟩ = some x1 ∧ w.cell? ⟨a, 1, none⟩ = some y1 ∧ w.cell? ⟨b, 0, none⟩ = some x2 ∧ w.cell? ⟨b, 1, none⟩ = some y2 := ⟨h.o1.c0, h.o1.c1, h.o2.c0, h.o2.c1⟩
end
theorem rvalid_num (neg : Bool) (xs : List Nat) (V : Value) (w : World) (h : IntArg w V neg xs) (hm : xs.length ≤ 900000) : Calls Tryd.prog 29 #[V] w fun e w' => e = .returned (.bool (validB neg xs)) ∧ Keeps w w' := by
  obtain ⟨v, rfl, hv⟩ := h
  obtain ⟨A, n, c, rfl, e, -, -, -, hr⟩ := hv.open_
  exact rvalid_any neg A n c xs w e hr (by omega)
/-- an api.Int of a length that Log bears -/
theorem log_rep {w : World} {V : Value} {z : Int} (h : ∃ neg xs, IntArg w V neg xs ∧ cnt neg xs = z ∧ xs.length ≤ 100000) : Calls Tryd.prog 36 #[V] w fun e w' => e = .returned (.int .i64 (log2 z.natAbs)) ∧ Keeps w w' := by
  obtain ⟨neg, xs, h, rfl, hl⟩ := h
  rw [cnt_abs]
  exact log_any neg xs V w h hl

theorem sign_s {w : World} {V : Value} {x s : Int} (h : IntNum w V x) (e : x.sign = s) : Calls Tryd.prog 26 #[V] w fun e w' => e = .returned (.int .i64 s) ∧ Keeps w w' := by subst e; exact sign_num h
theorem rsign_s {w : World} {V : Value} {x s : Int} (h : IntNum w V x) (e : x.sign = s) : Calls Tryd.prog 30 #[V] w fun e w' => e = .returned (.int .i64 s) ∧ Keeps w w' := by subst e; exact rsign_num h
theorem rlog_s {w : World} {V : Value} {x s : Int} (h : IntNum w V x) (e : log2 x.natAbs = s) : Calls Tryd.prog 37 #[V] w fun e w' => e = .returned (.int .i64 s) ∧ Keeps w w' := by subst e; exact rlog_num x V w h
theorem lenI_abs (x : Int) : lenI (x.natAbs : Int) = lenI x := by unfold lenI; rw [Int.natAbs_natCast]

set_option maxRecDepth 100000 in
set_option maxHeartbeats 4000000 in
theorem forms_walk (n1 : Bool) (xs : List Nat) (V1 : Value) (w : World) (hkn : ∀ W, Keeps w W → KnownAt W) (ht : PowTab w) (h1 : IntArg w V1 n1 xs) (hm1 : xs.length ≤ 9223372036854775807) :
    Calls Tryd.prog 6 #[V1] w fun e w' => e = .returned (.bool true) ∧ Keeps w w' := by
  obtain ⟨v1, rfl, hv1⟩ := h1
  have hkk := box2 w (.cells #[.bool n1, v1] 24)
  have hA := Own.new w 24 [.bool n1, v1]
  have hkn0 := Lib.hid (hkn _ hkk)
  clear hkn
  go_enter Tryd.func6, Tryd.ntmps6
  go_wp2_with fail
  have g1 := hv1.below hkk
  generalize w.alloc (.cells #[.bool n1, v1] 24) = W at *
  refine (hkn0.out).mono ?_
  rintro e w1 ⟨rfl, hk1⟩
  have hA1 := hA.below hk1
  have a0 := hA1.c0
  have a1 := hA1.c1
  have k1 := hkk.trans' hk1
  have g1 := g1.below hk1
  obtain ⟨A1, p1, q1, rfl, e1, -⟩ := g1.open_
  have hsh := Lib.hid (short1 n1 A1 p1 q1 _ _ (Own.new w1 24 [.bool n1, .slice A1 p1 q1]) (by omega))
  cases hS : shortB [p1] with
  | false =>
    rw [hS] at hsh
    clear hS e1
    go_wp2_with fail
    refine hsh.out.mono ?_
    rintro e w2 ⟨rfl, hk2⟩
    go_wp2
    go_ret
    exact ⟨rfl, (k1.trans' (box2 _ _)).trans' hk2⟩
  | true =>
    rw [hS] at hsh
    have hl1 : xs.length ≤ 12 := by simp [shortB] at hS; omega
    clear hS e1
    go_wp2_with fail
    refine hsh.out.mono ?_
    rintro e w2 ⟨rfl, hk2⟩
    have hk2' : Keeps w1 w2 := (box2 _ _).trans' hk2
    have hA2 := hA1.below hk2'
    have f1 := g1.below hk2'
    have k2 := k1.trans' hk2'
    clear a0 a1
    have a0 := hA2.c0
    have a1 := hA2.c1
    go_wp2_with fail
    have hia : IntArg w2 (.agg #[.bool n1, .slice A1 p1 q1]) n1 xs := ⟨_, rfl, f1⟩
    have hv : IntNum w2 (.agg #[.bool n1, .slice A1 p1 q1]) (cnt n1 xs) := ⟨_, _, hia, rfl, by omega⟩
    have lx := lenI_cnt n1 xs
    have hvl := Lib.hid (fun W (k : Keeps w2 W) => valid_num n1 xs _ W (hia.below k) (by omega))
    have hvr := Lib.hid (fun W (k : Keeps w2 W) => rvalid_num n1 xs _ W (hia.below k) (by omega))
    have hlg := Lib.hid (fun W (k : Keeps w2 W) => log_rep ⟨n1, xs, hia.below k, rfl, by omega⟩)
    have htx := Lib.hid (ht.keep k2)
    clear f1 hsh hA1 k1 hk1 hkk hkn0 hA g1 hv1 hk2 hk2' hia ht
    generalize cnt n1 xs = x at *
    generalize validB n1 xs = vb at *
    refine (rvalue_num hv).mono ?_
    rintro e w3 ⟨V3, rfl, hr3, hk3⟩
    obtain ⟨A3, n3, c3, rfl, hv3⟩ := hr3.open_
    have kb := box2 w3 (.cells #[.bool (decide (x < 0)), .slice A3 n3 c3] 24)
    have hs : Two2 (w3.alloc (.cells #[.bool (decide (x < 0)), .slice A3 n3 c3] 24)) 24 w.heap.size w3.heap.size (.bool n1) (.slice A1 p1 q1) (.bool (decide (x < 0))) (.slice A3 n3 c3) := ⟨(hA2.below hk3).below kb, Own.new w3 24 [.bool (decide (x < 0)), .slice A3 n3 c3]⟩
    replace hv := (hv.below hk3).below kb
    have hr := hr3.below kb
    have k4 := (k2.trans' hk3).trans' kb
    have kw := hk3.trans' kb
    have q1' : (vb == vb) = true := by simp
    obtain ⟨sg, hsg⟩ : ∃ s, x.sign = s := ⟨_, rfl⟩
    have q2 : (sg == sg) = true := by simp
    obtain ⟨lg, hlg0⟩ : ∃ s, log2 x.natAbs = s := ⟨_, rfl⟩
    rw [hlg0] at hlg
    have q3 : (lg == lg) = true := by simp
    have HSG := Lib.hid hsg
    have HLG := Lib.hid hlg0
    have lx2 : lenI x ≤ 12 := by omega
    have lx3 := lenI_neg x
    clear hsg hlg0 hA2 hv3 hk3 kb hr3 a0 a1 k2
    generalize decide (x < 0) = b3 at *
    replace hs := hs.drew
    replace hv := hv.drew
    replace hr := hr.drew
    replace k4 : Keeps w _ := Below.drew k4
    replace kw : Keeps w2 _ := Below.drew kw
    have z0 : ∀ W, IntNum W (.agg #[.bool false, .slice none 0 0]) 0 := fun W => (IntRep.zero W).num (by unfold lenI; rw [show (0 : Int).natAbs = 0 from rfl, dig_zero]; simp)
    have HZ := Lib.hid z0
    clear z0
    go_wp2_with fail
    go_region_held3 (fun w' => w'.cell? ⟨w.heap.size, 0, none⟩ = some (.bool n1) ∧ w'.cell? ⟨w.heap.size, 1, none⟩ = some (.slice A1 p1 q1) ∧ w'.cell? ⟨w3.heap.size, 0, none⟩ = some (.bool b3) ∧ w'.cell? ⟨w3.heap.size, 1, none⟩ = some (.slice A3 n3 c3))
      (exact hs.cells)
      (first
        | (go_at_call 28; refine (hvl.out _ kw).mono ?_; rintro e W5 ⟨rfl, hk⟩; replace hs := hs.below hk; replace hv := hv.below hk; replace hr := hr.below hk; replace k4 := k4.trans' hk; replace kw := kw.trans' hk)
        | (go_at_call 29; refine (hvr.out _ kw).mono ?_; rintro e W5 ⟨rfl, hk⟩; replace hs := hs.below hk; replace hv := hv.below hk; replace hr := hr.below hk; replace k4 := k4.trans' hk; replace kw := kw.trans' hk)
        | (go_at_call 26; refine (sign_s hv HSG.out).mono ?_; rintro e W5 ⟨rfl, hk⟩; replace hs := hs.below hk; replace hv := hv.below hk; replace hr := hr.below hk; replace k4 := k4.trans' hk; replace kw := kw.trans' hk)
        | (go_at_call 30; refine (rsign_s (hr.num (by omega)) HSG.out).mono ?_; rintro e W5 ⟨rfl, hk⟩; replace hs := hs.below hk; replace hv := hv.below hk; replace hr := hr.below hk; replace k4 := k4.trans' hk; replace kw := kw.trans' hk)
        | (go_at_call 31; refine (neg_num hv).mono ?_; rintro e W5 ⟨U26, rfl, hp, hk⟩; replace hs := hs.below hk; replace hv := hv.below hk; replace hr := hr.below hk; replace k4 := k4.trans' hk; replace kw := kw.trans' hk)
        | (go_at_call 32; refine (rneg_num (hr.num (by omega))).mono ?_; rintro e W5 ⟨U28, rfl, hq, hk⟩; replace hs := hs.below hk; replace hv := hv.below hk; replace hr := hr.below hk; replace k4 := k4.trans' hk; replace kw := kw.trans' hk; replace hp := hp.below hk)
        | (go_at_call_of 15 U26; refine (same_num hp hq rfl (by omega)).mono ?_; rintro e W5 ⟨rfl, hk⟩; replace hs := hs.below hk; replace hv := hv.below hk; replace hr := hr.below hk; replace k4 := k4.trans' hk; replace kw := kw.trans' hk)
        | (go_at_call 33; refine (abs_num hv).mono ?_; rintro e W5 ⟨U33, rfl, hp, hk⟩; replace hs := hs.below hk; replace hv := hv.below hk; replace hr := hr.below hk; replace k4 := k4.trans' hk; replace kw := kw.trans' hk)
        | (go_at_call 34; refine (rabs_num (hr.num (by omega))).mono ?_; rintro e W5 ⟨U35, rfl, hq, hk⟩; replace hs := hs.below hk; replace hv := hv.below hk; replace hr := hr.below hk; replace k4 := k4.trans' hk; replace kw := kw.trans' hk; replace hp := hp.below hk)
        | (go_at_call_of 15 U33; refine (same_num hp hq rfl (by rw [lenI_abs]; omega)).mono ?_; rintro e W5 ⟨rfl, hk⟩; replace hs := hs.below hk; replace hv := hv.below hk; replace hr := hr.below hk; replace k4 := k4.trans' hk; replace kw := kw.trans' hk)
        | (go_at_call 18; refine (add_num hv (HZ.out _)).mono ?_; rintro e W5 ⟨U41, rfl, hp, hk⟩; replace hs := hs.below hk; replace hv := hv.below hk; replace hr := hr.below hk; replace k4 := k4.trans' hk; replace kw := kw.trans' hk)
        | (go_at_call_of 15 U41; refine (same_num hp hr (Int.add_zero _) (by rw [Int.add_zero]; omega)).mono ?_; rintro e W5 ⟨rfl, hk⟩; replace hs := hs.below hk; replace hv := hv.below hk; replace hr := hr.below hk; replace k4 := k4.trans' hk; replace kw := kw.trans' hk)
        | (go_at_call_of 35 (Value.slice A1 p1 q1); refine (text_num hv (htx.out.keep kw)).mono ?_; rintro e W5 ⟨rfl, hk⟩; replace hs := hs.below hk; replace hv := hv.below hk; replace hr := hr.below hk; replace k4 := k4.trans' hk; replace kw := kw.trans' hk)
        | (go_at_call_of 35 (Value.slice A3 n3 c3); refine (text_num (hr.num (by omega)) (htx.out.keep kw)).mono ?_; rintro e W5 ⟨rfl, hk⟩; replace hs := hs.below hk; replace hv := hv.below hk; replace hr := hr.below hk; replace k4 := k4.trans' hk; replace kw := kw.trans' hk)
        | (go_at_call 36; refine (hlg.out _ kw).mono ?_; rintro e W5 ⟨rfl, hk⟩; replace hs := hs.below hk; replace hv := hv.below hk; replace hr := hr.below hk; replace k4 := k4.trans' hk; replace kw := kw.trans' hk)
        | (go_at_call 37; refine (rlog_s (hr.num (by omega)) HLG.out).mono ?_; rintro e W5 ⟨rfl, hk⟩; replace hs := hs.below hk; replace hv := hv.below hk; replace hr := hr.below hk; replace k4 := k4.trans' hk; replace kw := kw.trans' hk))
    go_wp2
    go_ret
    exact ⟨rfl, k4⟩
end Go.Proofs.YthgbgoidnnfapaaDoor
