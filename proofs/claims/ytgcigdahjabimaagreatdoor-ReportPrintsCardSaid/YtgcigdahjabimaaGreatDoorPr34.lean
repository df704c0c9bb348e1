/- The insertion sort of ints by report.Above's order: the walk. -/
import Derived.Test.YtgcigdahjabimaaGreatDoorPr28
import Derived.Test.YtgcigdahjabimaaGreatDoorPr33
import Derived.RegionTactic
import Derived.BigRegion
namespace Go.Proofs.YtgcigdahjabimaaGreatDoor
open Go.RowKit Go.Shelf
def RowI (w : World) (g : Nat) (l : List Int) (rest : List Value) : Prop := Own w g 3 (i64s l ++ rest)
theorem RowI.c {w : World} {g : Nat} {l : List Int} {rest : List Value} (h : RowI w g l rest) {j : Nat} (hj : j < l.length) : w.cell? ⟨g, j, none⟩ = some (.int .i64 (l.getD j 0)) := by
 rw [Own.cell h, List.getElem?_append_left (by simpa [i64s] using hj)]
 exact i64s_at2 hj
theorem RowI.set {w : World} {g : Nat} {l : List Int} {rest : List Value} (h : RowI w g l rest) {j : Nat} (hj : j < l.length) (x : Int) : RowI (w.setCell ⟨g, j, none⟩ (.int .i64 x)) g (l.set j x) rest := by
 have h1 := Own.set h j (.int .i64 x)
 rw [List.set_append_left _ _ (by simpa [i64s] using hj), i64s_set] at h1
 exact h1
def si4aΦ (Vs Fv : Value) (xa xb : Int) (PJ PI : Addr) (j ii : Nat) (q : Int) (B : Bool) : Nat → Value → World → Prop
 | 0, v, _ => v = .int .i64 (j : Nat)
 | 1, v, _ => v = .int .i64 0
 | 2, v, _ => v = .bool true
 | 3, v, _ => v = .bool true
 | 4, v, _ => v = Fv
 | 5, v, _ => v = Vs
 | 6, v, _ => v = .int .i64 (j : Nat)
 | 7, v, _ => v = .pointer (some PJ)
 | 8, v, _ => v = .int .i64 xa
 | 9, v, _ => v = Vs
 | 10, v, _ => v = .int .i64 (j : Nat)
 | 11, v, _ => v = .int .i64 (ii : Nat)
 | 12, v, _ => v = .pointer (some PI)
 | 13, v, _ => v = .int .i64 xb
 | 14, v, _ => v = .int .i64 q
 | 15, v, _ => v = .bool B
 | 16, v, _ => v = .bool B
 | _, _, _ => True
def si4bΦ  : Nat → Value → World → Prop
 | 0, v, _ => v = .int .i64 0
 | 1, v, _ => v = .int .i64 0
 | 2, v, _ => v = .bool false
 | 3, v, _ => v = .bool false
 | 4, v, _ => v = undef
 | 5, v, _ => v = undef
 | 6, v, _ => v = undef
 | 7, v, _ => v = undef
 | 8, v, _ => v = undef
 | 9, v, _ => v = undef
 | 10, v, _ => v = undef
 | 11, v, _ => v = undef
 | 12, v, _ => v = undef
 | 13, v, _ => v = undef
 | 14, v, _ => v = undef
 | 15, v, _ => v = undef
 | 16, v, _ => v = .bool false
 | _, _, _ => True
set_option maxRecDepth 100000 in
set_option maxHeartbeats 4000000 in
theorem abv_ins {w : World} {g n c m bp : Nat} {l : List Int} {rest : List Value} (f : Int → Int → Int) (D : Int → Prop) (hr : RowI w g l rest) (hn : n = l.length) (hm : m ≤ n) (hl : n ≤ 4096) (hd : ∀ x ∈ l, D x)
 (hc : ∀ u, Turn [g] w u → ∀ x y, D x → D y → Calls Tryz.prog 61 #[.int .i64 x, .int .i64 y, .pointer (some ⟨bp, 0, none⟩)] u fun e u' => e = .returned (.int .i64 (f x y)) ∧ Keeps u u') :
 Calls Tryz.prog 111 #[.slice (some ⟨g, 0, none⟩) n c, .int .i64 0, .int .i64 (m : Nat), .func (.func 61) #[] #[.pointer (some ⟨bp, 0, none⟩)]] w fun e w' => e = .returned (.tuple #[]) ∧ RowI w' g (srtI f m l) rest ∧ Turn [g] w w' := by
 have hnI : (n : Int) ≤ 4096 := by omega
 have hmI : (m : Int) ≤ n := by omega
 have HR := Lib.hid hr
 have HN := Lib.hid hn
 have HD := Lib.hid hd
 have HC := Lib.hid hc
 clear hr hn hd hc
 go_enter Tryz.func111, Tryz.ntmps111
 go_wp2
 go_loopw [8] (fun iv wr => ∃ k : Nat, 1 ≤ k ∧ (k ≤ m ∨ k = 1) ∧ iv = .int .i64 (k : Nat) ∧ Hid (RowI wr g (srtI f k l) rest) ∧ Turn [g] w wr) (fun i _ => 5000 - (intOf i).toNat)
 case atStart => exact ⟨1, Nat.le_refl _, .inr rfl, by first | rfl | go_num, HR, Turn.refl w⟩
 case round =>
  clear HR
  obtain ⟨k, hk1, hkm, rfl, HRK, hkt⟩ := hrel
  have hk4 : (k : Int) ≤ 4096 := by omega
  by_cases hlt : k < m
  ·have t1 : decide ((k : Int) < (m : Int)) = true := decide_eq_true (by omega)
   have t1' : (k : Int) < m := by omega
   have HK0 : Hid (bubI f k (srtI f k l) = srtI f (k + 1) l) := Lib.hid rfl
   have HKL : Hid ((srtI f k l).length = n) := Lib.hid (by rw [srtI_length, HN.out])
   have HKD : Hid (∀ x ∈ srtI f k l, D x) := Lib.hid (srtI_all f k l (.inl (by rw [← HN.out]; omega)) HD.out)
   clear hkm
   go_wp2
   go_loopw [9] (fun jv wr => ∃ (j : Nat) (L : List Int), j ≤ k ∧ jv = .int .i64 (j : Nat) ∧ Hid (RowI wr g L rest ∧ L.length = n ∧ ∀ x ∈ L, D x) ∧ Hid (bubI f j L = srtI f (k + 1) l) ∧ Turn [g] w wr) (fun j _ => (intOf j).toNat)
   case atStart => exact ⟨k, srtI f k l, Nat.le_refl _, rfl, Lib.hid ⟨HRK.out, HKL.out, HKD.out⟩, HK0, hkt⟩
   case round =>
    clear HRK hkt
    obtain ⟨j, L, hjk, rfl, HRL, HBU, hkt⟩ := hrel
    have hjI : (j : Int) ≤ (k : Int) := by omega
    cases j with
    | zero =>
     have HRE : Hid (RowI wr g (srtI f (k + 1) l) rest) := Lib.hid (by rw [← HBU.out]; exact HRL.out.1)
     go_wp2
     refine wp_region_steps (m := 17) rfl (by kernel_rfl) (si4bΦ ) [] ?_ ?_ ?_
     ·intro i v w w' hi h hk
      match i, hi with
      | 0, _ | 1, _ | 2, _ | 3, _ | 4, _ | 5, _ | 6, _ | 7, _ | 8, _ | 9, _ | 10, _ | 11, _ | 12, _ | 13, _ | 14, _ | 15, _ | 16, _ => exact h
      | i + 17, hi => exact absurd hi (by omega)
     ·intro i hi vs wph3 hk3 hd
      match i, hi with
      | 0, _ =>
       refine step_yes [] rfl (by kernel_rfl) fun K hK => ?_
       simp only [frD] at hK ⊢
       refine ⟨by rfl, ?_⟩
       go_simp
       exact hK _ _ ⟨Below.refl _ _, rfl, by simp⟩
      | 1, _ =>
       refine step_yes [] rfl (by kernel_rfl) fun K hK => ?_
       simp only [frD] at hK ⊢
       refine ⟨by rfl, ?_⟩
       go_simp
       exact hK _ _ ⟨Below.refl _ _, rfl, by simp⟩
      | 2, _ =>
       have e0 : vs 0 = .int .i64 0 := hd 0 (List.contains_iff_mem.1 (by kernel_rfl))
       have e1 : vs 1 = .int .i64 0 := hd 1 (List.contains_iff_mem.1 (by kernel_rfl))
       refine step_yes [(0, some 18), (1, some 19)] rfl (by kernel_rfl) fun K hK => ?_
       simp only [frD, e0, e1] at hK ⊢
       refine ⟨by rfl, ?_⟩
       go_simp
       exact hK _ _ ⟨Below.refl _ _, rfl, by simp⟩
      | 3, _ =>
       have e2 : vs 2 = .bool false := hd 2 (List.contains_iff_mem.1 (by kernel_rfl))
       refine step_yes [(2, some 20)] rfl (by kernel_rfl) fun K hK => ?_
       simp only [frD, e2] at hK ⊢
       refine ⟨by rfl, ?_⟩
       go_simp
       exact hK _ _ ⟨Below.refl _ _, rfl, by simp⟩
      | 4, _ =>
       have e3 : vs 3 = .bool false := hd 3 (List.contains_iff_mem.1 (by kernel_rfl))
       refine step_no (o := ⟨some 22, Op.move (Operand.tmp 3), 58, "zsortanyfunc.go:12", #[{ on := 3, ground := Ground.guard }], some (3, true)⟩) [(3, some 21)] (by kernel_rfl) (by kernel_rfl) (by simp only [frD, e3]; rfl) rfl (by simp)
      | 5, _ =>
       have e3 : vs 3 = .bool false := hd 3 (List.contains_iff_mem.1 (by kernel_rfl))
       refine step_no (o := ⟨some 23, Op.move (Operand.tmp 0), 43, "zsortanyfunc.go:12", #[{ on := 3, ground := Ground.guard }], some (3, true)⟩) [(3, some 21)] (by kernel_rfl) (by kernel_rfl) (by simp only [frD, e3]; rfl) rfl (by simp)
      | 6, _ =>
       have e3 : vs 3 = .bool false := hd 3 (List.contains_iff_mem.1 (by kernel_rfl))
       refine step_no (o := ⟨some 24, Op.move (Operand.tmp 9), 3, "zsortanyfunc.go:12", #[{ on := 3, ground := Ground.guard }], some (3, true)⟩) [(3, some 21)] (by kernel_rfl) (by kernel_rfl) (by simp only [frD, e3]; rfl) rfl (by simp)
      | 7, _ =>
       have e3 : vs 3 = .bool false := hd 3 (List.contains_iff_mem.1 (by kernel_rfl))
       have e5 : vs 5 = undef := hd 5 (List.contains_iff_mem.1 (by kernel_rfl))
       have e6 : vs 6 = undef := hd 6 (List.contains_iff_mem.1 (by kernel_rfl))
       refine step_no (o := ⟨some 25, Op.indexAddr 43 (Operand.tmp 23) (Operand.tmp 24), 0, "zsortanyfunc.go:12", #[{ on := 5, ground := Ground.data }, { on := 6, ground := Ground.data }, { on := 3, ground := Ground.guard }], some (3, true)⟩) [(3, some 21), (5, some 23), (6, some 24)] (by kernel_rfl) (by kernel_rfl) (by simp only [frD, e3, e5, e6]; rfl) rfl (by simp)
      | 8, _ =>
       have e3 : vs 3 = .bool false := hd 3 (List.contains_iff_mem.1 (by kernel_rfl))
       have e7 : vs 7 = undef := hd 7 (List.contains_iff_mem.1 (by kernel_rfl))
       refine step_no (o := ⟨some 26, Op.load 3 (Operand.tmp 25), 3, "zsortanyfunc.go:12", #[{ on := 7, ground := Ground.data }, { on := 3, ground := Ground.guard }], some (3, true)⟩) [(3, some 21), (7, some 25)] (by kernel_rfl) (by kernel_rfl) (by simp only [frD, e3, e7]; rfl) rfl (by simp)
      | 9, _ =>
       have e3 : vs 3 = .bool false := hd 3 (List.contains_iff_mem.1 (by kernel_rfl))
       refine step_no (o := ⟨some 27, Op.move (Operand.tmp 0), 43, "zsortanyfunc.go:12", #[{ on := 3, ground := Ground.guard }], some (3, true)⟩) [(3, some 21)] (by kernel_rfl) (by kernel_rfl) (by simp only [frD, e3]; rfl) rfl (by simp)
      | 10, _ =>
       have e3 : vs 3 = .bool false := hd 3 (List.contains_iff_mem.1 (by kernel_rfl))
       refine step_no (o := ⟨some 28, Op.move (Operand.tmp 9), 3, "zsortanyfunc.go:12", #[{ on := 3, ground := Ground.guard }], some (3, true)⟩) [(3, some 21)] (by kernel_rfl) (by kernel_rfl) (by simp only [frD, e3]; rfl) rfl (by simp)
      | 11, _ =>
       have e3 : vs 3 = .bool false := hd 3 (List.contains_iff_mem.1 (by kernel_rfl))
       have e10 : vs 10 = undef := hd 10 (List.contains_iff_mem.1 (by kernel_rfl))
       refine step_no (o := ⟨some 29, Op.binOp BinOp.sub 3 (Operand.tmp 28) (Operand.const (Value.int IntKind.i64 1)) 3, 3, "zsortanyfunc.go:12", #[{ on := 10, ground := Ground.data }, { on := 3, ground := Ground.guard }], some (3, true)⟩) [(3, some 21), (10, some 28)] (by kernel_rfl) (by kernel_rfl) (by simp only [frD, e3, e10]; rfl) rfl (by simp)
      | 12, _ =>
       have e3 : vs 3 = .bool false := hd 3 (List.contains_iff_mem.1 (by kernel_rfl))
       have e9 : vs 9 = undef := hd 9 (List.contains_iff_mem.1 (by kernel_rfl))
       have e11 : vs 11 = undef := hd 11 (List.contains_iff_mem.1 (by kernel_rfl))
       refine step_no (o := ⟨some 30, Op.indexAddr 43 (Operand.tmp 27) (Operand.tmp 29), 0, "zsortanyfunc.go:12", #[{ on := 9, ground := Ground.data }, { on := 11, ground := Ground.data }, { on := 3, ground := Ground.guard }], some (3, true)⟩) [(3, some 21), (9, some 27), (11, some 29)] (by kernel_rfl) (by kernel_rfl) (by simp only [frD, e3, e9, e11]; rfl) rfl (by simp)
      | 13, _ =>
       have e3 : vs 3 = .bool false := hd 3 (List.contains_iff_mem.1 (by kernel_rfl))
       have e12 : vs 12 = undef := hd 12 (List.contains_iff_mem.1 (by kernel_rfl))
       refine step_no (o := ⟨some 31, Op.load 3 (Operand.tmp 30), 3, "zsortanyfunc.go:12", #[{ on := 12, ground := Ground.data }, { on := 3, ground := Ground.guard }], some (3, true)⟩) [(3, some 21), (12, some 30)] (by kernel_rfl) (by kernel_rfl) (by simp only [frD, e3, e12]; rfl) rfl (by simp)
      | 14, _ =>
       have e3 : vs 3 = .bool false := hd 3 (List.contains_iff_mem.1 (by kernel_rfl))
       have e4 : vs 4 = undef := hd 4 (List.contains_iff_mem.1 (by kernel_rfl))
       have e8 : vs 8 = undef := hd 8 (List.contains_iff_mem.1 (by kernel_rfl))
       have e13 : vs 13 = undef := hd 13 (List.contains_iff_mem.1 (by kernel_rfl))
       refine step_no (o := ⟨some 32, Op.call { callee := Callee.value (Operand.tmp 22), args := #[Operand.tmp 26, Operand.tmp 31], argTypes := #[3, 3] }, 3, "zsortanyfunc.go:12", #[{ on := 4, ground := Ground.data }, { on := 8, ground := Ground.data }, { on := 13, ground := Ground.data }, { on := 3, ground := Ground.chain }, { on := 3, ground := Ground.guard }], some (3, true)⟩) [(3, some 21), (4, some 22), (8, some 26), (13, some 31)] (by kernel_rfl) (by kernel_rfl) (by simp only [frD, e3, e4, e8, e13]; rfl) rfl (by simp)
      | 15, _ =>
       have e3 : vs 3 = .bool false := hd 3 (List.contains_iff_mem.1 (by kernel_rfl))
       have e14 : vs 14 = undef := hd 14 (List.contains_iff_mem.1 (by kernel_rfl))
       refine step_no (o := ⟨some 33, Op.binOp BinOp.lss 3 (Operand.tmp 32) (Operand.const (Value.int IntKind.i64 0)) 3, 4, "zsortanyfunc.go:12", #[{ on := 14, ground := Ground.data }, { on := 3, ground := Ground.guard }], some (3, true)⟩) [(3, some 21), (14, some 32)] (by kernel_rfl) (by kernel_rfl) (by simp only [frD, e3, e14]; rfl) rfl (by simp)
      | 16, _ =>
       have e3 : vs 3 = .bool false := hd 3 (List.contains_iff_mem.1 (by kernel_rfl))
       have e15 : vs 15 = undef := hd 15 (List.contains_iff_mem.1 (by kernel_rfl))
       refine step_yes [(3, some 21), (15, some 33)] rfl (by kernel_rfl) fun K hK => ?_
       simp only [frD, e3, e15] at hK ⊢
       refine ⟨by rfl, ?_⟩
       go_simp
       exact hK _ _ ⟨Below.refl _ _, rfl, by simp⟩
      | i + 17, hi => exact absurd hi (by omega)
     ·intro vs wph3 hk3 hΦ _
      simp only [List.drop_succ_cons, List.drop_zero]
      rw [fr_frD, show (List.range 17).map _ = [(0, some 18), (1, some 19), (2, some 20), (3, some 21), (4, some 22), (5, some 23), (6, some 24), (7, some 25), (8, some 26), (9, some 27), (10, some 28), (11, some 29), (12, some 30), (13, some 31), (14, some 32), (15, some 33), (16, some 34)] by kernel_rfl]
      have ph0 := hΦ 0 (by omega)
      have ph1 := hΦ 1 (by omega)
      have ph2 := hΦ 2 (by omega)
      have ph3 := hΦ 3 (by omega)
      have ph4 := hΦ 4 (by omega)
      have ph5 := hΦ 5 (by omega)
      have ph6 := hΦ 6 (by omega)
      have ph7 := hΦ 7 (by omega)
      have ph8 := hΦ 8 (by omega)
      have ph9 := hΦ 9 (by omega)
      have ph10 := hΦ 10 (by omega)
      have ph11 := hΦ 11 (by omega)
      have ph12 := hΦ 12 (by omega)
      have ph13 := hΦ 13 (by omega)
      have ph14 := hΦ 14 (by omega)
      have ph15 := hΦ 15 (by omega)
      have ph16 := hΦ 16 (by omega)
      simp only [si4bΦ] at ph0 ph1 ph2 ph3 ph4 ph5 ph6 ph7 ph8 ph9 ph10 ph11 ph12 ph13 ph14 ph15 ph16
      clear hΦ
      simp only [frD, ph0, ph1, ph2, ph3, ph4, ph5, ph6, ph7, ph8, ph9, ph10, ph11, ph12, ph13, ph14, ph15, ph16]
      simp only [Act.put, List.setIfInBounds_toArray, List.set_cons_zero, List.set_cons_succ]
      clear ph0
      clear ph1
      clear ph2
      clear ph3
      clear ph4
      clear ph5
      clear ph6
      clear ph7
      clear ph8
      clear ph9
      clear ph10
      clear ph11
      clear ph12
      clear ph13
      clear ph14
      clear ph15
      clear ph16
      have hk30 := Keeps.trans' (w1 := wr.drew) (Below.drew (Below.refl _ wr)) hk3
      have hkt3 := hkt.trans (Turn.of_keeps (T := [g]) hk30) (fun _ h _ => h)
      have HR3 : Hid (RowI wph3 g (srtI f (k + 1) l) rest) := Lib.hid (Own.below HRE.out hk30)
      go_wp2
      go_roundw
      case rel => exact ⟨k + 1, by omega, .inl (by omega), by go_num, HR3, hkt3⟩
      case measure => simp [intOf]; omega
    | succ ii =>
     obtain ⟨j, hj⟩ : ∃ j, ii + 1 = j := ⟨_, rfl⟩
     have hLn := HRL.out.2.1
     have hjl : j < L.length := by omega
     have hil : ii < L.length := by omega
     have hij : (j : Int) - 1 = (ii : Int) := by omega
     have hjp : (0 : Int) < (j : Int) := by omega
     have hjn : (j : Int) < (n : Int) := by omega
     have hin : (ii : Int) < (n : Int) := by omega
     have hii4 : (ii : Int) ≤ 4096 := by omega
     have hwr : IntKind.i64.wrap (ii : Int) = (ii : Int) := by rw [IntKind.wrap_i64]; omega
     have hj4 : (j : Int) ≤ 4096 := by omega
     have hjp2 : (0 < j) = True := eq_true (by omega)
     have hcast : ((ii + 1 : Nat) : Int) = (j : Int) := by rw [hj]
     have da := HRL.out.2.2 _ (mem_getD hjl)
     have db := HRL.out.2.2 _ (mem_getD hil)
     have x0 := HRL.out.1.c hjl
     have y0 := HRL.out.1.c hil
     have hbu := HBU.out
     rw [bubI, hj] at hbu
     generalize L.getD j 0 = xa at *
     generalize L.getD ii 0 = xb at *
     have X0 := Lib.hid x0
     have Y0 := Lib.hid y0
     have HGL := Lib.hid (Own.lt HRL.out.1)
     have HJI := Lib.hid (And.intro hj (And.intro hjl hil))
     have HDA := Lib.hid da
     have HDB := Lib.hid db
     have HCM := Lib.hid (fun (u : World) (hk : Keeps wr u) => HC.out u (hkt.trans (Turn.of_keeps (T := [g]) hk) (fun _ h _ => h)) xa xb da db)
     obtain ⟨q, hq⟩ : ∃ q, f xa xb = q := ⟨_, rfl⟩
     rw [hq] at HCM hbu
     have HBUL := Lib.hid hbu
     rw [hcast]
     clear hbu x0 y0 hj hjl hil hq hcast hLn da db
     obtain ⟨B, hB⟩ : ∃ B, decide (q < 0) = B := ⟨_, rfl⟩
     have HB := Lib.hid hB
     go_wp2
     refine wp_region_steps (m := 17) rfl (by kernel_rfl) (si4aΦ (.slice (some ⟨g, 0, none⟩) n c) (.func (.func 61) #[] #[.pointer (some ⟨bp, 0, none⟩)]) xa xb ⟨g, j, none⟩ ⟨g, ii, none⟩ j ii q B) [] ?_ ?_ ?_
     ·intro i v w w' hi h hk
      match i, hi with
      | 0, _ | 1, _ | 2, _ | 3, _ | 4, _ | 5, _ | 6, _ | 7, _ | 8, _ | 9, _ | 10, _ | 11, _ | 12, _ | 13, _ | 14, _ | 15, _ | 16, _ => exact h
      | i + 17, hi => exact absurd hi (by omega)
     ·intro i hi vs wph3 hk3 hd
      have hkq := Keeps.trans' (w1 := wr.drew) (Below.drew (Below.refl _ wr)) hk3
      have x0 := (hkq.cell (p := ⟨g, j, none⟩) HGL.out).trans X0.out
      have y0 := (hkq.cell (p := ⟨g, ii, none⟩) HGL.out).trans Y0.out
      match i, hi with
      | 0, _ =>
       refine step_yes [] rfl (by kernel_rfl) fun K hK => ?_
       simp only [frD] at hK ⊢
       refine ⟨by rfl, ?_⟩
       go_simp
       exact hK _ _ ⟨Below.refl _ _, rfl, by simp⟩
      | 1, _ =>
       refine step_yes [] rfl (by kernel_rfl) fun K hK => ?_
       simp only [frD] at hK ⊢
       refine ⟨by rfl, ?_⟩
       go_simp
       exact hK _ _ ⟨Below.refl _ _, rfl, by simp⟩
      | 2, _ =>
       have e0 : vs 0 = .int .i64 (j : Nat) := hd 0 (List.contains_iff_mem.1 (by kernel_rfl))
       have e1 : vs 1 = .int .i64 0 := hd 1 (List.contains_iff_mem.1 (by kernel_rfl))
       refine step_yes [(0, some 18), (1, some 19)] rfl (by kernel_rfl) fun K hK => ?_
       simp only [frD, e0, e1] at hK ⊢
       refine ⟨by rfl, ?_⟩
       go_simp
       exact hK _ _ ⟨Below.refl _ _, rfl, by simp⟩
      | 3, _ =>
       have e2 : vs 2 = .bool true := hd 2 (List.contains_iff_mem.1 (by kernel_rfl))
       refine step_yes [(2, some 20)] rfl (by kernel_rfl) fun K hK => ?_
       simp only [frD, e2] at hK ⊢
       refine ⟨by rfl, ?_⟩
       go_simp
       exact hK _ _ ⟨Below.refl _ _, rfl, by simp⟩
      | 4, _ =>
       have e3 : vs 3 = .bool true := hd 3 (List.contains_iff_mem.1 (by kernel_rfl))
       refine step_yes [(3, some 21)] rfl (by kernel_rfl) fun K hK => ?_
       simp only [frD, e3] at hK ⊢
       refine ⟨by rfl, ?_⟩
       go_simp
       exact hK _ _ ⟨Below.refl _ _, rfl, by simp⟩
      | 5, _ =>
       have e3 : vs 3 = .bool true := hd 3 (List.contains_iff_mem.1 (by kernel_rfl))
       refine step_yes [(3, some 21)] rfl (by kernel_rfl) fun K hK => ?_
       simp only [frD, e3] at hK ⊢
       refine ⟨by rfl, ?_⟩
       go_simp
       exact hK _ _ ⟨Below.refl _ _, rfl, by simp⟩
      | 6, _ =>
       have e3 : vs 3 = .bool true := hd 3 (List.contains_iff_mem.1 (by kernel_rfl))
       refine step_yes [(3, some 21)] rfl (by kernel_rfl) fun K hK => ?_
       simp only [frD, e3] at hK ⊢
       refine ⟨by rfl, ?_⟩
       go_simp
       exact hK _ _ ⟨Below.refl _ _, rfl, by simp⟩
      | 7, _ =>
       have e3 : vs 3 = .bool true := hd 3 (List.contains_iff_mem.1 (by kernel_rfl))
       have e5 : vs 5 = (.slice (some ⟨g, 0, none⟩) n c) := hd 5 (List.contains_iff_mem.1 (by kernel_rfl))
       have e6 : vs 6 = .int .i64 (j : Nat) := hd 6 (List.contains_iff_mem.1 (by kernel_rfl))
       refine step_yes [(3, some 21), (5, some 23), (6, some 24)] rfl (by kernel_rfl) fun K hK => ?_
       simp only [frD, e3, e5, e6] at hK ⊢
       refine ⟨by rfl, ?_⟩
       go_simp
       exact hK _ _ ⟨Below.refl _ _, rfl, by simp⟩
      | 8, _ =>
       have e3 : vs 3 = .bool true := hd 3 (List.contains_iff_mem.1 (by kernel_rfl))
       have e7 : vs 7 = .pointer (some (⟨g, j, none⟩ : Addr)) := hd 7 (List.contains_iff_mem.1 (by kernel_rfl))
       refine step_yes [(3, some 21), (7, some 25)] rfl (by kernel_rfl) fun K hK => ?_
       simp only [frD, e3, e7] at hK ⊢
       refine ⟨by rfl, ?_⟩
       go_simp
       exact hK _ _ ⟨Below.refl _ _, rfl, by simp⟩
      | 9, _ =>
       have e3 : vs 3 = .bool true := hd 3 (List.contains_iff_mem.1 (by kernel_rfl))
       refine step_yes [(3, some 21)] rfl (by kernel_rfl) fun K hK => ?_
       simp only [frD, e3] at hK ⊢
       refine ⟨by rfl, ?_⟩
       go_simp
       exact hK _ _ ⟨Below.refl _ _, rfl, by simp⟩
      | 10, _ =>
       have e3 : vs 3 = .bool true := hd 3 (List.contains_iff_mem.1 (by kernel_rfl))
       refine step_yes [(3, some 21)] rfl (by kernel_rfl) fun K hK => ?_
       simp only [frD, e3] at hK ⊢
       refine ⟨by rfl, ?_⟩
       go_simp
       exact hK _ _ ⟨Below.refl _ _, rfl, by simp⟩
      | 11, _ =>
       have e3 : vs 3 = .bool true := hd 3 (List.contains_iff_mem.1 (by kernel_rfl))
       have e10 : vs 10 = .int .i64 (j : Nat) := hd 10 (List.contains_iff_mem.1 (by kernel_rfl))
       refine step_yes [(3, some 21), (10, some 28)] rfl (by kernel_rfl) fun K hK => ?_
       simp only [frD, e3, e10] at hK ⊢
       refine ⟨by rfl, ?_⟩
       go_simp
       exact hK _ _ ⟨Below.refl _ _, rfl, by simp⟩
      | 12, _ =>
       have e3 : vs 3 = .bool true := hd 3 (List.contains_iff_mem.1 (by kernel_rfl))
       have e9 : vs 9 = (.slice (some ⟨g, 0, none⟩) n c) := hd 9 (List.contains_iff_mem.1 (by kernel_rfl))
       have e11 : vs 11 = .int .i64 (ii : Nat) := hd 11 (List.contains_iff_mem.1 (by kernel_rfl))
       refine step_yes [(3, some 21), (9, some 27), (11, some 29)] rfl (by kernel_rfl) fun K hK => ?_
       simp only [frD, e3, e9, e11] at hK ⊢
       refine ⟨by rfl, ?_⟩
       go_simp
       exact hK _ _ ⟨Below.refl _ _, rfl, by simp⟩
      | 13, _ =>
       have e3 : vs 3 = .bool true := hd 3 (List.contains_iff_mem.1 (by kernel_rfl))
       have e12 : vs 12 = .pointer (some (⟨g, ii, none⟩ : Addr)) := hd 12 (List.contains_iff_mem.1 (by kernel_rfl))
       refine step_yes [(3, some 21), (12, some 30)] rfl (by kernel_rfl) fun K hK => ?_
       simp only [frD, e3, e12] at hK ⊢
       refine ⟨by rfl, ?_⟩
       go_simp
       exact hK _ _ ⟨Below.refl _ _, rfl, by simp⟩
      | 14, _ =>
       have e3 : vs 3 = .bool true := hd 3 (List.contains_iff_mem.1 (by kernel_rfl))
       have e4 : vs 4 = (.func (.func 61) #[] #[.pointer (some ⟨bp, 0, none⟩)]) := hd 4 (List.contains_iff_mem.1 (by kernel_rfl))
       have e8 : vs 8 = .int .i64 xa := hd 8 (List.contains_iff_mem.1 (by kernel_rfl))
       have e13 : vs 13 = .int .i64 xb := hd 13 (List.contains_iff_mem.1 (by kernel_rfl))
       refine step_yes [(3, some 21), (4, some 22), (8, some 26), (13, some 31)] rfl (by kernel_rfl) fun K hK => ?_
       simp only [frD, e3, e4, e8, e13] at hK ⊢
       refine ⟨by rfl, ?_⟩
       go_simp
       refine (HCM.out _ hkq).mono ?_
       rintro e wph4 ⟨rfl, hk4⟩
       exact hK _ _ ⟨hk4, rfl, by simp⟩
      | 15, _ =>
       have e3 : vs 3 = .bool true := hd 3 (List.contains_iff_mem.1 (by kernel_rfl))
       have e14 : vs 14 = .int .i64 q := hd 14 (List.contains_iff_mem.1 (by kernel_rfl))
       refine step_yes [(3, some 21), (14, some 32)] rfl (by kernel_rfl) fun K hK => ?_
       simp only [frD, e3, e14] at hK ⊢
       refine ⟨by rfl, ?_⟩
       go_simp
       exact hK _ _ ⟨Below.refl _ _, rfl, by simp⟩
      | 16, _ =>
       have e3 : vs 3 = .bool true := hd 3 (List.contains_iff_mem.1 (by kernel_rfl))
       have e15 : vs 15 = .bool B := hd 15 (List.contains_iff_mem.1 (by kernel_rfl))
       refine step_yes [(3, some 21), (15, some 33)] rfl (by kernel_rfl) fun K hK => ?_
       simp only [frD, e3, e15] at hK ⊢
       refine ⟨by rfl, ?_⟩
       go_simp
       exact hK _ _ ⟨Below.refl _ _, rfl, by simp⟩
      | i + 17, hi => exact absurd hi (by omega)
     ·intro vs wph3 hk3 hΦ _
      simp only [List.drop_succ_cons, List.drop_zero]
      rw [fr_frD, show (List.range 17).map _ = [(0, some 18), (1, some 19), (2, some 20), (3, some 21), (4, some 22), (5, some 23), (6, some 24), (7, some 25), (8, some 26), (9, some 27), (10, some 28), (11, some 29), (12, some 30), (13, some 31), (14, some 32), (15, some 33), (16, some 34)] by kernel_rfl]
      have ph0 := hΦ 0 (by omega)
      have ph1 := hΦ 1 (by omega)
      have ph2 := hΦ 2 (by omega)
      have ph3 := hΦ 3 (by omega)
      have ph4 := hΦ 4 (by omega)
      have ph5 := hΦ 5 (by omega)
      have ph6 := hΦ 6 (by omega)
      have ph7 := hΦ 7 (by omega)
      have ph8 := hΦ 8 (by omega)
      have ph9 := hΦ 9 (by omega)
      have ph10 := hΦ 10 (by omega)
      have ph11 := hΦ 11 (by omega)
      have ph12 := hΦ 12 (by omega)
      have ph13 := hΦ 13 (by omega)
      have ph14 := hΦ 14 (by omega)
      have ph15 := hΦ 15 (by omega)
      have ph16 := hΦ 16 (by omega)
      simp only [si4aΦ] at ph0 ph1 ph2 ph3 ph4 ph5 ph6 ph7 ph8 ph9 ph10 ph11 ph12 ph13 ph14 ph15 ph16
      clear hΦ
      simp only [frD, ph0, ph1, ph2, ph3, ph4, ph5, ph6, ph7, ph8, ph9, ph10, ph11, ph12, ph13, ph14, ph15, ph16]
      simp only [Act.put, List.setIfInBounds_toArray, List.set_cons_zero, List.set_cons_succ]
      clear ph0
      clear ph1
      clear ph2
      clear ph3
      clear ph4
      clear ph5
      clear ph6
      clear ph7
      clear ph8
      clear ph9
      clear ph10
      clear ph11
      clear ph12
      clear ph13
      clear ph14
      clear ph15
      clear ph16
      have hk30 := Keeps.trans' (w1 := wr.drew) (Below.drew (Below.refl _ wr)) hk3
      have hkt3 := hkt.trans (Turn.of_keeps (T := [g]) hk30) (fun _ h _ => h)
      have HR3 : Hid (RowI wph3 g L rest) := Lib.hid (Own.below HRL.out.1 hk30)
      clear hk3
      cases B with
      | false =>
       have HRE : Hid (RowI wph3 g (srtI f (k + 1) l) rest) := Lib.hid (by have h2 := HBUL.out; rw [if_neg (of_decide_eq_false HB.out)] at h2; rw [← h2]; exact HR3.out)
       clear hB
       go_wp2
       go_roundw
       case rel => exact ⟨k + 1, by omega, .inl (by omega), by go_num, HRE, hkt3⟩
       case measure => simp [intOf]; omega
      | true =>
       have HBE : Hid (bubI f ii ((L.set j xb).set ii xa) = srtI f (k + 1) l) := Lib.hid (by have h2 := HBUL.out; rwa [if_pos (of_decide_eq_true HB.out)] at h2)
       have HGM := Lib.hid (Own.lt HR3.out)
       have XX0 := Lib.hid ((hk30.cell (p := ⟨g, j, none⟩) HGL.out).trans X0.out)
       have YY0 := Lib.hid ((hk30.cell (p := ⟨g, ii, none⟩) HGL.out).trans Y0.out)
       clear hB
       go_wp2
       have hr6 : RowI wph3 g L rest := HR3.out
       have x0 := XX0.out
       have y0 := YY0.out
       have f0 := Own.frozen hr6 j
       have hr7 := hr6.set (j := j) HJI.out.2.1 xb
       have hr8 := hr7.set (j := ii) (by rw [List.length_set]; exact HJI.out.2.2) xa
       have u0 := (hr7.c (j := ii) (by rw [List.length_set]; exact HJI.out.2.2))
       have e0 := Own.frozen hr7 ii
       have HR8 := Lib.hid hr8
       have HLL8 : Hid (((L.set j xb).set ii xa).length = n ∧ ∀ x ∈ (L.set j xb).set ii xa, D x) := Lib.hid ⟨by rw [List.length_set, List.length_set]; exact HRL.out.2.1, set_all (set_all HRL.out.2.2 HDB.out _) HDA.out _⟩
       have HT8 := Lib.hid ((hkt3.set (p := ⟨g, j, none⟩) (by simp) (.int .i64 xb)).set (p := ⟨g, ii, none⟩) (by simp) (.int .i64 xa))
       clear hr6 hr7 hr8 u0
       go_region
       go_wp2
       go_roundw
       case rel => exact ⟨ii, (L.set j xb).set ii xa, by omega, rfl, Lib.hid ⟨Own.drew HR8.out, HLL8.out⟩, HBE, HT8.out.drew⟩
       case measure => simp [intOf]; omega
  ·have t1 : decide ((k : Int) < (m : Int)) = false := decide_eq_false (by omega)
   have t1n : (k < m) = False := eq_false hlt
   have HRE : Hid (RowI wr g (srtI f m l) rest) := Lib.hid (by
    rcases hkm with h | h
    ·obtain rfl : k = m := by omega
     exact HRK.out
    ·have := HRK.out
     rw [h] at this
     have hm0 : m = 0 ∨ m = 1 := by omega
     rcases hm0 with rfl | rfl
     ·exact this
     ·exact this)
   clear hkm hlt
   go_wp2
   refine bodyPost_end (results_none rfl _ _ _) rfl ?_
   exact ⟨rfl, HRE.out, hkt⟩
end Go.Proofs.YtgcigdahjabimaaGreatDoor
