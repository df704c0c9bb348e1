/- The walks of fraction.placed, Down, Up, Near. -/
import Derived.Test.YtmochehkkadjnaaGreatDoorMgFScale
namespace Go.Proofs.YtmochehkkadjnaaGreatDoor
open Go.RowKit Go.Shelf

theorem szR_scaled (x : Rat) (n : Nat) (P : Int) (hP : (2 : Int) ^ n = P) (hn : n ≤ 512) : szR (x * (P : Rat)) ≤ szR x + 513 := by
  have h1 := szR_mul x (P : Rat)
  have h2 := szR_int P
  have h3 := lenI_two n
  rw [hP] at h3
  omega
theorem two_ne (n : Nat) (P : Int) (hP : (2 : Int) ^ n = P) : P ≠ 0 := by
  rw [← hP]
  exact Int.pow_ne_zero (by decide)
def placC (k : Int) : Int := if k < 0 ∨ 512 < k then 2 else 0
def placQ (R : Rat → Int) (x : Rat) (k : Int) : Rat := Rat.divInt (R (x * (((2 : Int) ^ k.toNat : Int) : Rat))) ((2 : Int) ^ k.toNat)
def nearR (y : Rat) : Int := (y + halfR).floor
theorem len_floor (y : Rat) : lenI y.floor ≤ szR y + 2 := by
  have h1 := lenI_floor y
  have h2 := szR_num (Nat.le_refl (szR y))
  omega
theorem len_near (y : Rat) : lenI (nearR y) ≤ szR y + 2 := by
  have h1 := lenI_floor (y + halfR)
  have h2 := szR_num (Nat.le_refl (szR (y + halfR)))
  have h3 := szR_add y halfR
  have h4 := szR_half
  unfold nearR
  omega
set_option maxRecDepth 100000 in
set_option maxHeartbeats 1000000 in
theorem placed_floor {w : World} {V1 : Value} {x : Rat} {k : Int} (h1 : RatNum w V1 x) (hx : szR x ≤ 80000) (ht : PowTab w) :
    Calls Tryz.prog 119 #[V1, .int .i64 k, .func (.func 47) #[] #[]] w (RCode (placC k) (placQ Rat.floor x k) w) := by
  obtain ⟨b1, A1, n1, c1, d1, B1, m1, e1, rfl⟩ := h1.open_
  have S := ((St.start w).alloc 28 [.bool b1, .slice A1 n1 c1, .bool d1, .slice B1 m1 e1]).alloc 28 [.bool false, .slice none 0 0, .bool false, .slice none 0 0]
  simp only [World.size_alloc] at S
  by_cases hk : k < 0 ∨ 512 < k
  · have HC := Lib.hid (show placC k = 2 from if_pos hk)
    have HB := Lib.hid (fscaled_bad (k := k) (h1.below S.k) hk)
    clear hk
    go_enter Tryz.func119, Tryz.ntmps119
    go_wp2_with fail
    refine HB.out.mono ?_
    rintro e W1 ⟨rfl, hk⟩
    have lt1 : w.heap.size + 1 < W1.heap.size := ((S.below hk).o 0 rfl).lt
    replace S := ((S.below hk).alloc 28 [.bool false, .slice none 0 0, .bool false, .slice none 0 0]).alloc 24 [.bool false, .slice none 0 0]
    simp only [World.size_alloc] at S
    unfold zeroRat zeroInt
    clear hk HB h1
    have r2_0 := S.c 2 0 rfl rfl
    have r2_1 := S.c 2 1 rfl rfl
    have r2_2 := S.c 2 2 rfl rfl
    have r2_3 := S.c 2 3 rfl rfl
    have f2_0 := S.f 2 0 rfl
    have f2_1 := S.f 2 1 rfl
    have f2_2 := S.f 2 2 rfl
    have f2_3 := S.f 2 3 rfl
    go_wp2
    replace S := S.put4 2 rfl rfl rfl (x' := .bool false) (y' := .slice none 0 0) (z' := .bool false) (u' := .slice none 0 0)
    refine bodyPost_ret (v := .tuple #[zeroRat, .int .i64 2]) (by simp [zeroRat, results, Tryz.results119, go_sem, S.c 2 0 rfl rfl, S.c 2 1 rfl rfl, S.c 2 2 rfl rfl, S.c 2 3 rfl rfl]) rfl ?_
    exact ⟨_, by rw [HC.out], by rw [HC.out, if_neg (by decide)], S.k⟩
  · have HC := Lib.hid (show placC k = 0 from if_neg hk)
    obtain ⟨P, hP⟩ : ∃ P, (2 : Int) ^ k.toNat = P := ⟨_, rfl⟩
    have hsz := szR_scaled x k.toNat P hP (by omega)
    have lp := lenI_two k.toNat
    rw [hP] at lp
    have HN := Lib.hid (two_ne k.toNat P hP)
    have hQ : placQ Rat.floor x k = Rat.divInt (Rat.floor (x * (P : Rat))) P := by unfold placQ; rw [hP]
    have HQ := Lib.hid hQ
    have hRx := len_floor (x * (P : Rat))
    have HB := Lib.hid (fscaled_num (k := k) (h1.below S.k) (ht.keep S.k) (by omega) (by omega) hP)
    have hk5 : k.toNat ≤ 512 := by omega
    clear hk hP hQ h1
    generalize x * (P : Rat) = y at *
    generalize hz : Rat.floor y = z at *
    have HZ := Lib.hid hz
    clear hz
    go_enter Tryz.func119, Tryz.ntmps119
    go_wp2_with fail
    refine HB.out.mono ?_
    rintro e W1 ⟨Q, U, rfl, hq, hp, hk⟩
    obtain ⟨b3, A3, n3, c3, d3, B3, m3, e3, rfl⟩ := hq.open_
    obtain ⟨b4, A4, n4, c4, rfl⟩ := hp.open3
    have lt1 : w.heap.size + 1 < W1.heap.size := ((S.below hk).o 0 rfl).lt
    replace S := ((((S.below hk).addQ hq).addN (hp.num (by omega))).alloc 28 [.bool b3, .slice A3 n3 c3, .bool d3, .slice B3 m3 e3]).alloc 24 [.bool b4, .slice A4 n4 c4]
    simp only [World.size_alloc] at S
    clear hk HB hq hp
    go_upto_region 4 with fail
    generalize hB : W1.heap.size = B at *
    generalize hW : (W1.alloc (.cells #[.bool b3, .slice A3 n3 c3, .bool d3, .slice B3 m3 e3] 28)).alloc (.cells #[.bool b4, .slice A4 n4 c4] 24) = W3 at *
    clear hB hW
    replace S := S.drew
    go_region_held3 (fun w' => w'.cell? ⟨B, 0, none⟩ = some (.bool b3) ∧ w'.cell? ⟨B, 1, none⟩ = some (.slice A3 n3 c3) ∧ w'.cell? ⟨B, 2, none⟩ = some (.bool d3) ∧ w'.cell? ⟨B, 3, none⟩ = some (.slice B3 m3 e3) ∧ w'.cell? ⟨B + 1, 0, none⟩ = some (.bool b4) ∧ w'.cell? ⟨B + 1, 1, none⟩ = some (.slice A4 n4 c4))
      (first
        | with_reducible exact ⟨S.c 1 0 rfl rfl, S.c 1 1 rfl rfl, S.c 1 2 rfl rfl, S.c 1 3 rfl rfl, S.c 0 0 rfl rfl, S.c 0 1 rfl rfl⟩
        | with_reducible exact ⟨(S.put4 2 rfl rfl rfl).c 1 0 rfl rfl, (S.put4 2 rfl rfl rfl).c 1 1 rfl rfl, (S.put4 2 rfl rfl rfl).c 1 2 rfl rfl, (S.put4 2 rfl rfl rfl).c 1 3 rfl rfl, (S.put4 2 rfl rfl rfl).c 0 0 rfl rfl, (S.put4 2 rfl rfl rfl).c 0 1 rfl rfl⟩)
      (first
        | (go_at_call 81; refine (reduced_num (S.ni 0 rfl) (S.ni 1 rfl) HN.out).mono ?_; rintro e W6 ⟨U8, rfl, hp2, hk2⟩; obtain ⟨b5, A5, n5, c5, d5, B5, m5, e5, rfl⟩ := hp2.open_; replace S := (S.below hk2).addQ hp2; have r2_0 := S.c 2 0 rfl rfl; have r2_1 := S.c 2 1 rfl rfl; have r2_2 := S.c 2 2 rfl rfl; have r2_3 := S.c 2 3 rfl rfl; have f2_0 := S.f 2 0 rfl; have f2_1 := S.f 2 1 rfl; have f2_2 := S.f 2 2 rfl; have f2_3 := S.f 2 3 rfl)
        | (go_at_call 47; refine (ffloor_num ((S.qi 1 rfl).num (by omega))).mono ?_; rintro e W5 ⟨U9, rfl, hp, hk⟩; have hp : IntRep _ _ z := (by rw [← HZ.out]; exact hp); replace S := (S.below hk).addN (hp.num (by omega))))
    all_goals
      go_wp2
      replace S := S.put4 2 rfl rfl rfl (x' := .bool b5) (y' := .slice A5 n5 c5) (z' := .bool d5) (u' := .slice B5 m5 e5)
      refine bodyPost_ret (v := .tuple #[.agg #[.bool b5, .slice A5 n5 c5, .bool d5, .slice B5 m5 e5], .int .i64 0]) (by simp [results, Tryz.results119, go_sem, S.c 2 0 rfl rfl, S.c 2 1 rfl rfl, S.c 2 2 rfl rfl, S.c 2 3 rfl rfl]) rfl ?_
      exact ⟨_, by rw [HC.out], by rw [HC.out, if_pos rfl, HQ.out]; exact S.qi 0 rfl, S.k⟩
set_option maxRecDepth 100000 in
set_option maxHeartbeats 1000000 in
theorem fdown_num {w : World} {V1 : Value} {x : Rat} {k : Int} (h1 : RatNum w V1 x) (hx : szR x ≤ 80000) (ht : PowTab w) :
    Calls Tryz.prog 52 #[V1, .int .i64 k] w (RCode (placC k) (placQ Rat.floor x k) w) := by
  obtain ⟨b1, A1, n1, c1, d1, B1, m1, e1, rfl⟩ := h1.open_
  have S := ((St.start w).alloc 28 [.bool b1, .slice A1 n1 c1, .bool d1, .slice B1 m1 e1]).alloc 28 [.bool false, .slice none 0 0, .bool false, .slice none 0 0]
  simp only [World.size_alloc] at S
  obtain ⟨c, hc⟩ : ∃ c, placC k = c := ⟨_, rfl⟩
  have HCC := Lib.hid hc
  have HP := Lib.hid (placed_floor (k := k) (h1.below S.k) hx (ht.keep S.k))
  rw [hc] at HP
  obtain ⟨q, hq0⟩ : ∃ q, placQ Rat.floor x k = q := ⟨_, rfl⟩
  have HQ := Lib.hid hq0
  rw [hq0] at HP
  clear hc hq0 h1
  go_enter Tryz.func52, Tryz.ntmps52
  go_wp2_with fail
  refine HP.out.mono ?_
  clear HP
  generalize (w.alloc (.cells #[.bool b1, .slice A1 n1 c1, .bool d1, .slice B1 m1 e1] 28)).alloc (.cells #[.bool false, .slice none 0 0, .bool false, .slice none 0 0] 28) = W at *
  rintro e W3 ⟨U3, rfl, hq, hk⟩
  by_cases h0 : c = 0
  · rw [if_pos h0] at hq
    obtain ⟨b5, A5, n5, c5, d5, B5, m5, e5, rfl⟩ := hq.open_
    have HC := Lib.hid h0
    replace S := (S.below hk).addQ hq
    clear hk hq h0
    have r0_0 := S.c 0 0 rfl rfl
    have r0_1 := S.c 0 1 rfl rfl
    have r0_2 := S.c 0 2 rfl rfl
    have r0_3 := S.c 0 3 rfl rfl
    have f0_0 := S.f 0 0 rfl
    have f0_1 := S.f 0 1 rfl
    have f0_2 := S.f 0 2 rfl
    have f0_3 := S.f 0 3 rfl
    go_wp2
    replace S := S.put4 0 rfl rfl rfl (x' := .bool b5) (y' := .slice A5 n5 c5) (z' := .bool d5) (u' := .slice B5 m5 e5)
    refine bodyPost_ret (v := .tuple #[.agg #[.bool b5, .slice A5 n5 c5, .bool d5, .slice B5 m5 e5], .int .i64 c]) (by simp [results, Tryz.results52, go_sem, S.c 0 0 rfl rfl, S.c 0 1 rfl rfl, S.c 0 2 rfl rfl, S.c 0 3 rfl rfl]) rfl ?_
    exact ⟨_, by rw [HCC.out], by rw [HCC.out, if_pos HC.out, HQ.out]; exact S.qi 0 rfl, S.k⟩
  · rw [if_neg h0] at hq
    unfold zeroRat at hq
    subst hq
    have HC := Lib.hid h0
    replace S := S.below hk
    clear hk h0
    have r0_0 := S.c 0 0 rfl rfl
    have r0_1 := S.c 0 1 rfl rfl
    have r0_2 := S.c 0 2 rfl rfl
    have r0_3 := S.c 0 3 rfl rfl
    have f0_0 := S.f 0 0 rfl
    have f0_1 := S.f 0 1 rfl
    have f0_2 := S.f 0 2 rfl
    have f0_3 := S.f 0 3 rfl
    go_wp2
    replace S := S.put4 0 rfl rfl rfl (x' := .bool false) (y' := .slice none 0 0) (z' := .bool false) (u' := .slice none 0 0)
    refine bodyPost_ret (v := .tuple #[.agg #[.bool false, .slice none 0 0, .bool false, .slice none 0 0], .int .i64 c]) (by simp [results, Tryz.results52, go_sem, S.c 0 0 rfl rfl, S.c 0 1 rfl rfl, S.c 0 2 rfl rfl, S.c 0 3 rfl rfl]) rfl ?_
    exact ⟨_, by rw [HCC.out], by rw [HCC.out, if_neg HC.out]; rfl, S.k⟩
end Go.Proofs.YtmochehkkadjnaaGreatDoor
