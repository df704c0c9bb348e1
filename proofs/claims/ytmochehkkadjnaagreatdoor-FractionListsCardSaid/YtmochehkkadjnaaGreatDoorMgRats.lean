/- Lists of fractions in memory. No program in sight. The walk of fraction.Sum. The walks of the reference's Sum, and of both Dot. -/
import Derived.Test.YtmochehkkadjnaaGreatDoorMgLawF
import Derived.Test.YtmochehkkadjnaaGreatDoorMgStab
namespace Go.Proofs.YtmochehkkadjnaaGreatDoor
open Go.RowKit Go.Shelf

def Row4 {α : Type} (R : World → Value → α → Prop) (w : World) (A : Option Addr) (l : List α) : Prop :=
  ∀ j x, l[j]? = some x → ∃ B o c0 c1 c2 c3, A = some ⟨B, o, none⟩ ∧ (w.cell? ⟨B, o + j * 4, none⟩ = some c0 ∧ w.cell? ⟨B, o + j * 4 + 1, none⟩ = some c1 ∧ w.cell? ⟨B, o + j * 4 + 2, none⟩ = some c2 ∧ w.cell? ⟨B, o + j * 4 + 3, none⟩ = some c3) ∧ R w (.agg #[c0, c1, c2, c3]) x
def Sl4 {α : Type} (R : World → Value → α → Prop) (w : World) (V : Value) (l : List α) : Prop := ∃ A c, V = .slice A l.length c ∧ l.length ≤ c ∧ c ≤ maxLen ∧ (A = none → c = 0) ∧ Row4 R w A l
def Lasts {α : Type} (R : World → Value → α → Prop) : Prop := ∀ (w w' : World) (V : Value) (x : α), Keeps w w' → R w V x → R w' V x
theorem cell_lt {w : World} {b o : Nat} {v : Value} (h : w.cell? ⟨b, o, none⟩ = some v) : b < w.heap.size := by
  rcases Nat.lt_or_ge b w.heap.size with h1 | h1
  · exact h1
  · simp [World.cell?, Array.getElem?_eq_none h1] at h
theorem cell_keep {w w' : World} {b o : Nat} {v : Value} (h : w.cell? ⟨b, o, none⟩ = some v) (hk : Keeps w w') : w'.cell? ⟨b, o, none⟩ = some v :=
  (hk.cell (p := ⟨b, o, none⟩) (cell_lt h)).trans h
section
variable {α : Type} {R : World → Value → α → Prop} {w w' : World} {A : Option Addr} {V : Value} {l : List α}
theorem Row4.below (hR : Lasts R) (h : Row4 R w A l) (hk : Keeps w w') : Row4 R w' A l := fun j x hj => by
  obtain ⟨B, o, c0, c1, c2, c3, rfl, ⟨h0, h1, h2, h3⟩, hx⟩ := h j x hj
  exact ⟨B, o, c0, c1, c2, c3, rfl, ⟨cell_keep h0 hk, cell_keep h1 hk, cell_keep h2 hk, cell_keep h3 hk⟩, hR _ _ _ _ hk hx⟩
theorem Sl4.below (hR : Lasts R) (h : Sl4 R w V l) (hk : Keeps w w') : Sl4 R w' V l := by
  obtain ⟨A, c, rfl, h1, h2, h3, h4⟩ := h
  exact ⟨A, c, rfl, h1, h2, h3, h4.below hR hk⟩
theorem Row4.get (hR : Lasts R) (h : Row4 R w A l) {j : Nat} {x : α} (hj : l[j]? = some x) : ∃ B o c0 c1 c2 c3, A = some ⟨B, o, none⟩ ∧
    (∀ W, Keeps w W → W.cell? ⟨B, o + j * 4, none⟩ = some c0 ∧ W.cell? ⟨B, o + j * 4 + 1, none⟩ = some c1 ∧ W.cell? ⟨B, o + j * 4 + 2, none⟩ = some c2 ∧ W.cell? ⟨B, o + j * 4 + 3, none⟩ = some c3) ∧ ∀ W, Keeps w W → R W (.agg #[c0, c1, c2, c3]) x := by
  obtain ⟨B, o, c0, c1, c2, c3, rfl, ⟨h0, h1, h2, h3⟩, hx⟩ := h j x hj
  exact ⟨B, o, c0, c1, c2, c3, rfl, fun W hk => ⟨cell_keep h0 hk, cell_keep h1 hk, cell_keep h2 hk, cell_keep h3 hk⟩, fun W hk => hR _ _ _ _ hk hx⟩
end
theorem lasts_num : Lasts RatNum := fun _ _ _ _ hk h => h.below hk
def sumR (l : List Rat) : Rat := l.foldl (· + ·) 0
theorem sumR_snoc (l : List Rat) (q : Rat) : sumR (l ++ [q]) = sumR l + q := by simp [sumR]
theorem sumR_take {l : List Rat} {k : Nat} (h : k < l.length) : sumR (l.take (k + 1)) = sumR (l.take k) + l[k] := by
  rw [List.take_succ_eq_append_getElem h, sumR_snoc]
theorem szR_null : szR 0 ≤ 1 := szR_mk (by rw [Rat.zero_num, lenI_zero]; omega) (by rw [Rat.zero_den]; exact lenI_one)
theorem szR_sum {l : List Rat} {m : Nat} (h : ∀ q ∈ l, szR q ≤ m) : ∀ k, k ≤ l.length → szR (sumR (l.take k)) ≤ 1 + k * (m + 1)
  | 0, _ => by rw [List.take_zero]; exact Nat.le_trans szR_null (by omega)
  | k + 1, hk => by
    have := szR_sum h k (by omega)
    rw [sumR_take (by omega)]
    have h1 := szR_add (sumR (l.take k)) l[k]
    have h2 := h l[k] (List.getElem_mem _)
    rw [Nat.add_mul]
    omega
theorem St.onlyL {w0 w : World} {bs : List Bx} {ps : List (World → Prop)} (S : St w0 w bs ps) : St w0 w bs [] := ⟨S.k, S.b, S.lo, S.d, trivial⟩
theorem St.dropb {w0 w : World} {b : Bx} {bs : List Bx} {ps : List (World → Prop)} (S : St w0 w (b :: bs) ps) : St w0 w bs ps :=
  ⟨S.k, S.b.2, fun p hp => S.lo p (List.mem_cons_of_mem _ hp), (List.pairwise_cons.1 S.d).2, S.p⟩
end Go.Proofs.YtmochehkkadjnaaGreatDoor

namespace Go.Proofs.YtmochehkkadjnaaGreatDoor
open Go.RowKit Go.Shelf

set_option maxRecDepth 100000 in
set_option maxHeartbeats 1000000 in
theorem fsum_any {w : World} {A : Option Addr} {c : Nat} {qs : List Rat} (hr : Row4 RatNum w A qs) (hz : ∀ q ∈ qs, szR q ≤ 8) (hn : qs.length ≤ 8) : Calls Tryz.prog 73 #[.slice A qs.length c] w (RGives (sumR qs) w) := by
  have HR := Lib.hid hr
  have HZ := Lib.hid hz
  have HN := Lib.hid hn
  clear hr hz
  have y0 := szR_int 0
  have S := (St.start w)
  go_enter Tryz.func73, Tryz.ntmps73
  go_wp2_with fail
  replace S := (S.alloc 28 [.bool false, .slice none 0 0, .bool false, .slice none 0 0])
  obtain ⟨W1, eW, S⟩ := S.pack
  rw [eW]
  clear eW
  refine ((whole_num 0 (by omega) (by omega))).mono ?_
  rintro e W2 ⟨U2, rfl, hp, hk⟩
  obtain ⟨b3, A3, n3, c3, d3, B3, m3, e3, rfl⟩ := hp.open_
  replace S := (S.below hk).addQ hp
  clear hk hp
  go_wp2
  replace S := (S.alloc 28 [.bool b3, .slice A3 n3 c3, .bool d3, .slice B3 m3 e3])
  obtain ⟨W3, eW, S⟩ := S.pack
  rw [eW]
  clear eW
  generalize W2.heap.size = P1 at *
  go_loopw [9] (fun i wr => ∃ (k : Nat) (b : Bool) (A1 : Option Addr) (n1 c1 : Nat) (d : Bool) (B1 : Option Addr) (m1 e1 : Nat), k ≤ qs.length ∧ i = .int .i64 (k : Nat) ∧ St w wr [(P1, 28, [.bool b, .slice A1 n1 c1, .bool d, .slice B1 m1 e1]), (w.heap.size, 28, [.bool false, .slice none 0 0, .bool false, .slice none 0 0])] [fun w => RatRep w (.agg #[.bool b, .slice A1 n1 c1, .bool d, .slice B1 m1 e1]) (sumR (qs.take k))]) (fun i _ => qs.length - (intOf i).toNat)
  case atStart => exact ⟨0, b3, A3, n3, c3, d3, B3, m3, e3, Nat.zero_le _, rfl, by rw [List.take_zero]; exact S⟩
  case round =>
    clear S
    obtain ⟨k, b, A1, n1, c1, d, B1, m1, e1, hkd, rfl, S⟩ := hrel
    have hsz := szR_sum HZ.out k hkd
    by_cases hlt : k < qs.length
    · obtain ⟨q, hq⟩ : ∃ q, qs[k]? = some q := ⟨_, List.getElem?_eq_getElem hlt⟩
      obtain ⟨B, o, x0, x1, x2, x3, rfl, hc, hx⟩ := HR.out.get lasts_num hq
      have hX := hx wr S.k
      obtain ⟨bx, Ax, nx, cx, dx, Bx, mx, ex, he⟩ := hX.open_
      cases he
      obtain ⟨g0, g1, g2, g3⟩ := hc wr S.k
      replace S := S.addR hX
      have hqs : qs[k] = q := by rw [List.getElem?_eq_getElem hlt] at hq; exact Option.some.inj hq
      have hq8 : szR q ≤ 8 := by rw [← hqs]; exact HZ.out _ (List.getElem_mem _)
      have hs2 := sumR_take hlt
      rw [hqs] at hs2
      generalize sumR (qs.take k) = s at *
      have HS2 := Lib.hid hs2
      have hkI : (k : Int) ≤ 8 := by omega
      clear hs2 hqs hq hc hx hX
      have y0 := szR_add s q
      have t1 : decide ((k : Int) < (qs.length : Int)) = true := by exact decide_eq_true (by omega)
      go_upto_region 5 with fail
      replace S := (S.alloc 28 [.bool bx, .slice Ax nx cx, .bool dx, .slice Bx mx ex])
      obtain ⟨W31, eW, S⟩ := S.pack
      rw [eW]
      clear eW
      generalize wr.heap.size = P31 at *
      have r1_0 := S.c 1 0 rfl rfl
      have r1_1 := S.c 1 1 rfl rfl
      have r1_2 := S.c 1 2 rfl rfl
      have r1_3 := S.c 1 3 rfl rfl
      have r2_0 := S.c 0 0 rfl rfl
      have r2_1 := S.c 0 1 rfl rfl
      have r2_2 := S.c 0 2 rfl rfl
      have r2_3 := S.c 0 3 rfl rfl
      go_wp2_with fail
      refine ((fadd_num ((S.qi 1 rfl).num (by omega)) (S.ri 0 rfl))).mono ?_
      rintro e W32 ⟨U32, rfl, hp, hk⟩
      obtain ⟨b33, A33, n33, c33, d33, B33, m33, e33, rfl⟩ := hp.open_
      replace S := (S.below hk).addQ hp
      clear hk hp
      clear r1_0 r1_1 r1_2 r1_3 r2_0 r2_1 r2_2 r2_3
      have r1_0 := S.c 1 0 rfl rfl
      have f1_0 := S.f 1 0 rfl
      have r1_1 := S.c 1 1 rfl rfl
      have f1_1 := S.f 1 1 rfl
      have r1_2 := S.c 1 2 rfl rfl
      have f1_2 := S.f 1 2 rfl
      have r1_3 := S.c 1 3 rfl rfl
      have f1_3 := S.f 1 3 rfl
      go_wp2
      replace S := (S.put4 1 rfl rfl rfl (x' := .bool b33) (y' := .slice A33 n33 c33) (z' := .bool d33) (u' := .slice B33 m33 e33))
      clear r1_0 f1_0 r1_1 f1_1 r1_2 f1_2 r1_3 f1_3
      go_roundw
      case rel => exact ⟨k + 1, b33, A33, n33, c33, d33, B33, m33, e33, by omega, by go_num, by rw [HS2.out]; exact S.dropb.onlyL.addQ (S.qi 0 rfl)⟩
      case measure => simp [intOf]; omega
    · have HEQ := Lib.hid (show sumR qs = sumR (qs.take k) by rw [List.take_of_length_le (by omega)])
      generalize sumR (qs.take k) = s at *
      have t1 : decide ((k : Int) < (qs.length : Int)) = false := by exact decide_eq_false (by omega)
      have r0_0 := S.c 1 0 rfl rfl
      have f0_0 := S.f 1 0 rfl
      have r0_1 := S.c 1 1 rfl rfl
      have f0_1 := S.f 1 1 rfl
      have r0_2 := S.c 1 2 rfl rfl
      have f0_2 := S.f 1 2 rfl
      have r0_3 := S.c 1 3 rfl rfl
      have f0_3 := S.f 1 3 rfl
      have r1_0 := S.c 0 0 rfl rfl
      have r1_1 := S.c 0 1 rfl rfl
      have r1_2 := S.c 0 2 rfl rfl
      have r1_3 := S.c 0 3 rfl rfl
      go_wp2
      replace S := (S.put4 1 rfl rfl rfl (x' := .bool b) (y' := .slice A1 n1 c1) (z' := .bool d) (u' := .slice B1 m1 e1))
      refine bodyPost_ret (v := .agg #[.bool b, .slice A1 n1 c1, .bool d, .slice B1 m1 e1]) (by simp [results, Tryz.results73, go_sem, S.c 1 0 rfl rfl, S.c 1 1 rfl rfl, S.c 1 2 rfl rfl, S.c 1 3 rfl rfl]) rfl ?_
      exact ⟨_, rfl, by rw [HEQ.out]; exact S.qi 0 rfl, S.k⟩
end Go.Proofs.YtmochehkkadjnaaGreatDoor

namespace Go.Proofs.YtmochehkkadjnaaGreatDoor
open Go.RowKit Go.Shelf

def dotR (a b : List Rat) : Rat := sumR (List.zipWith (· * ·) a b)
def dotK (a b : List Rat) (k : Nat) : Rat := sumR ((List.zipWith (· * ·) a b).take k)
theorem dotR_take {a b : List Rat} {k : Nat} (h : k < a.length) (h2 : k < b.length) : dotK a b (k + 1) = dotK a b k + a[k] * b[k] := by
  unfold dotK
  rw [sumR_take (by rw [List.length_zipWith]; omega), List.getElem_zipWith]
theorem dotR_all {a b : List Rat} {k : Nat} (h : a.length ≤ k) (_ : b.length ≤ k) : dotR a b = dotK a b k := by
  unfold dotK dotR
  rw [List.take_of_length_le (by rw [List.length_zipWith]; omega)]
theorem szR_dot {a b : List Rat} (h1 : ∀ q ∈ a, szR q ≤ 8) (h2 : ∀ q ∈ b, szR q ≤ 8) (k : Nat) (h : k ≤ a.length) (hl : b.length = a.length) : szR (dotK a b k) ≤ 1 + k * 17 := by
  refine szR_sum (l := List.zipWith (· * ·) a b) (m := 16) ?_ k (by rw [List.length_zipWith]; omega)
  intro q hq
  obtain ⟨i, hi, rfl⟩ := List.getElem_of_mem hq
  rw [List.getElem_zipWith]
  rw [List.length_zipWith] at hi
  have e1 := h1 (a[i]'(by omega)) (List.getElem_mem _)
  have e2 := h2 (b[i]'(by omega)) (List.getElem_mem _)
  have e3 := szR_mul (a[i]'(by omega)) (b[i]'(by omega))
  omega
set_option maxRecDepth 100000 in
set_option maxHeartbeats 1000000 in
theorem gsum_any {w : World} {A : Option Addr} {c : Nat} {qs : List Rat} (hr : Row4 RatNum w A qs) (hz : ∀ q ∈ qs, szR q ≤ 8) (hn : qs.length ≤ 8) : Calls Tryz.prog 74 #[.slice A qs.length c] w (RGives (sumR qs) w) := by
  have HR := Lib.hid hr
  have HZ := Lib.hid hz
  have HN := Lib.hid hn
  clear hr hz
  have y0 := szR_int 0
  have S := (St.start w)
  go_enter Tryz.func74, Tryz.ntmps74
  go_wp2_with fail
  replace S := (S.alloc 28 [.bool false, .slice none 0 0, .bool false, .slice none 0 0])
  obtain ⟨W1, eW, S⟩ := S.pack
  rw [eW]
  clear eW
  refine ((gwhole_num 0 (by omega) (by omega))).mono ?_
  rintro e W2 ⟨U2, rfl, hp, hk⟩
  obtain ⟨b3, A3, n3, c3, d3, B3, m3, e3, rfl⟩ := hp.open_
  replace S := (S.below hk).addQ hp
  clear hk hp
  go_wp2
  replace S := (S.alloc 28 [.bool b3, .slice A3 n3 c3, .bool d3, .slice B3 m3 e3])
  obtain ⟨W3, eW, S⟩ := S.pack
  rw [eW]
  clear eW
  generalize W2.heap.size = P1 at *
  go_loopw [4] (fun i wr => ∃ (k : Nat) (b : Bool) (A1 : Option Addr) (n1 c1 : Nat) (d : Bool) (B1 : Option Addr) (m1 e1 : Nat), k ≤ qs.length ∧ i = .int .i64 (k : Nat) ∧ St w wr [(P1, 28, [.bool b, .slice A1 n1 c1, .bool d, .slice B1 m1 e1]), (w.heap.size, 28, [.bool false, .slice none 0 0, .bool false, .slice none 0 0])] [fun w => RatRep w (.agg #[.bool b, .slice A1 n1 c1, .bool d, .slice B1 m1 e1]) (sumR (qs.take k))]) (fun i _ => qs.length - (intOf i).toNat)
  case atStart => exact ⟨0, b3, A3, n3, c3, d3, B3, m3, e3, Nat.zero_le _, rfl, by rw [List.take_zero]; exact S⟩
  case round =>
    clear S
    obtain ⟨k, b, A1, n1, c1, d, B1, m1, e1, hkd, rfl, S⟩ := hrel
    have hsz := szR_sum HZ.out k hkd
    by_cases hlt : k < qs.length
    · obtain ⟨q, hq⟩ : ∃ q, qs[k]? = some q := ⟨_, List.getElem?_eq_getElem hlt⟩
      obtain ⟨B, o, x0, x1, x2, x3, rfl, hc, hx⟩ := HR.out.get lasts_num hq
      have hX := hx wr S.k
      obtain ⟨bx, Ax, nx, cx, dx, Bx, mx, ex, he⟩ := hX.open_
      cases he
      have HC := Lib.hid hc
      replace S := S.addR hX
      have hqs : qs[k] = q := by rw [List.getElem?_eq_getElem hlt] at hq; exact Option.some.inj hq
      have hq8 : szR q ≤ 8 := by rw [← hqs]; exact HZ.out _ (List.getElem_mem _)
      have hs2 := sumR_take hlt
      rw [hqs] at hs2
      generalize sumR (qs.take k) = s at *
      have HS2 := Lib.hid hs2
      have hkI : (k : Int) ≤ 8 := by omega
      clear hs2 hqs hq hc hx hX
      have y0 := szR_add s q
      have t1 : decide ((k : Int) < (qs.length : Int)) = true := by exact decide_eq_true (by omega)
      go_upto_region 5 with fail
      refine wp_region_steps (m := 6) rfl (by kernel_rfl) (fun iΦ vΦ wΦ => (List.getD [fun vΦ _ => vΦ = .agg #[.bool b, .slice A1 n1 c1, .bool d, .slice B1 m1 e1], fun vΦ _ => vΦ = .slice (some ⟨B, o, none⟩) qs.length c, fun vΦ _ => vΦ = .int .i64 (k : Int), fun vΦ _ => vΦ = .pointer (some ⟨B, o + k * 4, none⟩), fun vΦ _ => vΦ = .agg #[.bool bx, .slice Ax nx cx, .bool dx, .slice Bx mx ex], fun vΦ wΦ => RatRep wΦ vΦ (s + q)] iΦ (fun _ _ => True)) vΦ wΦ) [] ?_ ?_ ?_
      · intro i v w w' _ h hk
        refine stabL_get ?_ i v w w' h hk
        exact stab_cons st_e (stab_cons st_e (stab_cons st_e (stab_cons st_e (stab_cons st_e (stab_cons st_q stab_nil)))))
      · intro i hi vs w3 hk3 hd
        have S3 := S.drew.below hk3
        obtain ⟨g0, g1, g2, g3⟩ := HC.out w3 S3.k
        have a0 := S3.c 0 0 rfl rfl
        have a1 := S3.c 0 1 rfl rfl
        have a2 := S3.c 0 2 rfl rfl
        have a3 := S3.c 0 3 rfl rfl
        match i, hi with
        | 0, _ =>
          refine step_val0 [] (fun vΦ _ => vΦ = .agg #[.bool b, .slice A1 n1 c1, .bool d, .slice B1 m1 e1]) rfl (by kernel_rfl) rfl (fun _ _ h => h) rfl fun K hK => ?_; clear hd; simp only [frD] at hK ⊢; go_simp
          exact hK _ _ (Below.refl _ _) rfl
        | 1, _ =>
          refine step_val0 [] (fun vΦ _ => vΦ = .slice (some ⟨B, o, none⟩) qs.length c) rfl (by kernel_rfl) rfl (fun _ _ h => h) rfl fun K hK => ?_; clear hd; simp only [frD] at hK ⊢; go_simp
          exact hK _ _ (Below.refl _ _) rfl
        | 2, _ =>
          refine step_val0 [] (fun vΦ _ => vΦ = .int .i64 (k : Int)) rfl (by kernel_rfl) rfl (fun _ _ h => h) rfl fun K hK => ?_; clear hd; simp only [frD] at hK ⊢; go_simp
          exact hK _ _ (Below.refl _ _) rfl
        | 3, _ =>
          have qe1 : (vs 1) = .slice (some ⟨B, o, none⟩) qs.length c := hd 1 (cm (by kernel_rfl)); have qe2 : (vs 2) = .int .i64 (k : Int) := hd 2 (cm (by kernel_rfl))
          refine step_val0 [(1, some 13), (2, some 14)] (fun vΦ _ => vΦ = .pointer (some ⟨B, o + k * 4, none⟩)) rfl (by kernel_rfl) rfl (fun _ _ h => h) rfl fun K hK => ?_; clear hd; simp only [frD, qe1, qe2] at hK ⊢; go_simp
          exact hK _ _ (Below.refl _ _) rfl
        | 4, _ =>
          have qe3 : (vs 3) = .pointer (some ⟨B, o + k * 4, none⟩) := hd 3 (cm (by kernel_rfl))
          refine step_val0 [(3, some 15)] (fun vΦ _ => vΦ = .agg #[.bool bx, .slice Ax nx cx, .bool dx, .slice Bx mx ex]) rfl (by kernel_rfl) rfl (fun _ _ h => h) rfl fun K hK => ?_; clear hd; simp only [frD, qe3] at hK ⊢; go_simp
          exact hK _ _ (Below.refl _ _) rfl
        | 5, _ =>
          have qe0 : (vs 0) = .agg #[.bool b, .slice A1 n1 c1, .bool d, .slice B1 m1 e1] := hd 0 (cm (by kernel_rfl)); have qe4 : (vs 4) = .agg #[.bool bx, .slice Ax nx cx, .bool dx, .slice Bx mx ex] := hd 4 (cm (by kernel_rfl))
          refine step_call (F := 59) (X := .func (.func 59) #[] #[]) (A := #[(vs 0), (vs 4)]) (B := #[.agg #[.bool b, .slice A1 n1 c1, .bool d, .slice B1 m1 e1], .agg #[.bool bx, .slice Ax nx cx, .bool dx, .slice Bx mx ex]]) [(0, some 12), (4, some 16)] (fun vΦ wΦ => RatRep wΦ vΦ (s + q)) rfl (by kernel_rfl) (fun _ _ h => h) rfl (wanted_none rfl) rfl rfl (by kernel_rfl) rfl (by kernel_rfl) (by rw [qe0, qe4]) Tryz.func59 (by kernel_rfl) (by kernel_rfl) ?_
          refine ((gadd_num ((S3.qi 1 rfl).num (by omega)) (S3.ri 0 rfl))).mono ?_; rintro e w4 ⟨U, rfl, hr, hk4⟩; exact ⟨_, rfl, hk4, hr⟩
        | i + 6, hi => exact absurd hi (by omega)
      · intro vs W31 hk3 hΦ _
        simp only [List.drop_succ_cons, List.drop_zero]
        rw [fr_frD, show (List.range 6).map _ = [(0, some 12), (1, some 13), (2, some 14), (3, some 15), (4, some 16), (5, some 17)] by kernel_rfl]
        have pd0 : (vs 0) = .agg #[.bool b, .slice A1 n1 c1, .bool d, .slice B1 m1 e1] := hΦ 0 (by decide)
        have pd1 : (vs 1) = .slice (some ⟨B, o, none⟩) qs.length c := hΦ 1 (by decide)
        have pd2 : (vs 2) = .int .i64 (k : Int) := hΦ 2 (by decide)
        have pd3 : (vs 3) = .pointer (some ⟨B, o + k * 4, none⟩) := hΦ 3 (by decide)
        have pd4 : (vs 4) = .agg #[.bool bx, .slice Ax nx cx, .bool dx, .slice Bx mx ex] := hΦ 4 (by decide)
        have pd5 : RatRep W31 (vs 5) (s + q) := hΦ 5 (by decide)
        clear hΦ
        simp only [frD, pd0, pd1, pd2, pd3, pd4]
        simp only [Act.put, List.setIfInBounds_toArray, List.set_cons_zero, List.set_cons_succ]
        clear pd0 pd1 pd2 pd3 pd4
        generalize vs 5 = Upd5 at pd5 ⊢
        replace S := S.drew.below hk3
        obtain ⟨b33, A33, n33, c33, d33, B33, m33, e33, rfl⟩ := pd5.open_
        replace S := S.addQ pd5
        clear pd5
        clear hk3
        have r1_0 := S.c 0 0 rfl rfl
        have f1_0 := S.f 0 0 rfl
        have r1_1 := S.c 0 1 rfl rfl
        have f1_1 := S.f 0 1 rfl
        have r1_2 := S.c 0 2 rfl rfl
        have f1_2 := S.f 0 2 rfl
        have r1_3 := S.c 0 3 rfl rfl
        have f1_3 := S.f 0 3 rfl
        go_wp2
        replace S := (S.put4 0 rfl rfl rfl (x' := .bool b33) (y' := .slice A33 n33 c33) (z' := .bool d33) (u' := .slice B33 m33 e33))
        clear r1_0 f1_0 r1_1 f1_1 r1_2 f1_2 r1_3 f1_3
        go_roundw
        case rel => exact ⟨k + 1, b33, A33, n33, c33, d33, B33, m33, e33, by omega, by go_num, by rw [HS2.out]; exact S.onlyL.addQ (S.qi 0 rfl)⟩
        case measure => simp [intOf]; omega
    · have HEQ := Lib.hid (show sumR qs = sumR (qs.take k) by rw [List.take_of_length_le (by omega)])
      generalize sumR (qs.take k) = s at *
      have t1 : decide ((k : Int) < (qs.length : Int)) = false := by exact decide_eq_false (by omega)
      have r0_0 := S.c 1 0 rfl rfl
      have f0_0 := S.f 1 0 rfl
      have r0_1 := S.c 1 1 rfl rfl
      have f0_1 := S.f 1 1 rfl
      have r0_2 := S.c 1 2 rfl rfl
      have f0_2 := S.f 1 2 rfl
      have r0_3 := S.c 1 3 rfl rfl
      have f0_3 := S.f 1 3 rfl
      have r1_0 := S.c 0 0 rfl rfl
      have r1_1 := S.c 0 1 rfl rfl
      have r1_2 := S.c 0 2 rfl rfl
      have r1_3 := S.c 0 3 rfl rfl
      go_wp2
      replace S := (S.put4 1 rfl rfl rfl (x' := .bool b) (y' := .slice A1 n1 c1) (z' := .bool d) (u' := .slice B1 m1 e1))
      refine bodyPost_ret (v := .agg #[.bool b, .slice A1 n1 c1, .bool d, .slice B1 m1 e1]) (by simp [results, Tryz.results74, go_sem, S.c 1 0 rfl rfl, S.c 1 1 rfl rfl, S.c 1 2 rfl rfl, S.c 1 3 rfl rfl]) rfl ?_
      exact ⟨_, rfl, by rw [HEQ.out]; exact S.qi 0 rfl, S.k⟩
set_option maxRecDepth 100000 in
set_option maxHeartbeats 1000000 in
theorem fdot_ne {w : World} {A A' : Option Addr} {n n' c c' : Nat} (hne : n ≠ n') : Calls Tryz.prog 67 #[.slice A n c, .slice A' n' c'] w (RCode 4 0 w) := by
  have t1 : ((n : Int) != (n' : Int)) = true := by exact bne_iff_ne.2 (fun h => hne (by omega))
  have S := (St.start w)
  go_enter Tryz.func67, Tryz.ntmps67
  go_wp2
  replace S := (S.alloc 28 [.bool false, .slice none 0 0, .bool false, .slice none 0 0])
  obtain ⟨W99, eW, S⟩ := S.pack
  rw [eW]
  clear eW
  refine bodyPost_ret (v := .tuple #[.agg #[.bool false, .slice none 0 0, .bool false, .slice none 0 0], .int .i64 4]) (by simp [results, Tryz.results67, go_sem, S.c 0 0 rfl rfl, S.c 0 1 rfl rfl, S.c 0 2 rfl rfl, S.c 0 3 rfl rfl]) rfl ?_
  exact ⟨_, rfl, by rw [if_neg (by decide)]; rfl, S.k⟩
set_option maxRecDepth 100000 in
set_option maxHeartbeats 1000000 in
theorem fdot_any {w : World} {A A' : Option Addr} {c c' : Nat} {qs ys : List Rat} (hr : Row4 RatNum w A qs) (hr' : Row4 RatNum w A' ys) (hz : ∀ q ∈ qs, szR q ≤ 8) (hz' : ∀ q ∈ ys, szR q ≤ 8) (hl : ys.length = qs.length) (hn : qs.length ≤ 8) : Calls Tryz.prog 67 #[.slice A qs.length c, .slice A' qs.length c'] w (RCode 0 (dotR qs ys) w) := by
  have HR := Lib.hid hr
  have HR' := Lib.hid hr'
  have HZ := Lib.hid hz
  have HZ' := Lib.hid hz'
  have HN := Lib.hid hn
  have HL := Lib.hid hl
  clear hr hr' hz hz' hl
  have y0 := szR_int 0
  have S := (St.start w)
  go_enter Tryz.func67, Tryz.ntmps67
  go_wp2_with fail
  replace S := (S.alloc 28 [.bool false, .slice none 0 0, .bool false, .slice none 0 0])
  obtain ⟨W1, eW, S⟩ := S.pack
  rw [eW]
  clear eW
  refine ((whole_num 0 (by omega) (by omega))).mono ?_
  rintro e W2 ⟨U2, rfl, hp, hk⟩
  obtain ⟨b3, A3, n3, c3, d3, B3, m3, e3, rfl⟩ := hp.open_
  replace S := (S.below hk).addQ hp
  clear hk hp
  go_wp2
  replace S := (S.alloc 28 [.bool b3, .slice A3 n3 c3, .bool d3, .slice B3 m3 e3])
  obtain ⟨W3, eW, S⟩ := S.pack
  rw [eW]
  clear eW
  generalize W2.heap.size = P1 at *
  go_loopw [18] (fun i wr => ∃ (k : Nat) (b : Bool) (A1 : Option Addr) (n1 c1 : Nat) (d : Bool) (B1 : Option Addr) (m1 e1 : Nat), k ≤ qs.length ∧ i = .int .i64 (k : Nat) ∧ St w wr [(P1, 28, [.bool b, .slice A1 n1 c1, .bool d, .slice B1 m1 e1]), (w.heap.size, 28, [.bool false, .slice none 0 0, .bool false, .slice none 0 0])] [fun w => RatRep w (.agg #[.bool b, .slice A1 n1 c1, .bool d, .slice B1 m1 e1]) (dotK qs ys k)]) (fun i _ => qs.length - (intOf i).toNat)
  case atStart => exact ⟨0, b3, A3, n3, c3, d3, B3, m3, e3, Nat.zero_le _, rfl, S⟩
  case round =>
    clear S
    obtain ⟨k, b, A1, n1, c1, d, B1, m1, e1, hkd, rfl, S⟩ := hrel
    have hsz := szR_dot HZ.out HZ'.out k hkd HL.out
    by_cases hlt : k < qs.length
    · obtain ⟨q, hq⟩ : ∃ q, qs[k]? = some q := ⟨_, List.getElem?_eq_getElem hlt⟩
      obtain ⟨B, o, x0, x1, x2, x3, rfl, hc, hx⟩ := HR.out.get lasts_num hq
      have hX := hx wr S.k
      obtain ⟨bx, Ax, nx, cx, dx, Bx, mx, ex, he⟩ := hX.open_
      cases he
      have HC := Lib.hid hc
      obtain ⟨g0, g1, g2, g3⟩ := hc wr S.k
      replace S := S.addR hX
      have hqs : qs[k] = q := by rw [List.getElem?_eq_getElem hlt] at hq; exact Option.some.inj hq
      have hq8 : szR q ≤ 8 := by rw [← hqs]; exact HZ.out _ (List.getElem_mem _)
      have hlt' : k < ys.length := by have := HL.out; omega
      obtain ⟨y, hy⟩ : ∃ y, ys[k]? = some y := ⟨_, List.getElem?_eq_getElem hlt'⟩
      obtain ⟨B', o', y0, y1, y2, y3, rfl, hc', hx'⟩ := HR'.out.get lasts_num hy
      have hY := hx' wr S.k
      obtain ⟨b2, Ay, ny, cy, dy, By, my, ey, he⟩ := hY.open_
      cases he
      have HC' := Lib.hid hc'
      replace S := S.addR hY
      have hys : ys[k] = y := by rw [List.getElem?_eq_getElem hlt'] at hy; exact Option.some.inj hy
      have hy8 : szR y ≤ 8 := by rw [← hys]; exact HZ'.out _ (List.getElem_mem _)
      have hs2 := dotR_take hlt hlt'
      rw [hqs, hys] at hs2
      generalize dotK qs ys k = s at *
      have HS2 := Lib.hid hs2
      have hkI : (k : Int) ≤ 8 := by omega
      clear hs2 hqs hq hc hx hX hys hy hc' hx' hY
      have y0 := szR_mul q y
      have y1 := szR_add s (q * y)
      have t1 : decide ((k : Int) < (qs.length : Int)) = true := by exact decide_eq_true (by omega)
      go_upto_region 7 with fail
      replace S := (S.alloc 28 [.bool bx, .slice Ax nx cx, .bool dx, .slice Bx mx ex])
      obtain ⟨W31, eW, S⟩ := S.pack
      rw [eW]
      clear eW
      generalize wr.heap.size = P31 at *
      refine wp_region_steps (m := 8) rfl (by kernel_rfl) (fun iΦ vΦ wΦ => (List.getD [fun vΦ _ => vΦ = .agg #[.bool b, .slice A1 n1 c1, .bool d, .slice B1 m1 e1], fun vΦ _ => vΦ = .agg #[.bool bx, .slice Ax nx cx, .bool dx, .slice Bx mx ex], fun vΦ _ => vΦ = .slice (some ⟨B', o', none⟩) qs.length c', fun vΦ _ => vΦ = .int .i64 (k : Int), fun vΦ _ => vΦ = .pointer (some ⟨B', o' + k * 4, none⟩), fun vΦ _ => vΦ = .agg #[.bool b2, .slice Ay ny cy, .bool dy, .slice By my ey], fun vΦ wΦ => RatRep wΦ vΦ (q * y), fun vΦ wΦ => RatRep wΦ vΦ (s + (q * y))] iΦ (fun _ _ => True)) vΦ wΦ) [] ?_ ?_ ?_
      · intro i v w w' _ h hk
        refine stabL_get ?_ i v w w' h hk
        exact stab_cons st_e (stab_cons st_e (stab_cons st_e (stab_cons st_e (stab_cons st_e (stab_cons st_e (stab_cons st_q (stab_cons st_q stab_nil)))))))
      · intro i hi vs w3 hk3 hd
        have S3 := S.drew.below hk3
        obtain ⟨g4, g5, g6, g7⟩ := HC'.out w3 S3.k
        have a0 := S3.c 1 0 rfl rfl
        have a1 := S3.c 1 1 rfl rfl
        have a2 := S3.c 1 2 rfl rfl
        have a3 := S3.c 1 3 rfl rfl
        have a4 := S3.c 0 0 rfl rfl
        have a5 := S3.c 0 1 rfl rfl
        have a6 := S3.c 0 2 rfl rfl
        have a7 := S3.c 0 3 rfl rfl
        match i, hi with
        | 0, _ =>
          refine step_val0 [] (fun vΦ _ => vΦ = .agg #[.bool b, .slice A1 n1 c1, .bool d, .slice B1 m1 e1]) rfl (by kernel_rfl) rfl (fun _ _ h => h) rfl fun K hK => ?_; clear hd; simp only [frD] at hK ⊢; go_simp
          exact hK _ _ (Below.refl _ _) rfl
        | 1, _ =>
          refine step_val0 [] (fun vΦ _ => vΦ = .agg #[.bool bx, .slice Ax nx cx, .bool dx, .slice Bx mx ex]) rfl (by kernel_rfl) rfl (fun _ _ h => h) rfl fun K hK => ?_; clear hd; simp only [frD] at hK ⊢; go_simp
          exact hK _ _ (Below.refl _ _) rfl
        | 2, _ =>
          refine step_val0 [] (fun vΦ _ => vΦ = .slice (some ⟨B', o', none⟩) qs.length c') rfl (by kernel_rfl) rfl (fun _ _ h => h) rfl fun K hK => ?_; clear hd; simp only [frD] at hK ⊢; go_simp
          exact hK _ _ (Below.refl _ _) rfl
        | 3, _ =>
          refine step_val0 [] (fun vΦ _ => vΦ = .int .i64 (k : Int)) rfl (by kernel_rfl) rfl (fun _ _ h => h) rfl fun K hK => ?_; clear hd; simp only [frD] at hK ⊢; go_simp
          exact hK _ _ (Below.refl _ _) rfl
        | 4, _ =>
          have qe2 : (vs 2) = .slice (some ⟨B', o', none⟩) qs.length c' := hd 2 (cm (by kernel_rfl)); have qe3 : (vs 3) = .int .i64 (k : Int) := hd 3 (cm (by kernel_rfl))
          refine step_val0 [(2, some 25), (3, some 26)] (fun vΦ _ => vΦ = .pointer (some ⟨B', o' + k * 4, none⟩)) rfl (by kernel_rfl) rfl (fun _ _ h => h) rfl fun K hK => ?_; clear hd; simp only [frD, qe2, qe3] at hK ⊢; go_simp
          exact hK _ _ (Below.refl _ _) rfl
        | 5, _ =>
          have qe4 : (vs 4) = .pointer (some ⟨B', o' + k * 4, none⟩) := hd 4 (cm (by kernel_rfl))
          refine step_val0 [(4, some 27)] (fun vΦ _ => vΦ = .agg #[.bool b2, .slice Ay ny cy, .bool dy, .slice By my ey]) rfl (by kernel_rfl) rfl (fun _ _ h => h) rfl fun K hK => ?_; clear hd; simp only [frD, qe4] at hK ⊢; go_simp
          exact hK _ _ (Below.refl _ _) rfl
        | 6, _ =>
          have qe1 : (vs 1) = .agg #[.bool bx, .slice Ax nx cx, .bool dx, .slice Bx mx ex] := hd 1 (cm (by kernel_rfl)); have qe5 : (vs 5) = .agg #[.bool b2, .slice Ay ny cy, .bool dy, .slice By my ey] := hd 5 (cm (by kernel_rfl))
          refine step_call (F := 30) (X := .func (.func 30) #[] #[]) (A := #[(vs 1), (vs 5)]) (B := #[.agg #[.bool bx, .slice Ax nx cx, .bool dx, .slice Bx mx ex], .agg #[.bool b2, .slice Ay ny cy, .bool dy, .slice By my ey]]) [(1, some 24), (5, some 28)] (fun vΦ wΦ => RatRep wΦ vΦ (q * y)) rfl (by kernel_rfl) (fun _ _ h => h) rfl (wanted_none rfl) rfl rfl (by kernel_rfl) rfl (by kernel_rfl) (by rw [qe1, qe5]) Tryz.func30 (by kernel_rfl) (by kernel_rfl) ?_
          refine ((fmul_num (S3.ri 1 rfl) (S3.ri 0 rfl))).mono ?_; rintro e w4 ⟨U, rfl, hr, hk4⟩; exact ⟨_, rfl, hk4, hr⟩
        | 7, _ =>
          have qe0 : (vs 0) = .agg #[.bool b, .slice A1 n1 c1, .bool d, .slice B1 m1 e1] := hd 0 (cm (by kernel_rfl)); have h6 : RatRep w3 (vs 6) (q * y) := hd 6 (cm (by kernel_rfl))
          refine step_call (F := 29) (X := .func (.func 29) #[] #[]) (A := #[(vs 0), (vs 6)]) (B := #[.agg #[.bool b, .slice A1 n1 c1, .bool d, .slice B1 m1 e1], (vs 6)]) [(0, some 23), (6, some 29)] (fun vΦ wΦ => RatRep wΦ vΦ (s + (q * y))) rfl (by kernel_rfl) (fun _ _ h => h) rfl (wanted_none rfl) rfl rfl (by kernel_rfl) rfl (by kernel_rfl) (by rw [qe0]) Tryz.func29 (by kernel_rfl) (by kernel_rfl) ?_
          refine ((fadd_num ((S3.qi 2 rfl).num (by omega)) (h6.num (by omega)))).mono ?_; rintro e w4 ⟨U, rfl, hr, hk4⟩; exact ⟨_, rfl, hk4, hr⟩
        | i + 8, hi => exact absurd hi (by omega)
      · intro vs W32 hk3 hΦ _
        simp only [List.drop_succ_cons, List.drop_zero]
        rw [fr_frD, show (List.range 8).map _ = [(0, some 23), (1, some 24), (2, some 25), (3, some 26), (4, some 27), (5, some 28), (6, some 29), (7, some 30)] by kernel_rfl]
        have pd0 : (vs 0) = .agg #[.bool b, .slice A1 n1 c1, .bool d, .slice B1 m1 e1] := hΦ 0 (by decide)
        have pd1 : (vs 1) = .agg #[.bool bx, .slice Ax nx cx, .bool dx, .slice Bx mx ex] := hΦ 1 (by decide)
        have pd2 : (vs 2) = .slice (some ⟨B', o', none⟩) qs.length c' := hΦ 2 (by decide)
        have pd3 : (vs 3) = .int .i64 (k : Int) := hΦ 3 (by decide)
        have pd4 : (vs 4) = .pointer (some ⟨B', o' + k * 4, none⟩) := hΦ 4 (by decide)
        have pd5 : (vs 5) = .agg #[.bool b2, .slice Ay ny cy, .bool dy, .slice By my ey] := hΦ 5 (by decide)
        have pd6 : RatRep W32 (vs 6) (q * y) := hΦ 6 (by decide)
        have pd7 : RatRep W32 (vs 7) (s + (q * y)) := hΦ 7 (by decide)
        clear hΦ
        simp only [frD, pd0, pd1, pd2, pd3, pd4, pd5]
        simp only [Act.put, List.setIfInBounds_toArray, List.set_cons_zero, List.set_cons_succ]
        clear pd0 pd1 pd2 pd3 pd4 pd5
        generalize vs 6 = Upd6 at pd6 ⊢
        generalize vs 7 = Upd7 at pd7 ⊢
        replace S := S.drew.below hk3
        clear pd6
        obtain ⟨b33, A33, n33, c33, d33, B33, m33, e33, rfl⟩ := pd7.open_
        replace S := S.addQ pd7
        clear pd7
        clear hk3
        have r1_0 := S.c 1 0 rfl rfl
        have f1_0 := S.f 1 0 rfl
        have r1_1 := S.c 1 1 rfl rfl
        have f1_1 := S.f 1 1 rfl
        have r1_2 := S.c 1 2 rfl rfl
        have f1_2 := S.f 1 2 rfl
        have r1_3 := S.c 1 3 rfl rfl
        have f1_3 := S.f 1 3 rfl
        go_wp2
        replace S := (S.put4 1 rfl rfl rfl (x' := .bool b33) (y' := .slice A33 n33 c33) (z' := .bool d33) (u' := .slice B33 m33 e33))
        clear r1_0 f1_0 r1_1 f1_1 r1_2 f1_2 r1_3 f1_3
        go_roundw
        case rel => exact ⟨k + 1, b33, A33, n33, c33, d33, B33, m33, e33, by omega, by go_num, by rw [HS2.out]; exact S.dropb.onlyL.addQ (S.qi 0 rfl)⟩
        case measure => simp [intOf]; omega
    · have HEQ := Lib.hid (show dotR qs ys = dotK qs ys k by rw [dotR_all (k := k) (by omega) (by have := HL.out; omega)])
      generalize dotK qs ys k = s at *
      have t1 : decide ((k : Int) < (qs.length : Int)) = false := by exact decide_eq_false (by omega)
      have r0_0 := S.c 1 0 rfl rfl
      have f0_0 := S.f 1 0 rfl
      have r0_1 := S.c 1 1 rfl rfl
      have f0_1 := S.f 1 1 rfl
      have r0_2 := S.c 1 2 rfl rfl
      have f0_2 := S.f 1 2 rfl
      have r0_3 := S.c 1 3 rfl rfl
      have f0_3 := S.f 1 3 rfl
      have r1_0 := S.c 0 0 rfl rfl
      have r1_1 := S.c 0 1 rfl rfl
      have r1_2 := S.c 0 2 rfl rfl
      have r1_3 := S.c 0 3 rfl rfl
      go_wp2
      replace S := (S.put4 1 rfl rfl rfl (x' := .bool b) (y' := .slice A1 n1 c1) (z' := .bool d) (u' := .slice B1 m1 e1))
      refine bodyPost_ret (v := .tuple #[.agg #[.bool b, .slice A1 n1 c1, .bool d, .slice B1 m1 e1], .int .i64 0]) (by simp [results, Tryz.results67, go_sem, S.c 1 0 rfl rfl, S.c 1 1 rfl rfl, S.c 1 2 rfl rfl, S.c 1 3 rfl rfl]) rfl ?_
      exact ⟨_, rfl, by rw [HEQ.out, if_pos rfl]; exact S.qi 0 rfl, S.k⟩
set_option maxRecDepth 100000 in
set_option maxHeartbeats 1000000 in
theorem gdot_ne {w : World} {A A' : Option Addr} {n n' c c' : Nat} (hne : n ≠ n') : Calls Tryz.prog 68 #[.slice A n c, .slice A' n' c'] w (RCode 4 0 w) := by
  have t1 : ((n : Int) != (n' : Int)) = true := by exact bne_iff_ne.2 (fun h => hne (by omega))
  have S := (St.start w)
  go_enter Tryz.func68, Tryz.ntmps68
  go_wp2
  replace S := (S.alloc 28 [.bool false, .slice none 0 0, .bool false, .slice none 0 0])
  obtain ⟨W99, eW, S⟩ := S.pack
  rw [eW]
  clear eW
  refine bodyPost_ret (v := .tuple #[.agg #[.bool false, .slice none 0 0, .bool false, .slice none 0 0], .int .i64 4]) (by simp [results, Tryz.results68, go_sem, S.c 0 0 rfl rfl, S.c 0 1 rfl rfl, S.c 0 2 rfl rfl, S.c 0 3 rfl rfl]) rfl ?_
  exact ⟨_, rfl, by rw [if_neg (by decide)]; rfl, S.k⟩
set_option maxRecDepth 100000 in
set_option maxHeartbeats 1000000 in
theorem gdot_any {w : World} {A A' : Option Addr} {c c' : Nat} {qs ys : List Rat} (hr : Row4 RatNum w A qs) (hr' : Row4 RatNum w A' ys) (hz : ∀ q ∈ qs, szR q ≤ 8) (hz' : ∀ q ∈ ys, szR q ≤ 8) (hl : ys.length = qs.length) (hn : qs.length ≤ 8) : Calls Tryz.prog 68 #[.slice A qs.length c, .slice A' qs.length c'] w (RCode 0 (dotR qs ys) w) := by
  have HR := Lib.hid hr
  have HR' := Lib.hid hr'
  have HZ := Lib.hid hz
  have HZ' := Lib.hid hz'
  have HN := Lib.hid hn
  have HL := Lib.hid hl
  clear hr hr' hz hz' hl
  have y0 := szR_int 0
  have S := (St.start w)
  go_enter Tryz.func68, Tryz.ntmps68
  go_wp2_with fail
  replace S := (S.alloc 28 [.bool false, .slice none 0 0, .bool false, .slice none 0 0])
  obtain ⟨W1, eW, S⟩ := S.pack
  rw [eW]
  clear eW
  refine ((gwhole_num 0 (by omega) (by omega))).mono ?_
  rintro e W2 ⟨U2, rfl, hp, hk⟩
  obtain ⟨b3, A3, n3, c3, d3, B3, m3, e3, rfl⟩ := hp.open_
  replace S := (S.below hk).addQ hp
  clear hk hp
  go_wp2
  replace S := (S.alloc 28 [.bool b3, .slice A3 n3 c3, .bool d3, .slice B3 m3 e3])
  obtain ⟨W3, eW, S⟩ := S.pack
  rw [eW]
  clear eW
  generalize W2.heap.size = P1 at *
  go_loopw [7] (fun i wr => ∃ (k : Nat) (b : Bool) (A1 : Option Addr) (n1 c1 : Nat) (d : Bool) (B1 : Option Addr) (m1 e1 : Nat), k ≤ qs.length ∧ i = .int .i64 (k : Nat) ∧ St w wr [(P1, 28, [.bool b, .slice A1 n1 c1, .bool d, .slice B1 m1 e1]), (w.heap.size, 28, [.bool false, .slice none 0 0, .bool false, .slice none 0 0])] [fun w => RatRep w (.agg #[.bool b, .slice A1 n1 c1, .bool d, .slice B1 m1 e1]) (dotK qs ys k)]) (fun i _ => qs.length - (intOf i).toNat)
  case atStart => exact ⟨0, b3, A3, n3, c3, d3, B3, m3, e3, Nat.zero_le _, rfl, S⟩
  case round =>
    clear S
    obtain ⟨k, b, A1, n1, c1, d, B1, m1, e1, hkd, rfl, S⟩ := hrel
    have hsz := szR_dot HZ.out HZ'.out k hkd HL.out
    by_cases hlt : k < qs.length
    · obtain ⟨q, hq⟩ : ∃ q, qs[k]? = some q := ⟨_, List.getElem?_eq_getElem hlt⟩
      obtain ⟨B, o, x0, x1, x2, x3, rfl, hc, hx⟩ := HR.out.get lasts_num hq
      have hX := hx wr S.k
      obtain ⟨bx, Ax, nx, cx, dx, Bx, mx, ex, he⟩ := hX.open_
      cases he
      have HC := Lib.hid hc
      replace S := S.addR hX
      have hqs : qs[k] = q := by rw [List.getElem?_eq_getElem hlt] at hq; exact Option.some.inj hq
      have hq8 : szR q ≤ 8 := by rw [← hqs]; exact HZ.out _ (List.getElem_mem _)
      have hlt' : k < ys.length := by have := HL.out; omega
      obtain ⟨y, hy⟩ : ∃ y, ys[k]? = some y := ⟨_, List.getElem?_eq_getElem hlt'⟩
      obtain ⟨B', o', y0, y1, y2, y3, rfl, hc', hx'⟩ := HR'.out.get lasts_num hy
      have hY := hx' wr S.k
      obtain ⟨b2, Ay, ny, cy, dy, By, my, ey, he⟩ := hY.open_
      cases he
      have HC' := Lib.hid hc'
      replace S := S.addR hY
      have hys : ys[k] = y := by rw [List.getElem?_eq_getElem hlt'] at hy; exact Option.some.inj hy
      have hy8 : szR y ≤ 8 := by rw [← hys]; exact HZ'.out _ (List.getElem_mem _)
      have hs2 := dotR_take hlt hlt'
      rw [hqs, hys] at hs2
      generalize dotK qs ys k = s at *
      have HS2 := Lib.hid hs2
      have hkI : (k : Int) ≤ 8 := by omega
      clear hs2 hqs hq hc hx hX hys hy hc' hx' hY
      have y0 := szR_mul q y
      have y1 := szR_add s (q * y)
      have t1 : decide ((k : Int) < (qs.length : Int)) = true := by exact decide_eq_true (by omega)
      go_upto_region 7 with fail
      refine wp_region_steps (m := 11) rfl (by kernel_rfl) (fun iΦ vΦ wΦ => (List.getD [fun vΦ _ => vΦ = .agg #[.bool b, .slice A1 n1 c1, .bool d, .slice B1 m1 e1], fun vΦ _ => vΦ = .slice (some ⟨B, o, none⟩) qs.length c, fun vΦ _ => vΦ = .int .i64 (k : Int), fun vΦ _ => vΦ = .pointer (some ⟨B, o + k * 4, none⟩), fun vΦ _ => vΦ = .agg #[.bool bx, .slice Ax nx cx, .bool dx, .slice Bx mx ex], fun vΦ _ => vΦ = .slice (some ⟨B', o', none⟩) qs.length c', fun vΦ _ => vΦ = .int .i64 (k : Int), fun vΦ _ => vΦ = .pointer (some ⟨B', o' + k * 4, none⟩), fun vΦ _ => vΦ = .agg #[.bool b2, .slice Ay ny cy, .bool dy, .slice By my ey], fun vΦ wΦ => RatRep wΦ vΦ (q * y), fun vΦ wΦ => RatRep wΦ vΦ (s + (q * y))] iΦ (fun _ _ => True)) vΦ wΦ) [] ?_ ?_ ?_
      · intro i v w w' _ h hk
        refine stabL_get ?_ i v w w' h hk
        exact stab_cons st_e (stab_cons st_e (stab_cons st_e (stab_cons st_e (stab_cons st_e (stab_cons st_e (stab_cons st_e (stab_cons st_e (stab_cons st_e (stab_cons st_q (stab_cons st_q stab_nil))))))))))
      · intro i hi vs w3 hk3 hd
        have S3 := S.drew.below hk3
        obtain ⟨g0, g1, g2, g3⟩ := HC.out w3 S3.k
        obtain ⟨g4, g5, g6, g7⟩ := HC'.out w3 S3.k
        have a0 := S3.c 0 0 rfl rfl
        have a1 := S3.c 0 1 rfl rfl
        have a2 := S3.c 0 2 rfl rfl
        have a3 := S3.c 0 3 rfl rfl
        match i, hi with
        | 0, _ =>
          refine step_val0 [] (fun vΦ _ => vΦ = .agg #[.bool b, .slice A1 n1 c1, .bool d, .slice B1 m1 e1]) rfl (by kernel_rfl) rfl (fun _ _ h => h) rfl fun K hK => ?_; clear hd; simp only [frD] at hK ⊢; go_simp
          exact hK _ _ (Below.refl _ _) rfl
        | 1, _ =>
          refine step_val0 [] (fun vΦ _ => vΦ = .slice (some ⟨B, o, none⟩) qs.length c) rfl (by kernel_rfl) rfl (fun _ _ h => h) rfl fun K hK => ?_; clear hd; simp only [frD] at hK ⊢; go_simp
          exact hK _ _ (Below.refl _ _) rfl
        | 2, _ =>
          refine step_val0 [] (fun vΦ _ => vΦ = .int .i64 (k : Int)) rfl (by kernel_rfl) rfl (fun _ _ h => h) rfl fun K hK => ?_; clear hd; simp only [frD] at hK ⊢; go_simp
          exact hK _ _ (Below.refl _ _) rfl
        | 3, _ =>
          have qe1 : (vs 1) = .slice (some ⟨B, o, none⟩) qs.length c := hd 1 (cm (by kernel_rfl)); have qe2 : (vs 2) = .int .i64 (k : Int) := hd 2 (cm (by kernel_rfl))
          refine step_val0 [(1, some 22), (2, some 23)] (fun vΦ _ => vΦ = .pointer (some ⟨B, o + k * 4, none⟩)) rfl (by kernel_rfl) rfl (fun _ _ h => h) rfl fun K hK => ?_; clear hd; simp only [frD, qe1, qe2] at hK ⊢; go_simp
          exact hK _ _ (Below.refl _ _) rfl
        | 4, _ =>
          have qe3 : (vs 3) = .pointer (some ⟨B, o + k * 4, none⟩) := hd 3 (cm (by kernel_rfl))
          refine step_val0 [(3, some 24)] (fun vΦ _ => vΦ = .agg #[.bool bx, .slice Ax nx cx, .bool dx, .slice Bx mx ex]) rfl (by kernel_rfl) rfl (fun _ _ h => h) rfl fun K hK => ?_; clear hd; simp only [frD, qe3] at hK ⊢; go_simp
          exact hK _ _ (Below.refl _ _) rfl
        | 5, _ =>
          refine step_val0 [] (fun vΦ _ => vΦ = .slice (some ⟨B', o', none⟩) qs.length c') rfl (by kernel_rfl) rfl (fun _ _ h => h) rfl fun K hK => ?_; clear hd; simp only [frD] at hK ⊢; go_simp
          exact hK _ _ (Below.refl _ _) rfl
        | 6, _ =>
          refine step_val0 [] (fun vΦ _ => vΦ = .int .i64 (k : Int)) rfl (by kernel_rfl) rfl (fun _ _ h => h) rfl fun K hK => ?_; clear hd; simp only [frD] at hK ⊢; go_simp
          exact hK _ _ (Below.refl _ _) rfl
        | 7, _ =>
          have qe5 : (vs 5) = .slice (some ⟨B', o', none⟩) qs.length c' := hd 5 (cm (by kernel_rfl)); have qe6 : (vs 6) = .int .i64 (k : Int) := hd 6 (cm (by kernel_rfl))
          refine step_val0 [(5, some 26), (6, some 27)] (fun vΦ _ => vΦ = .pointer (some ⟨B', o' + k * 4, none⟩)) rfl (by kernel_rfl) rfl (fun _ _ h => h) rfl fun K hK => ?_; clear hd; simp only [frD, qe5, qe6] at hK ⊢; go_simp
          exact hK _ _ (Below.refl _ _) rfl
        | 8, _ =>
          have qe7 : (vs 7) = .pointer (some ⟨B', o' + k * 4, none⟩) := hd 7 (cm (by kernel_rfl))
          refine step_val0 [(7, some 28)] (fun vΦ _ => vΦ = .agg #[.bool b2, .slice Ay ny cy, .bool dy, .slice By my ey]) rfl (by kernel_rfl) rfl (fun _ _ h => h) rfl fun K hK => ?_; clear hd; simp only [frD, qe7] at hK ⊢; go_simp
          exact hK _ _ (Below.refl _ _) rfl
        | 9, _ =>
          have qe4 : (vs 4) = .agg #[.bool bx, .slice Ax nx cx, .bool dx, .slice Bx mx ex] := hd 4 (cm (by kernel_rfl)); have qe8 : (vs 8) = .agg #[.bool b2, .slice Ay ny cy, .bool dy, .slice By my ey] := hd 8 (cm (by kernel_rfl))
          refine step_call (F := 61) (X := .func (.func 61) #[] #[]) (A := #[(vs 4), (vs 8)]) (B := #[.agg #[.bool bx, .slice Ax nx cx, .bool dx, .slice Bx mx ex], .agg #[.bool b2, .slice Ay ny cy, .bool dy, .slice By my ey]]) [(4, some 25), (8, some 29)] (fun vΦ wΦ => RatRep wΦ vΦ (q * y)) rfl (by kernel_rfl) (fun _ _ h => h) rfl (wanted_none rfl) rfl rfl (by kernel_rfl) rfl (by kernel_rfl) (by rw [qe4, qe8]) Tryz.func61 (by kernel_rfl) (by kernel_rfl) ?_
          refine ((gmul_num (S3.ri 1 rfl) (S3.ri 0 rfl))).mono ?_; rintro e w4 ⟨U, rfl, hr, hk4⟩; exact ⟨_, rfl, hk4, hr⟩
        | 10, _ =>
          have qe0 : (vs 0) = .agg #[.bool b, .slice A1 n1 c1, .bool d, .slice B1 m1 e1] := hd 0 (cm (by kernel_rfl)); have h9 : RatRep w3 (vs 9) (q * y) := hd 9 (cm (by kernel_rfl))
          refine step_call (F := 59) (X := .func (.func 59) #[] #[]) (A := #[(vs 0), (vs 9)]) (B := #[.agg #[.bool b, .slice A1 n1 c1, .bool d, .slice B1 m1 e1], (vs 9)]) [(0, some 21), (9, some 30)] (fun vΦ wΦ => RatRep wΦ vΦ (s + (q * y))) rfl (by kernel_rfl) (fun _ _ h => h) rfl (wanted_none rfl) rfl rfl (by kernel_rfl) rfl (by kernel_rfl) (by rw [qe0]) Tryz.func59 (by kernel_rfl) (by kernel_rfl) ?_
          refine ((gadd_num ((S3.qi 2 rfl).num (by omega)) (h9.num (by omega)))).mono ?_; rintro e w4 ⟨U, rfl, hr, hk4⟩; exact ⟨_, rfl, hk4, hr⟩
        | i + 11, hi => exact absurd hi (by omega)
      · intro vs W31 hk3 hΦ _
        simp only [List.drop_succ_cons, List.drop_zero]
        rw [fr_frD, show (List.range 11).map _ = [(0, some 21), (1, some 22), (2, some 23), (3, some 24), (4, some 25), (5, some 26), (6, some 27), (7, some 28), (8, some 29), (9, some 30), (10, some 31)] by kernel_rfl]
        have pd0 : (vs 0) = .agg #[.bool b, .slice A1 n1 c1, .bool d, .slice B1 m1 e1] := hΦ 0 (by decide)
        have pd1 : (vs 1) = .slice (some ⟨B, o, none⟩) qs.length c := hΦ 1 (by decide)
        have pd2 : (vs 2) = .int .i64 (k : Int) := hΦ 2 (by decide)
        have pd3 : (vs 3) = .pointer (some ⟨B, o + k * 4, none⟩) := hΦ 3 (by decide)
        have pd4 : (vs 4) = .agg #[.bool bx, .slice Ax nx cx, .bool dx, .slice Bx mx ex] := hΦ 4 (by decide)
        have pd5 : (vs 5) = .slice (some ⟨B', o', none⟩) qs.length c' := hΦ 5 (by decide)
        have pd6 : (vs 6) = .int .i64 (k : Int) := hΦ 6 (by decide)
        have pd7 : (vs 7) = .pointer (some ⟨B', o' + k * 4, none⟩) := hΦ 7 (by decide)
        have pd8 : (vs 8) = .agg #[.bool b2, .slice Ay ny cy, .bool dy, .slice By my ey] := hΦ 8 (by decide)
        have pd9 : RatRep W31 (vs 9) (q * y) := hΦ 9 (by decide)
        have pd10 : RatRep W31 (vs 10) (s + (q * y)) := hΦ 10 (by decide)
        clear hΦ
        simp only [frD, pd0, pd1, pd2, pd3, pd4, pd5, pd6, pd7, pd8]
        simp only [Act.put, List.setIfInBounds_toArray, List.set_cons_zero, List.set_cons_succ]
        clear pd0 pd1 pd2 pd3 pd4 pd5 pd6 pd7 pd8
        generalize vs 9 = Upd9 at pd9 ⊢
        generalize vs 10 = Upd10 at pd10 ⊢
        replace S := S.drew.below hk3
        clear pd9
        obtain ⟨b33, A33, n33, c33, d33, B33, m33, e33, rfl⟩ := pd10.open_
        replace S := S.addQ pd10
        clear pd10
        clear hk3
        have r1_0 := S.c 0 0 rfl rfl
        have f1_0 := S.f 0 0 rfl
        have r1_1 := S.c 0 1 rfl rfl
        have f1_1 := S.f 0 1 rfl
        have r1_2 := S.c 0 2 rfl rfl
        have f1_2 := S.f 0 2 rfl
        have r1_3 := S.c 0 3 rfl rfl
        have f1_3 := S.f 0 3 rfl
        go_wp2
        replace S := (S.put4 0 rfl rfl rfl (x' := .bool b33) (y' := .slice A33 n33 c33) (z' := .bool d33) (u' := .slice B33 m33 e33))
        clear r1_0 f1_0 r1_1 f1_1 r1_2 f1_2 r1_3 f1_3
        go_roundw
        case rel => exact ⟨k + 1, b33, A33, n33, c33, d33, B33, m33, e33, by omega, by go_num, by rw [HS2.out]; exact S.onlyL.addQ (S.qi 0 rfl)⟩
        case measure => simp [intOf]; omega
    · have HEQ := Lib.hid (show dotR qs ys = dotK qs ys k by rw [dotR_all (k := k) (by omega) (by have := HL.out; omega)])
      generalize dotK qs ys k = s at *
      have t1 : decide ((k : Int) < (qs.length : Int)) = false := by exact decide_eq_false (by omega)
      have r0_0 := S.c 1 0 rfl rfl
      have f0_0 := S.f 1 0 rfl
      have r0_1 := S.c 1 1 rfl rfl
      have f0_1 := S.f 1 1 rfl
      have r0_2 := S.c 1 2 rfl rfl
      have f0_2 := S.f 1 2 rfl
      have r0_3 := S.c 1 3 rfl rfl
      have f0_3 := S.f 1 3 rfl
      have r1_0 := S.c 0 0 rfl rfl
      have r1_1 := S.c 0 1 rfl rfl
      have r1_2 := S.c 0 2 rfl rfl
      have r1_3 := S.c 0 3 rfl rfl
      go_wp2
      replace S := (S.put4 1 rfl rfl rfl (x' := .bool b) (y' := .slice A1 n1 c1) (z' := .bool d) (u' := .slice B1 m1 e1))
      refine bodyPost_ret (v := .tuple #[.agg #[.bool b, .slice A1 n1 c1, .bool d, .slice B1 m1 e1], .int .i64 0]) (by simp [results, Tryz.results68, go_sem, S.c 1 0 rfl rfl, S.c 1 1 rfl rfl, S.c 1 2 rfl rfl, S.c 1 3 rfl rfl]) rfl ?_
      exact ⟨_, rfl, by rw [HEQ.out, if_pos rfl]; exact S.qi 0 rfl, S.k⟩
end Go.Proofs.YtmochehkkadjnaaGreatDoor
