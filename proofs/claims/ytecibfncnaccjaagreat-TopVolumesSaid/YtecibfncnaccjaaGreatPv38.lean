/- slices.SortFunc of three fractions: the walk. Lists of fractions in memory. No program in sight. The walk of fraction.Sum. -/
import Derived.Test.YtecibfncnaccjaaGreatPv37
import Derived.Test.YtecibfncnaccjaaGreatPv12
import Derived.Test.YtecibfncnaccjaaGreatPv34
namespace Go.Proofs.YtecibfncnaccjaaGreat
open Go.RowKit Go.Shelf
set_option maxRecDepth 100000 in
set_option maxHeartbeats 1000000 in
theorem pdq_3 {w : World} {g c : Nat} {l : List Rn} {k : Int} (hr : RowQ w g l) (hn : l.length = 3) :
 Calls Tryz.prog 128 #[.slice (some ⟨g, 0, none⟩) 3 c, .int .i64 0, .int .i64 3, .int .i64 k, .func (.func 107) #[] #[]] w fun e w' => e = .returned (.tuple #[]) ∧ RowQ w' g (srtQ 3 l) ∧ Same32 w w' ∧ Turn [g] w w' := by
 have HI : Hid (Calls Tryz.prog 143 #[.slice (some ⟨g, 0, none⟩) 3 c, .int .i64 0, .int .i64 3, .func (.func 107) #[] #[]] w fun e w' => e = .returned (.tuple #[]) ∧ RowQ w' g (srtQ 3 l) ∧ Same32 w w' ∧ Turn [g] w w') := Lib.hid (qins_any (n := 3) (c := c) (m := 3) hr hn.symm (by omega) (by omega))
 clear hr hn
 go_enter Tryz.func128, Tryz.ntmps128
 go_wp2
 go_loopw [1, 2] (fun V1 V2 wr => V1 = .int .i64 0 ∧ V2 = .int .i64 3 ∧ wr = w) (fun _ _ _ => 0)
 case atStart => exact ⟨rfl, rfl, rfl⟩
 case round =>
  obtain ⟨rfl, rfl, rfl⟩ := hrel
  go_wp2_with fail
  refine HI.out.mono ?_
  rintro e w1 ⟨rfl, h⟩
  go_wp2
  refine bodyPost_ret (results_none rfl _ _ _) rfl ?_
  exact ⟨rfl, h⟩
set_option maxRecDepth 100000 in
set_option maxHeartbeats 1000000 in
theorem sortF_3 {w : World} {g c : Nat} {l : List Rn} (hr : RowQ w g l) (hn : l.length = 3) :
 Calls Tryz.prog 106 #[.slice (some ⟨g, 0, none⟩) 3 c, .func (.func 107) #[] #[]] w fun e w' => e = .returned (.tuple #[]) ∧ RowQ w' g (srtQ 3 l) ∧ Same32 w w' ∧ Turn [g] w w' := by
 have HL := Lib.hid (Tryz.bits_Len 3 w (by omega) (by omega))
 have HP := Lib.hid (fun k => pdq_3 (c := c) (k := k) hr hn)
 clear hr hn
 go_enter Tryz.func106, Tryz.ntmps106
 go_wp2_with fail
 refine HL.out.mono ?_
 rintro e w1 ⟨rfl, rfl⟩
 go_wp2_with fail
 refine (HP.out _).mono ?_
 rintro e w2 ⟨rfl, h⟩
 go_wp2
 refine bodyPost_end (results_none rfl _ _ _) rfl ?_
 exact ⟨rfl, h⟩
def Row4 {α : Type} (R : World → Value → α → Prop) (w : World) (A : Option Addr) (l : List α) : Prop :=
 ∀ j x, l[j]? = some x → ∃ B o c0 c1 c2 c3, A = some ⟨B, o, none⟩ ∧ (w.cell? ⟨B, o + j * 4, none⟩ = some c0 ∧ w.cell? ⟨B, o + j * 4 + 1, none⟩ = some c1 ∧ w.cell? ⟨B, o + j * 4 + 2, none⟩ = some c2 ∧ w.cell? ⟨B, o + j * 4 + 3, none⟩ = some c3) ∧ R w (.agg #[c0, c1, c2, c3]) x
def Sl4 {α : Type} (R : World → Value → α → Prop) (w : World) (V : Value) (l : List α) : Prop := ∃ A c, V = .slice A l.length c ∧ l.length ≤ c ∧ c ≤ maxLen ∧ (A = none → c = 0) ∧ Row4 R w A l
def Lasts {α : Type} (R : World → Value → α → Prop) : Prop := ∀ (w w' : World) (V : Value) (x : α), Keeps w w' → R w V x → R w' V x
theorem cell_lt {w : World} {b o : Nat} {v : Value} (h : w.cell? ⟨b, o, none⟩ = some v) : b < w.heap.size := by
 rcases Nat.lt_or_ge b w.heap.size with h1 | h1
 ·exact h1
 ·simp [World.cell?, Array.getElem?_eq_none h1] at h
theorem cell_keep {w w' : World} {b o : Nat} {v : Value} (h : w.cell? ⟨b, o, none⟩ = some v) (hk : Keeps w w') : w'.cell? ⟨b, o, none⟩ = some v :=
 (hk.cell (p := ⟨b, o, none⟩) (cell_lt h)).trans h
section
variable {α : Type} {R : World → Value → α → Prop} {w w' : World} {A : Option Addr} {V : Value} {l : List α}
theorem Row4.below (hR : Lasts R) (h : Row4 R w A l) (hk : Keeps w w') : Row4 R w' A l := fun j x hj => by
 obtain ⟨B, o, c0, c1, c2, c3, rfl, ⟨h0, h1, h2, h3⟩, hx⟩ := h j x hj
 exact ⟨B, o, c0, c1, c2, c3, rfl, ⟨cell_keep h0 hk, cell_keep h1 hk, cell_keep h2 hk, cell_keep h3 hk⟩, hR _ _ _ _ hk hx⟩
theorem Sl4.below (hR : Lasts R) (h : Sl4 R w V l) (hk : Keeps w w') : Sl4 R w' V l := by
 obtain ⟨A, c, rfl, h1, h2, h3, h4⟩ := h
 exact ⟨A, c, rfl, h1, h2, h3, h4.below hR hk⟩
theorem Row4.get (hR : Lasts R) (h : Row4 R w A l) {j : Nat} {x : α} (hj : l[j]? = some x) : ∃ B o c0 c1 c2 c3, A = some ⟨B, o, none⟩ ∧
 (∀ W, Keeps w W → W.cell? ⟨B, o + j * 4, none⟩ = some c0 ∧ W.cell? ⟨B, o + j * 4 + 1, none⟩ = some c1 ∧ W.cell? ⟨B, o + j * 4 + 2, none⟩ = some c2 ∧ W.cell? ⟨B, o + j * 4 + 3, none⟩ = some c3) ∧ ∀ W, Keeps w W → R W (.agg #[c0, c1, c2, c3]) x := by
 obtain ⟨B, o, c0, c1, c2, c3, rfl, ⟨h0, h1, h2, h3⟩, hx⟩ := h j x hj
 exact ⟨B, o, c0, c1, c2, c3, rfl, fun W hk => ⟨cell_keep h0 hk, cell_keep h1 hk, cell_keep h2 hk, cell_keep h3 hk⟩, fun W hk => hR _ _ _ _ hk hx⟩
end
theorem lasts_num : Lasts RatNum := fun _ _ _ _ hk h => h.below hk
def sumR (l : List Rat) : Rat := l.foldl (· + ·) 0
theorem sumR_snoc (l : List Rat) (q : Rat) : sumR (l ++ [q]) = sumR l + q := by simp [sumR]
theorem sumR_take {l : List Rat} {k : Nat} (h : k < l.length) : sumR (l.take (k + 1)) = sumR (l.take k) + l[k] := by
 rw [List.take_succ_eq_append_getElem h, sumR_snoc]
theorem szR_null : szR 0 ≤ 1 := szR_mk (by rw [Rat.zero_num, lenI_zero]; omega) (by rw [Rat.zero_den]; exact lenI_one)
theorem szR_sum {l : List Rat} {m : Nat} (h : ∀ q ∈ l, szR q ≤ m) : ∀ k, k ≤ l.length → szR (sumR (l.take k)) ≤ 1 + k * (m + 1)
 | 0, _ => by rw [List.take_zero]; exact Nat.le_trans szR_null (by omega)
 | k + 1, hk => by
  have := szR_sum h k (by omega)
  rw [sumR_take (by omega)]
  have h1 := szR_add (sumR (l.take k)) l[k]
  have h2 := h l[k] (List.getElem_mem _)
  rw [Nat.add_mul]
  omega
theorem St.onlyL {w0 w : World} {bs : List Bx} {ps : List (World → Prop)} (S : St w0 w bs ps) : St w0 w bs [] := ⟨S.k, S.b, S.lo, S.d, trivial⟩
theorem St.dropb {w0 w : World} {b : Bx} {bs : List Bx} {ps : List (World → Prop)} (S : St w0 w (b :: bs) ps) : St w0 w bs ps :=
 ⟨S.k, S.b.2, fun p hp => S.lo p (List.mem_cons_of_mem _ hp), (List.pairwise_cons.1 S.d).2, S.p⟩
set_option maxRecDepth 100000 in
set_option maxHeartbeats 1000000 in
theorem fsum_any {w : World} {A : Option Addr} {c : Nat} {qs : List Rat} (hr : Row4 RatNum w A qs) (hz : ∀ q ∈ qs, szR q ≤ 8) (hn : qs.length ≤ 8) : Calls Tryz.prog 108 #[.slice A qs.length c] w (RGives (sumR qs) w) := by
 have HR := Lib.hid hr
 have HZ := Lib.hid hz
 have HN := Lib.hid hn
 clear hr hz
 have y0 := szR_int 0
 have S := (St.start w)
 go_enter Tryz.func108, Tryz.ntmps108
 go_wp2_with fail
 replace S := (S.alloc 35 [.bool false, .slice none 0 0, .bool false, .slice none 0 0])
 obtain ⟨W1, eW, S⟩ := S.pack
 rw [eW]
 clear eW
 refine ((whole_num 0 (by omega) (by omega))).mono ?_
 rintro e W2 ⟨U2, rfl, hp, hk⟩
 obtain ⟨b3, A3, n3, c3, d3, B3, m3, e3, rfl⟩ := hp.open_
 replace S := (S.below hk).addQ hp
 clear hk hp
 go_wp2
 replace S := (S.alloc 35 [.bool b3, .slice A3 n3 c3, .bool d3, .slice B3 m3 e3])
 obtain ⟨W3, eW, S⟩ := S.pack
 rw [eW]
 clear eW
 generalize W2.heap.size = P1 at *
 go_loopw [9] (fun i wr => ∃ (k : Nat) (b : Bool) (A1 : Option Addr) (n1 c1 : Nat) (d : Bool) (B1 : Option Addr) (m1 e1 : Nat), k ≤ qs.length ∧ i = .int .i64 (k : Nat) ∧ St w wr [(P1, 35, [.bool b, .slice A1 n1 c1, .bool d, .slice B1 m1 e1]), (w.heap.size, 35, [.bool false, .slice none 0 0, .bool false, .slice none 0 0])] [fun w => RatRep w (.agg #[.bool b, .slice A1 n1 c1, .bool d, .slice B1 m1 e1]) (sumR (qs.take k))]) (fun i _ => qs.length - (intOf i).toNat)
 case atStart => exact ⟨0, b3, A3, n3, c3, d3, B3, m3, e3, Nat.zero_le _, rfl, by rw [List.take_zero]; exact S⟩
 case round =>
  clear S
  obtain ⟨k, b, A1, n1, c1, d, B1, m1, e1, hkd, rfl, S⟩ := hrel
  have hsz := szR_sum HZ.out k hkd
  by_cases hlt : k < qs.length
  ·obtain ⟨q, hq⟩ : ∃ q, qs[k]? = some q := ⟨_, List.getElem?_eq_getElem hlt⟩
   obtain ⟨B, o, x0, x1, x2, x3, rfl, hc, hx⟩ := HR.out.get lasts_num hq
   have hX := hx wr S.k
   obtain ⟨bx, Ax, nx, cx, dx, Bx, mx, ex, he⟩ := hX.open_
   cases he
   obtain ⟨g0, g1, g2, g3⟩ := hc wr S.k
   replace S := S.addR hX
   have hqs : qs[k] = q := by rw [List.getElem?_eq_getElem hlt] at hq; exact Option.some.inj hq
   have hq8 : szR q ≤ 8 := by rw [← hqs]; exact HZ.out _ (List.getElem_mem _)
   have hs2 := sumR_take hlt
   rw [hqs] at hs2
   generalize sumR (qs.take k) = s at *
   have HS2 := Lib.hid hs2
   have hkI : (k : Int) ≤ 8 := by omega
   clear hs2 hqs hq hc hx hX
   have y0 := szR_add s q
   have t1 : decide ((k : Int) < (qs.length : Int)) = true := by exact decide_eq_true (by omega)
   go_upto_region 5 with fail
   replace S := (S.alloc 35 [.bool bx, .slice Ax nx cx, .bool dx, .slice Bx mx ex])
   obtain ⟨W31, eW, S⟩ := S.pack
   rw [eW]
   clear eW
   generalize wr.heap.size = P31 at *
   obtain ⟨r1_0, r1_1, r1_2, r1_3⟩ := S.cc4 1 rfl
   obtain ⟨r2_0, r2_1, r2_2, r2_3⟩ := S.cc4 0 rfl
   go_wp2_with fail
   refine ((fadd_num ((S.qi 1 rfl).num (by omega)) (S.ri 0 rfl))).mono ?_
   rintro e W32 ⟨U32, rfl, hp, hk⟩
   obtain ⟨b33, A33, n33, c33, d33, B33, m33, e33, rfl⟩ := hp.open_
   replace S := (S.below hk).addQ hp
   clear hk hp
   clear r1_0 r1_1 r1_2 r1_3 r2_0 r2_1 r2_2 r2_3
   have r1_0 := S.c 1 0 rfl rfl
   have f1_0 := S.f 1 0 rfl
   have r1_1 := S.c 1 1 rfl rfl
   have f1_1 := S.f 1 1 rfl
   have r1_2 := S.c 1 2 rfl rfl
   have f1_2 := S.f 1 2 rfl
   have r1_3 := S.c 1 3 rfl rfl
   have f1_3 := S.f 1 3 rfl
   go_wp2
   replace S := (S.put4 1 rfl rfl rfl (x' := .bool b33) (y' := .slice A33 n33 c33) (z' := .bool d33) (u' := .slice B33 m33 e33))
   clear r1_0 f1_0 r1_1 f1_1 r1_2 f1_2 r1_3 f1_3
   go_roundw
   case rel => exact ⟨k + 1, b33, A33, n33, c33, d33, B33, m33, e33, by omega, by go_num, by rw [HS2.out]; exact S.dropb.onlyL.addQ (S.qi 0 rfl)⟩
   case measure => simp [intOf]; omega
  ·have HEQ := Lib.hid (show sumR qs = sumR (qs.take k) by rw [List.take_of_length_le (by omega)])
   generalize sumR (qs.take k) = s at *
   have t1 : decide ((k : Int) < (qs.length : Int)) = false := by exact decide_eq_false (by omega)
   have r0_0 := S.c 1 0 rfl rfl
   have f0_0 := S.f 1 0 rfl
   have r0_1 := S.c 1 1 rfl rfl
   have f0_1 := S.f 1 1 rfl
   have r0_2 := S.c 1 2 rfl rfl
   have f0_2 := S.f 1 2 rfl
   have r0_3 := S.c 1 3 rfl rfl
   have f0_3 := S.f 1 3 rfl
   obtain ⟨r1_0, r1_1, r1_2, r1_3⟩ := S.cc4 0 rfl
   go_wp2
   replace S := (S.put4 1 rfl rfl rfl (x' := .bool b) (y' := .slice A1 n1 c1) (z' := .bool d) (u' := .slice B1 m1 e1))
   refine bodyPost_ret (v := .agg #[.bool b, .slice A1 n1 c1, .bool d, .slice B1 m1 e1]) (by simp [results, Tryz.results108, go_sem, S.c 1 0 rfl rfl, S.c 1 1 rfl rfl, S.c 1 2 rfl rfl, S.c 1 3 rfl rfl]) rfl ?_
   exact ⟨_, rfl, by rw [HEQ.out]; exact S.qi 0 rfl, S.k⟩
end Go.Proofs.YtecibfncnaccjaaGreat
