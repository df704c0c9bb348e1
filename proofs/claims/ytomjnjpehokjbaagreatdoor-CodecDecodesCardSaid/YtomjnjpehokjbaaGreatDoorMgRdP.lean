/- Reading values as the reference does it, plainly: it accepts all that is encoded. No program in sight. fiducialref12.number: the walk. -/
import Derived.Test.YtomjnjpehokjbaaGreatDoorMgRdr
import Derived.Test.YtomjnjpehokjbaaGreatDoorMgRefP
import Derived.Test.YtomjnjpehokjbaaGreatDoorMgBytes
namespace Go.Proofs.YtomjnjpehokjbaaGreatDoor

/-- the number of at most so many digits at the beginning, and what follows it -/
def numP : Nat → Nat → List UInt8 → Nat × List UInt8
  | 0, n, r => (n, r)
  | _ + 1, n, [] => (n, [])
  | f + 1, n, c :: r => if isDg c then numP f (n * 10 + (c.toNat - 48)) r else (n, c :: r)
theorem numP_end (f n : Nat) : numP f n [] = (n, []) := by cases f <;> rfl
theorem numP_stop (f n : Nat) {c : UInt8} (r : List UInt8) (h : isDg c = false) : numP f n (c :: r) = (n, c :: r) := by
  cases f with
  | zero => rfl
  | succ f => rw [numP, h]; rfl
theorem numP_go (f n : Nat) {c : UInt8} (r : List UInt8) (h : isDg c = true) : numP (f + 1) n (c :: r) = numP f (n * 10 + (c.toNat - 48)) r := by rw [numP, if_pos h]
theorem numP_len : ∀ (f n : Nat) (r : List UInt8), (numP f n r).2.length ≤ r.length
  | 0, n, r => Nat.le_refl _
  | f + 1, n, [] => Nat.le_refl _
  | f + 1, n, c :: r => by
    rw [numP]
    split
    · exact Nat.le_trans (numP_len f _ r) (by simp)
    · exact Nat.le_refl _
theorem numP_all : ∀ (l : List UInt8), l.all isDg = true → ∀ (f n : Nat) (u : List UInt8), l.length ≤ f → numP f n (l ++ u) = numP (f - l.length) (l.foldl (fun a c => a * 10 + (c.toNat - 48)) n) u
  | [], _, f, n, u, _ => by simp
  | c :: l, h, f, n, u, hf => by
    rw [List.all_cons, Bool.and_eq_true] at h
    obtain ⟨f, rfl⟩ : ∃ g, f = g + 1 := ⟨f - 1, by simp at hf; omega⟩
    rw [List.cons_append, numP_go f n _ h.1, numP_all l h.2 f _ u (by simpa using hf), List.foldl_cons]
    congr 1
    simp
theorem valD_dec (n : Nat) : valD (Lib.decDigits n) = n := by
  induction n using Nat.strongRecOn with
  | ind n ih =>
    rw [Lib.decDigits]
    by_cases h : n < 10
    · rw [dif_pos h, valD_one]
      simp
      omega
    · rw [dif_neg h, valD_snoc, ih (n / 10) (by omega)]
      simp
      omega
theorem numP_dec {n : Nat} (hn : n ≤ 65536) (u : List UInt8) : numP 7 0 (Lib.decDigits n ++ 58 :: u) = (n, 58 :: u) := by
  have h1 : (Lib.decDigits n).length ≤ 7 := by
    have := congrArg List.length (pad_low 7 n (by omega) (by omega))
    rw [List.length_append, List.length_replicate, low_length] at this
    omega
  have h2 : (Lib.decDigits n).all isDg = true := List.all_eq_true.2 fun c hc => by
    have := dec_digit n c hc
    unfold isDg
    simp [this]
  rw [numP_all _ h2 7 0 _ h1, numP_stop _ _ _ (by decide)]
  congr 1
  exact valD_dec n
/-- what the reference reads -/
def redP : Nat → List UInt8 → Option (Tr × List UInt8)
  | 0, _ => none
  | _ + 1, [] => none
  | d + 1, c :: r =>
    if c = 105 then (match cutM 59 r with | none => none | some (s, t) => if s.length ≤ 2001 ∧ parseC s = 0 then some (intT (parseZ s), t) else none)
    else match numP 7 0 r with
      | (_, []) => none
      | (n, m :: u) => if u.length + 1 < r.length ∧ m = 58 ∧ n ≤ u.length then (if c = 116 then some (txtT (u.take n), u.drop n) else if c = 108 then (repP (redP d) n u).map fun p => (lstT p.1, p.2) else none) else none
theorem redP_int (d : Nat) (r : List UInt8) : redP (d + 1) (105 :: r) = match cutM 59 r with | none => none | some (s, t) => if s.length ≤ 2001 ∧ parseC s = 0 then some (intT (parseZ s), t) else none := rfl
theorem redP_num (d : Nat) {c : UInt8} (hc : c ≠ 105) {r : List UInt8} {n : Nat} {t : List UInt8} (h : numP 7 0 r = (n, t)) : redP (d + 1) (c :: r) = match t with | [] => none | m :: u => if u.length + 1 < r.length ∧ m = 58 ∧ n ≤ u.length then (if c = 116 then some (txtT (u.take n), u.drop n) else if c = 108 then (repP (redP d) n u).map fun p => (lstT p.1, p.2) else none) else none := by
  unfold redP
  rw [if_neg hc]
  simp only [h]
  cases t <;> rfl
theorem redP_head (d : Nat) {c : UInt8} (hc : c ≠ 105) {n : Nat} (hn : n ≤ 65536) {u : List UInt8} (hu : n ≤ u.length) : redP (d + 1) (c :: (Lib.decDigits n ++ 58 :: u)) = if c = 116 then some (txtT (u.take n), u.drop n) else if c = 108 then (repP (redP d) n u).map fun p => (lstT p.1, p.2) else none := by
  rw [redP_num d hc (numP_dec hn u)]
  simp only
  rw [if_pos]
  refine ⟨?_, by simp, hu⟩
  have := (decDigits_len n (by omega)).2
  simp only [List.length_append, List.length_cons]
  omega
/-- what is encoded is read again -/
theorem redP_enc : ∀ (d : Nat) (v : Tr) (r : List UInt8), vldD d v = true → shD d v = true → (enD d v).length ≤ 65536 → redP (d + 1) (enD d v ++ r) = some (v, r) := by
  have hint : ∀ (d : Nat) (z : Int) (r : List UInt8), shD d (intT z) = true → redP (d + 1) (enD d (intT z) ++ r) = some (intT z, r) := by
    intro d z r hs
    rw [enD_int, List.cons_append, List.append_assoc]
    rw [shD_int] at hs
    obtain ⟨h1, h2⟩ := parse_textS z hs
    have hc : cutM 59 (textL z ++ ([59] ++ r)) = some (textL z, r) := cutM_mk (textL_mark z)
    have hl : (textL z).length ≤ 2001 := by
      unfold shortZ at hs
      have := of_decide_eq_true hs
      split at this <;> omega
    rw [redP_int, hc]
    simp only
    rw [if_pos ⟨hl, h1⟩, h2]
  have htxt : ∀ (d : Nat) (x r : List UInt8), (enD d (txtT x)).length ≤ 65536 → redP (d + 1) (enD d (txtT x) ++ r) = some (txtT x, r) := by
    intro d x r hl
    rw [enD_txt] at hl ⊢
    simp only [List.length_cons, List.length_append] at hl
    rw [List.cons_append, List.append_assoc, List.cons_append, redP_head d (by decide) (by omega) (by simp), if_pos rfl]
    simp
  intro d
  induction d with
  | zero =>
    intro v r hv hs hl
    rcases vld_cases hv with ⟨z, rfl⟩ | ⟨x, rfl⟩ | ⟨e, l, h, -⟩
    · exact hint 0 z r hs
    · exact htxt 0 x r hl
    · cases h
  | succ d ih =>
    intro v r hv hs hl
    rcases vld_cases hv with ⟨z, rfl⟩ | ⟨x, rfl⟩ | ⟨e, l, h, rfl, hvl⟩
    · exact hint _ z r hs
    · exact htxt _ x r hl
    · obtain rfl : e = d := by omega
      rw [enD_lst] at hl ⊢
      rw [shD_lst, List.all_eq_true] at hs
      simp only [List.length_cons, List.length_append] at hl
      rw [List.cons_append, List.append_assoc, List.cons_append]
      have hn := flat_len e l
      rw [redP_head _ (by decide) (by omega) (by simp only [List.length_append]; omega), if_neg (by decide), if_pos rfl]
      have hrep : ∀ (l : List Tr), (∀ x ∈ l, vldD e x = true) → (∀ x ∈ l, shD e x = true) → ((l.map (enD e)).flatten).length ≤ 65536 → repP (redP (e + 1)) l.length ((l.map (enD e)).flatten ++ r) = some (l, r) := by
        intro l
        induction l with
        | nil => intro _ _ _; rfl
        | cons x m ihm =>
          intro h1 h2 h3
          simp only [List.map_cons, List.flatten_cons, List.length_append] at h3
          have h4 := ih x ((m.map (enD e)).flatten ++ r) (h1 x List.mem_cons_self) (h2 x List.mem_cons_self) (by omega)
          rw [List.length_cons, List.map_cons, List.flatten_cons, List.append_assoc, repP_step _ _ h4, ihm (fun y hy => h1 y (List.mem_cons_of_mem _ hy)) (fun y hy => h2 y (List.mem_cons_of_mem _ hy)) (by omega)]
          rfl
      rw [hrep l hvl hs (by omega)]
      rfl
/-- the forms of what is read -/
theorem redP_cases {d : Nat} {b : List UInt8} {v : Tr} {w : List UInt8} (h : redP d b = some (v, w)) : ∃ e, d = e + 1 ∧
    ((∃ s, b = 105 :: (s ++ 59 :: w) ∧ parseC s = 0 ∧ v = intT (parseZ s)) ∨ (∃ (r n : Nat) (u : List UInt8), b.length = r + 1 ∧ u.length + 1 < r ∧ n ≤ u.length ∧ v = txtT (u.take n) ∧ w = u.drop n) ∨
    (∃ (r n : Nat) (u : List UInt8) (l : List Tr), b.length = r + 1 ∧ u.length + 1 < r ∧ n ≤ u.length ∧ repP (redP e) n u = some (l, w) ∧ v = lstT l)) := by
  match d, b, h with
  | 0, _, h => cases h
  | e + 1, [], h => cases h
  | e + 1, c :: r, h =>
    refine ⟨e, rfl, ?_⟩
    by_cases hc : c = 105
    · subst hc
      rw [redP_int] at h
      split at h
      · cases h
      · rename_i s t hs
        split at h
        · rename_i hp
          cases h
          exact .inl ⟨s, by rw [(cutM_some hs).1], hp.2, rfl⟩
        · cases h
    · obtain ⟨⟨n, t⟩, hnt⟩ : ∃ p, numP 7 0 r = p := ⟨_, rfl⟩
      rw [redP_num e hc hnt] at h
      split at h
      · cases h
      · rename_i m u hmu
        split at h
        · rename_i hcd
          split at h
          · cases h
            exact .inr (.inl ⟨r.length, n, u, rfl, hcd.1, hcd.2.2, rfl, rfl⟩)
          · split at h
            · obtain ⟨⟨l, w'⟩, hl, he⟩ := Option.map_eq_some_iff.1 h
              cases he
              exact .inr (.inr ⟨r.length, n, u, l, rfl, hcd.1, hcd.2.2, hl, rfl⟩)
            · cases h
        · cases h
/-- what is read is not large, and not deep -/
theorem redP_wt : ∀ (d : Nat) (b : List UInt8) (v : Tr) (w : List UInt8), redP d b = some (v, w) → wtT v + 116 * w.length ≤ 116 * b.length ∧ depT v ≤ d := by
  intro d
  induction d with
  | zero => intro b v w h; cases h
  | succ d ih =>
    intro b v w h
    obtain ⟨e, he, hcs⟩ := redP_cases h
    obtain rfl : e = d := by omega
    clear h
    rcases hcs with ⟨s, rfl, hp, rfl⟩ | ⟨r, n, u, hb, hu, hn, rfl, rfl⟩ | ⟨r, n, u, l, hb, hu, hn, hr, rfl⟩
    · have h1 := parse_len s
      unfold lenI at h1
      refine ⟨?_, by rw [intT, depT_mk, if_neg (by decide)]; omega⟩
      rw [intT, wtT_mk]
      simp only [List.length_nil, List.map_nil, List.sum_nil, List.length_cons, List.length_append]
      omega
    · refine ⟨?_, by rw [txtT, depT_mk, if_neg (by decide)]; omega⟩
      rw [txtT, wtT_mk]
      simp only [List.length_nil, List.map_nil, List.sum_nil, List.length_take, List.length_drop]
      omega
    · have hrep : ∀ (n : Nat) (t : List UInt8) (l : List Tr) (w : List UInt8), repP (redP e) n t = some (l, w) → (l.map wtT).sum + 116 * w.length ≤ 116 * t.length ∧ ∀ x ∈ l, depT x ≤ e := by
        intro n
        induction n with
        | zero =>
          intro t l w h
          simp only [repP, Option.some.injEq, Prod.mk.injEq] at h
          obtain ⟨rfl, rfl⟩ := h
          exact ⟨by simp, fun x hx => by cases hx⟩
        | succ n ihn =>
          intro t l w h
          unfold repP at h
          split at h
          · cases h
          · rename_i x y hx
            obtain ⟨⟨l2, u2⟩, h2, he⟩ := Option.map_eq_some_iff.1 h
            cases he
            obtain ⟨h3, h4⟩ := ihn _ _ _ h2
            obtain ⟨h6, h7⟩ := ih _ _ _ hx
            refine ⟨by simp only [List.map_cons, List.sum_cons]; omega, fun z hz => ?_⟩
            rcases List.mem_cons.1 hz with rfl | hz
            · exact h7
            · exact h4 z hz
      obtain ⟨h1, h2⟩ := hrep n u l w hr
      refine ⟨?_, ?_⟩
      · rw [lstT, wtT_mk]
        simp only [List.length_nil]
        omega
      · rw [lstT, depT_mk, if_pos rfl]
        have := (maxL_le (l := l) (f := depT) 0 (m := e)).2 ⟨Nat.zero_le _, h2⟩
        omega
/-- the reference's Decode: what it reads, if that is encoded so -/
theorem red_dec {b : List UInt8} {v : Tr} (h : decT b = some v) : redP 9 b = some (v, []) ∧ chkC v = 0 ∧ encT v = b := by
  obtain ⟨h1, h2⟩ := decT_iff.1 h
  obtain ⟨h3, h4, h5⟩ := chkC_iff.1 h1
  refine ⟨?_, h1, ?_⟩
  · have := redP_enc 8 v [] h3 h4 h5
    rwa [List.append_nil, h2] at this
  · rw [← (vld_encsh v 8 h3).1]
    exact h2
theorem dec_red {b : List UInt8} {v : Tr} (h1 : chkC v = 0) (h2 : encT v = b) : decT b = some v := by
  refine decT_iff.2 ⟨h1, ?_⟩
  rw [(vld_encsh v 8 (chkC_iff.1 h1).1).1]
  exact h2
end Go.Proofs.YtomjnjpehokjbaaGreatDoor

namespace Go.Proofs.YtomjnjpehokjbaaGreatDoor
open Go.RowKit Go.Shelf
theorem drop_getD {l : List UInt8} {j : Nat} (h : j < l.length) : l.drop j = l.getD j 0 :: l.drop (j + 1) := by
  rw [List.drop_eq_getElem_cons h]
  congr 1
  rw [List.getD, List.getElem?_eq_getElem h]
  rfl
set_option maxRecDepth 100000 in
set_option maxHeartbeats 1000000 in
theorem rnumber_any {w : World} {A : Option Addr} {c : Nat} {xs : List UInt8} (hr : Row w A xs.length (b8 xs)) (hl : xs.length ≤ 1000000) {p : Nat} (hp : p ≤ xs.length) :
    Calls Tryz.prog 59 #[.slice A xs.length c, .int .i64 (p : Nat)] w fun e w' => (∃ n j : Nat, e = .returned (.tuple #[.int .i64 (n : Nat), .int .i64 (j : Nat), .bool (decide ((p : Int) < (j : Int)))]) ∧ p ≤ j ∧ j ≤ xs.length ∧ n < 10000000 ∧ numP 7 0 (xs.drop p) = (n, xs.drop j)) ∧ w' = w := by
  have hlI : (xs.length : Int) ≤ 1000000 := by omega
  have hpI : (p : Int) ≤ xs.length := by omega
  have HR := Lib.hid hr
  clear hr
  go_enter Tryz.func59, Tryz.ntmps59
  go_wp2
  go_loop [1, 7] (fun i v => ∃ j n : Nat, p ≤ j ∧ j ≤ xs.length ∧ j ≤ p + 7 ∧ i = .int .i64 (j : Nat) ∧ v = .int .i64 (n : Nat) ∧ Hid (n < 10 ^ (j - p) ∧ numP 7 0 (xs.drop p) = numP (7 - (j - p)) n (xs.drop j))) (fun i _ => 1000000 - (intOf i).toNat)
  case atStart => exact ⟨p, 0, Nat.le_refl _, hp, by omega, rfl, rfl, Lib.hid ⟨by simp, by simp⟩⟩
  case round =>
    obtain ⟨j, n, hpj, hjl, hj7, rfl, rfl, HN⟩ := hrel
    have hn7 : n < 10000000 := Nat.lt_of_lt_of_le HN.out.1 (Nat.le_trans (Nat.pow_le_pow_right (by omega) (by omega : j - p ≤ 7)) (by decide))
    have hnI : (n : Int) < 10000000 := by omega
    have hjI : (j : Int) ≤ 1000000 := by omega
    have hpjI : (p : Int) ≤ j := by omega
    by_cases hlt : j < xs.length
    · obtain ⟨b, o, rfl, hb, hc⟩ := HR.out (by omega)
      have c1 := hc j hlt
      have hjl2 : (j : Int) < xs.length := by omega
      have HB := Lib.hid hb
      unfold b8 at c1
      have HD := Lib.hid (drop_getD hlt)
      clear hc hb
      have hv256 : (xs.getD j 0).toNat < 256 := UInt8.toNat_lt _
      obtain ⟨u, hu⟩ : ∃ u, xs.getD j 0 = u := ⟨_, rfl⟩
      rw [hu] at c1 hv256 HD
      clear hu
      have HDG := Lib.hid (risDigit_any hv256)
      cases hD : isDgt u.toNat with
      | true =>
        have hd : isDg u = true := hD
        have hd48 : 48 ≤ u.toNat ∧ u.toNat ≤ 57 := of_decide_eq_true hd
        rw [hD] at HDG
        have HDD := Lib.hid hd
        obtain ⟨d, hdu⟩ : ∃ d, u.toNat = d := ⟨_, rfl⟩
        rw [hdu] at c1 HDG hd48
        have HDU := Lib.hid hdu
        obtain ⟨hd1, hd2⟩ := hd48
        have hd1I : (48 : Int) ≤ (d : Int) := by omega
        have hd2I : (d : Int) ≤ 57 := by omega
        clear hd hD hdu hv256
        by_cases h7 : j < p + 7
        · have t7 : decide ((j : Int) - (p : Int) < 7) = true := decide_eq_true (by omega)
          have t7' : ((j : Int) - (p : Int) < 7) := by omega
          have HT : Hid (n * 10 + (d - 48) < 10 ^ (j + 1 - p) ∧ numP 7 0 (xs.drop p) = numP (7 - (j + 1 - p)) (n * 10 + (d - 48)) (xs.drop (j + 1))) := Lib.hid (by
            refine ⟨?_, ?_⟩
            · have := HN.out.1
              rw [show j + 1 - p = (j - p) + 1 by omega, Nat.pow_succ]
              omega
            · rw [HN.out.2, HD.out, show 7 - (j - p) = (7 - (j + 1 - p)) + 1 by omega, numP_go _ _ _ HDD.out, HDU.out])
          clear h7
          go_wp2_with fail
          refine (HDG.out _).mono ?_
          rintro e w2 ⟨rfl, rfl⟩
          go_wp2
          go_round
          case rel => exact ⟨j + 1, n * 10 + (d - 48), by omega, by omega, by omega, by go_num, by go_num, HT⟩
          case measure => simp [intOf]; omega
        · have t7 : decide ((j : Int) - (p : Int) < 7) = false := decide_eq_false (by omega)
          have HT : Hid (numP 7 0 (xs.drop p) = (n, xs.drop j)) := Lib.hid (by
            rw [HN.out.2, show 7 - (j - p) = 0 by omega]
            rfl)
          clear h7
          go_wp2_with fail
          refine (HDG.out _).mono ?_
          rintro e w2 ⟨rfl, rfl⟩
          go_wp2
          refine bodyPost_ret (v := .tuple #[.int .i64 (n : Nat), .int .i64 ((j : Nat) : Int), .bool (decide ((p : Int) < ((j : Nat) : Int)))]) (by simp [results, Tryz.results59, go_sem]) rfl ?_
          exact ⟨⟨n, j, rfl, hpj, hjl, hn7, HT.out⟩, rfl⟩
      | false =>
        have hd : isDg u = false := hD
        rw [hD] at HDG
        have HT : Hid (numP 7 0 (xs.drop p) = (n, xs.drop j)) := Lib.hid (by
          rw [HN.out.2, HD.out, numP_stop _ _ _ hd])
        clear hd hD
        obtain ⟨d, hdu⟩ : ∃ d, u.toNat = d := ⟨_, rfl⟩
        rw [hdu] at c1 HDG hv256
        clear hdu
        go_wp2_with fail
        refine (HDG.out _).mono ?_
        rintro e w2 ⟨rfl, rfl⟩
        go_wp2
        refine bodyPost_ret (v := .tuple #[.int .i64 (n : Nat), .int .i64 ((j : Nat) : Int), .bool (decide ((p : Int) < ((j : Nat) : Int)))]) (by simp [results, Tryz.results59, go_sem]) rfl ?_
        exact ⟨⟨n, j, rfl, hpj, hjl, hn7, HT.out⟩, rfl⟩
    · obtain rfl : j = xs.length := by omega
      have HT : Hid (numP 7 0 (xs.drop p) = (n, xs.drop xs.length)) := Lib.hid (by
        rw [HN.out.2, List.drop_length, numP_end])
      clear hlt
      go_wp2
      refine bodyPost_ret (v := .tuple #[.int .i64 (n : Nat), .int .i64 ((xs.length : Nat) : Int), .bool (decide ((p : Int) < ((xs.length : Nat) : Int)))]) (by simp [results, Tryz.results59, go_sem]) rfl ?_
      exact ⟨⟨n, _, by first | rfl | simp, hpj, hjl, hn7, HT.out⟩, rfl⟩
end Go.Proofs.YtomjnjpehokjbaaGreatDoor
