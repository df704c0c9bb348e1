/- Predictions and residuals: the walks of the small functions, the program's and the document's. -/
import Derived.Test.YtbkcnhbdjllojaaHeap
import Derived.Test.YtbkcnhbdjllojaaProg
import Derived.Shelf.Abstract
import Derived.Shelf.RegionOpen
import Derived.Deep.DeepCutAuto
import Derived.Deep.LoopGhost
namespace Go.Proofs.Ytbkcnhbdjllojaa
open Go.RowKit Go.Shelf

/-- the j-th of a row of ints -/
def iv (l : List Int) (j : Nat) : Value := .int .i64 (l.getD j 0)
abbrev IRow (w : World) (A : Option Addr) (l : List Int) : Prop := Row w A l.length (iv l)
/-- the rule of three neighbours -/
def midI (a b c : Int) : Int := if max a b ≤ c then min a b else if c ≤ min a b then max a b else a + b - c
def predI (px : List Int) (W i : Nat) : Int :=
  if i = 0 then 0 else if i < W then px.getD (i - 1) 0 else if i % W = 0 then px.getD (i - W) 0 else midI (px.getD (i - 1) 0) (px.getD (i - W) 0) (px.getD (i - W - 1) 0)
def foldI (r m : Int) : Int := if 2 * r ≤ m then if 0 < r then 2 * r - 1 else 0 else 2 * (m - r)
def unfI (v : Int) : Int := if v % 2 = 1 then (v + 1) / 2 else -(v / 2)
/-- all of them grey values -/
def Grey (m : Int) (l : List Int) : Prop := ∀ x ∈ l, 0 ≤ x ∧ x ≤ m
theorem Grey.get {m : Int} {l : List Int} (h : Grey m l) (hm : 0 ≤ m) (j : Nat) : 0 ≤ l.getD j 0 ∧ l.getD j 0 ≤ m := by
  rw [List.getD_eq_getElem?_getD]
  cases hj : l[j]? with
  | none => simp [hm]
  | some x => simpa using h x (List.mem_of_getElem? hj)
theorem midI_le {a b c m : Int} (ha : 0 ≤ a ∧ a ≤ m) (hb : 0 ≤ b ∧ b ≤ m) : 0 ≤ midI a b c ∧ midI a b c ≤ m := by
  unfold midI
  split
  · omega
  · split <;> omega
theorem predI_le {m : Int} {l : List Int} (h : Grey m l) (hm : 0 ≤ m) (W i : Nat) : 0 ≤ predI l W i ∧ predI l W i ≤ m := by
  unfold predI
  split
  · omega
  · split
    · exact h.get hm _
    · split
      · exact h.get hm _
      · exact midI_le (h.get hm _) (h.get hm _)
theorem foldI_le {r m : Int} (h0 : 0 ≤ r) (h1 : r < m) : 0 ≤ foldI r m ∧ foldI r m ≤ m - 1 := by
  unfold foldI
  split
  · split <;> omega
  · omega
theorem unfI_le {v m : Int} (h0 : 0 ≤ v) (h1 : v ≤ m) : -m ≤ unfI v ∧ unfI v ≤ m := by
  unfold unfI
  split <;> omega

set_option maxRecDepth 100000 in
theorem folded_any (r m : Int) (w : World) (h0 : 0 ≤ r) (h1 : r < m) (hm : m ≤ 65536) : Calls Try.prog 73 #[.int .i64 r, .int .i64 m] w fun e w' => e = .returned (.int .i64 (foldI r m)) ∧ w' = w := by
  by_cases t1 : 2 * r ≤ m
  · by_cases t2 : 0 < r
    · have HF := Lib.hid (show foldI r m = 2 * r - 1 by unfold foldI; rw [if_pos t1, if_pos t2])
      go_enter Try.func73, Try.ntmps73
      go_wp2
      go_ret
      exact ⟨by rw [HF.out]; rfl, rfl⟩
    · have HF := Lib.hid (show foldI r m = 0 by unfold foldI; rw [if_pos t1, if_neg t2])
      go_enter Try.func73, Try.ntmps73
      go_wp2
      go_ret
      exact ⟨by rw [HF.out]; rfl, rfl⟩
  · have HF := Lib.hid (show foldI r m = 2 * (m - r) by unfold foldI; rw [if_neg t1])
    go_enter Try.func73, Try.ntmps73
    go_wp2
    go_ret
    exact ⟨by rw [HF.out]; rfl, rfl⟩
set_option maxRecDepth 100000 in
theorem unfolded_any (v : Int) (w : World) (h0 : 0 ≤ v) (hm : v ≤ 65535) : Calls Try.prog 60 #[.int .i64 v] w fun e w' => e = .returned (.int .i64 (unfI v)) ∧ w' = w := by
  have e1 : v.tmod 2 = v % 2 := Int.tmod_eq_emod_of_nonneg h0
  by_cases t1 : v % 2 = 1
  · have HF := Lib.hid (show unfI v = (v + 1) / 2 by unfold unfI; rw [if_pos t1])
    have e2 : (v + 1).tdiv 2 = (v + 1) / 2 := Int.tdiv_eq_ediv_of_nonneg (by omega)
    go_enter Try.func60, Try.ntmps60
    go_wp2
    go_ret
    exact ⟨by rw [HF.out]; rfl, rfl⟩
  · have HF := Lib.hid (show unfI v = -(v / 2) by unfold unfI; rw [if_neg t1])
    have e2 : (-v).tdiv 2 = -(v / 2) := by rw [Int.neg_tdiv, Int.tdiv_eq_ediv_of_nonneg h0]
    go_enter Try.func60, Try.ntmps60
    go_wp2
    go_ret
    exact ⟨by rw [HF.out]; rfl, rfl⟩

theorem IRow.at {w : World} {A : Option Addr} {l : List Int} (h : IRow w A l) {j : Nat} (hj : j < l.length) : ∃ b o, A = some ⟨b, o, none⟩ ∧ w.cell? ⟨b, o + j, none⟩ = some (.int .i64 (l.getD j 0)) := by
  obtain ⟨b, o, e, -, hc⟩ := h (by omega)
  exact ⟨b, o, e, hc j hj⟩
set_option maxRecDepth 100000 in
set_option maxHeartbeats 1000000 in
theorem predicted_any {w : World} {A : Option Addr} {n c : Nat} {px : List Int} (hr : IRow w A px) (hn : n = px.length) (W i : Nat) (hW : 1 ≤ W ∧ W ≤ 64) (hi : i < n ∨ i = n) (hl : n ≤ 4096) (hv : Grey 65535 px) :
    Calls Try.prog 59 #[.slice A n c, .int .i64 (W : Nat), .int .i64 (i : Nat)] w fun e w' => e = .returned (.int .i64 (predI px W i)) ∧ Keeps w w' := by
  have hlI : (n : Int) ≤ 4096 := by omega
  have hWI : (1 : Int) ≤ W ∧ (W : Int) ≤ 64 := by omega
  have hiI : (i : Int) ≤ n := by omega
  by_cases t0 : i = 0
  · subst t0
    go_enter Try.func59, Try.ntmps59
    go_wp2
    go_ret
    exact ⟨by unfold predI; rw [if_pos rfl]; rfl, Below.refl _ _⟩
  have z0 : ((i : Int) == 0) = false := by simp; omega
  obtain ⟨p, hp⟩ : ∃ p : Nat, (i : Int) - 1 = p := ⟨i - 1, by omega⟩
  have hp' : i - 1 = p := by omega
  by_cases t1 : i < W
  · obtain ⟨b, o, rfl, c1⟩ := hr.at (j := p) (by omega)
    have HF := Lib.hid (show predI px W i = px.getD p 0 by unfold predI; rw [if_neg t0, if_pos t1, hp'])
    clear hp' hr
    generalize px.getD p 0 = x at *
    go_enter Try.func59, Try.ntmps59
    go_wp2
    go_ret
    exact ⟨by rw [HF.out]; rfl, Below.refl _ _⟩
  obtain ⟨q, hq⟩ : ∃ q : Nat, (i : Int) - W = q := ⟨i - W, by omega⟩
  have hq' : i - W = q := by omega
  have em : (i : Int).tmod W = ((i % W : Nat) : Int) := by rw [Int.tmod_eq_emod_of_nonneg (by omega)]; omega
  by_cases t2 : i % W = 0
  · obtain ⟨b, o, rfl, c1⟩ := hr.at (j := q) (by omega)
    have HF := Lib.hid (show predI px W i = px.getD q 0 by unfold predI; rw [if_neg t0, if_neg t1, if_pos t2, hq'])
    rw [t2] at em
    clear hq' hp' hr
    generalize px.getD q 0 = x at *
    go_enter Try.func59, Try.ntmps59
    go_wp2
    go_ret
    exact ⟨by rw [HF.out]; rfl, Below.refl _ _⟩
  obtain ⟨r, hr1⟩ : ∃ r : Nat, (q : Int) - 1 = r := ⟨q - 1, by
    have : i ≠ W := fun e => by rw [e, Nat.mod_self] at t2; exact t2 rfl
    omega⟩
  have hr' : i - W - 1 = r := by omega
  have z2 : (((i % W : Nat) : Int) == 0) = false := by simp; omega
  obtain ⟨b, o, rfl, c1⟩ := hr.at (j := p) (by omega)
  obtain ⟨b2, o2, e2, c2⟩ := hr.at (j := q) (by omega)
  obtain ⟨b3, o3, e3, c3⟩ := hr.at (j := r) (by omega)
  cases e2
  cases e3
  have HF : predI px W i = midI (px.getD p 0) (px.getD q 0) (px.getD r 0) := by unfold predI; rw [if_neg t0, if_neg t1, if_neg t2, hr', hp', hq']
  generalize i % W = m at *
  have hpI : (p : Int) < n := by omega
  have hqI : (q : Int) < n := by omega
  have hrI : (r : Int) < n := by omega
  obtain ⟨x, hx⟩ : ∃ x, px.getD p 0 = x := ⟨_, rfl⟩
  obtain ⟨y, hy⟩ : ∃ y, px.getD q 0 = y := ⟨_, rfl⟩
  obtain ⟨z, hz⟩ : ∃ z, px.getD r 0 = z := ⟨_, rfl⟩
  have bx := hv.get (by omega) p
  have bY := hv.get (by omega) q
  have bz := hv.get (by omega) r
  rw [hx] at c1 bx HF
  rw [hy] at c2 bY HF
  rw [hz] at c3 bz HF
  have HF := Lib.hid HF
  clear hx hy hz hv
  clear hr' hp' hq' hr
  by_cases s1 : max x y ≤ z
  · have HM := Lib.hid (show midI x y z = min x y by unfold midI; rw [if_pos s1])
    go_enter Try.func59, Try.ntmps59
    go_wp2
    go_quiet (fail)
    go_wp2
    all_goals (go_ret; exact ⟨by rw [HM.out]; first | rfl | (simp; omega), below_drewN (Below.refl _ _) _⟩)
  by_cases s2 : z ≤ min x y
  · have HM := Lib.hid (show midI x y z = max x y by unfold midI; rw [if_neg s1, if_pos s2])
    go_enter Try.func59, Try.ntmps59
    go_wp2
    go_quiet (fail)
    go_wp2
    all_goals (go_ret; exact ⟨by rw [HM.out]; first | rfl | (simp; omega), below_drewN (Below.refl _ _) _⟩)
  have HM := Lib.hid (show midI x y z = x + y - z by unfold midI; rw [if_neg s1, if_neg s2])
  go_enter Try.func59, Try.ntmps59
  go_wp2
  go_quiet (fail)
  go_wp2
  all_goals (go_ret; exact ⟨by rw [HM.out]; first | rfl | (simp; omega), below_drewN (Below.refl _ _) _⟩)
set_option maxRecDepth 100000 in
set_option maxHeartbeats 1000000 in
theorem prediction_q {w : World} {A : Option Addr} {n c : Nat} {px : List Int} (hr : IRow w A px) (hn : n = px.length) (W i u v : Nat) (hW : 1 ≤ W ∧ W ≤ 64) (hi : i < n ∨ i = n) (hl : n ≤ 4096) (hv : Grey 65535 px)
    (hu : u < W) (hvv : v ≤ 4096) (hiu : i = v * W + u) :
    Calls Try.prog 61 #[.slice A n c, .int .i64 (W : Nat), .int .i64 (u : Nat), .int .i64 (v : Nat)] w fun e w' => e = .returned (.int .i64 (predI px W i)) ∧ ∃ n, w' = w.drewN n := by
  have hlI : (n : Int) ≤ 4096 := by omega
  have hWI : (1 : Int) ≤ W ∧ (W : Int) ≤ 64 := by omega
  have hiI : (i : Int) ≤ n := by omega
  have hvW : v * W ≤ i := by omega
  have huI : (u : Int) < W := by omega
  have hmod : i % W = u := by rw [hiu, Nat.add_comm, Nat.add_mul_mod_self_right, Nat.mod_eq_of_lt hu]
  by_cases t0 : v = 0
  · subst t0
    obtain rfl : i = u := by omega
    clear hiu hmod hvW
    by_cases t1 : i = 0
    · subst t1
      go_enter Try.func61, Try.ntmps61
      go_wp2
      go_ret
      exact ⟨by unfold predI; rw [if_pos rfl]; rfl, 0, rfl⟩
    have z0 : ((i : Int) == 0) = false := by simp; omega
    obtain ⟨p, hp⟩ : ∃ p : Nat, (i : Int) - 1 = p := ⟨i - 1, by omega⟩
    have hp' : i - 1 = p := by omega
    obtain ⟨b, o, rfl, c1⟩ := hr.at (j := p) (by omega)
    have HF := Lib.hid (show predI px W i = px.getD p 0 by unfold predI; rw [if_neg (by omega), if_pos (by omega), hp'])
    clear hp' hr
    generalize px.getD p 0 = x at *
    go_enter Try.func61, Try.ntmps61
    go_wp2
    go_ret
    exact ⟨by rw [HF.out]; rfl, 0, rfl⟩
  have hWv : W ≤ v * W := Nat.le_mul_of_pos_left _ (by omega)
  obtain ⟨m, hm⟩ : ∃ m : Nat, v * W = m := ⟨_, rfl⟩
  have em : (v : Int) * W = (m : Int) := by rw [← hm]; push_cast; rfl
  rw [hm] at hiu hvW hWv
  have ei : (m : Int) + u = (i : Int) := by omega
  have hmI : (m : Int) ≤ 4096 := by omega
  have hvI : (v : Int) ≤ 4096 := by omega
  have zv : ((v : Int) == 0) = false := by simp; omega
  obtain ⟨q, hq⟩ : ∃ q : Nat, (i : Int) - W = q := ⟨i - W, by omega⟩
  have hq' : i - W = q := by omega
  by_cases t1 : u = 0
  · obtain ⟨b, o, rfl, c1⟩ := hr.at (j := q) (by omega)
    have HF := Lib.hid (show predI px W i = px.getD q 0 by unfold predI; rw [if_neg (by omega), if_neg (by omega), if_pos (by omega), hq'])
    subst t1
    obtain rfl : i = m := by omega
    clear hq' hr hiu hm ei hmod hvW hWv
    generalize px.getD q 0 = x at *
    go_enter Try.func61, Try.ntmps61
    go_wp2
    go_ret
    exact ⟨by rw [HF.out]; rfl, 0, rfl⟩
  have zu : ((u : Int) == 0) = false := by simp; omega
  obtain ⟨p, hp⟩ : ∃ p : Nat, (i : Int) - 1 = p := ⟨i - 1, by omega⟩
  have hp' : i - 1 = p := by omega
  obtain ⟨r, hr1⟩ : ∃ r : Nat, (q : Int) - 1 = r := ⟨q - 1, by omega⟩
  have hr' : i - W - 1 = r := by omega
  obtain ⟨b, o, rfl, c1⟩ := hr.at (j := p) (by omega)
  obtain ⟨b2, o2, e2, c2⟩ := hr.at (j := q) (by omega)
  obtain ⟨b3, o3, e3, c3⟩ := hr.at (j := r) (by omega)
  cases e2
  cases e3
  have HF : predI px W i = midI (px.getD p 0) (px.getD q 0) (px.getD r 0) := by unfold predI; rw [if_neg (by omega), if_neg (by omega), if_neg (by omega), hr', hp', hq']
  have hpI : (p : Int) < n := by omega
  have hqI : (q : Int) < n := by omega
  have hrI : (r : Int) < n := by omega
  obtain ⟨x, hx⟩ : ∃ x, px.getD p 0 = x := ⟨_, rfl⟩
  obtain ⟨y, hy⟩ : ∃ y, px.getD q 0 = y := ⟨_, rfl⟩
  obtain ⟨z, hz⟩ : ∃ z, px.getD r 0 = z := ⟨_, rfl⟩
  have bx := hv.get (by omega) p
  have bY := hv.get (by omega) q
  have bz := hv.get (by omega) r
  rw [hx] at c1 bx HF
  rw [hy] at c2 bY HF
  rw [hz] at c3 bz HF
  have HF := Lib.hid HF
  clear hx hy hz hv
  clear hr' hp' hq' hr hiu hm hmod hvW hWv
  by_cases s1 : max x y ≤ z
  · have HM := Lib.hid (show midI x y z = min x y by unfold midI; rw [if_pos s1])
    go_enter Try.func61, Try.ntmps61
    go_wp2
    go_quiet (fail)
    go_wp2
    all_goals (go_ret; exact ⟨by rw [HM.out]; first | rfl | (simp; omega), _, rfl⟩)
  by_cases s2 : z ≤ min x y
  · have HM := Lib.hid (show midI x y z = max x y by unfold midI; rw [if_neg s1, if_pos s2])
    go_enter Try.func61, Try.ntmps61
    go_wp2
    go_quiet (fail)
    go_wp2
    all_goals (go_ret; exact ⟨by rw [HM.out]; first | rfl | (simp; omega), _, rfl⟩)
  have HM := Lib.hid (show midI x y z = x + y - z by unfold midI; rw [if_neg s1, if_neg s2])
  go_enter Try.func61, Try.ntmps61
  go_wp2
  go_quiet (fail)
  go_wp2
  all_goals (go_ret; exact ⟨by rw [HM.out]; first | rfl | (simp; omega), _, rfl⟩)
theorem prediction_any {w : World} {A : Option Addr} {n c : Nat} {px : List Int} (hr : IRow w A px) (hn : n = px.length) (W i u v : Nat) (hW : 1 ≤ W ∧ W ≤ 64) (hi : i < n ∨ i = n) (hl : n ≤ 4096) (hv : Grey 65535 px)
    (hu : u < W) (hvv : v ≤ 4096) (hiu : i = v * W + u) :
    Calls Try.prog 61 #[.slice A n c, .int .i64 (W : Nat), .int .i64 (u : Nat), .int .i64 (v : Nat)] w fun e w' => e = .returned (.int .i64 (predI px W i)) ∧ Keeps w w' :=
  (prediction_q hr hn W i u v hW hi hl hv hu hvv hiu).mono fun _ _ ⟨h, n, e⟩ => ⟨h, e ▸ below_drewN (Below.refl _ _) n⟩
end Go.Proofs.Ytbkcnhbdjllojaa
