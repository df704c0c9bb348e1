/- Rasters turned and mirrored, and their scores, plainly. No program in sight. -/
import Derived.Test.YtecibfncnaccjaaChk
namespace Go.Proofs.Ytecibfncnaccjaa

def pxL (l : List Int) (W x y : Nat) : Int := l.getD (y * W + x) 0
def madeL (W H : Nat) (f : Nat → Nat → Int) : List Int := (List.range (W * H)).map fun k => f (k % W) (k / W)
theorem madeL_length (W H : Nat) (f : Nat → Nat → Int) : (madeL W H f).length = W * H := by simp [madeL]
theorem idx_lt {W H x y : Nat} (hx : x < W) (hy : y < H) : y * W + x < W * H := by
  have h1 : (y + 1) * W ≤ H * W := Nat.mul_le_mul_right W hy
  rw [Nat.add_mul, Nat.one_mul] at h1
  rw [Nat.mul_comm W H]
  omega
theorem idx_mod {W x y : Nat} (hx : x < W) : (y * W + x) % W = x := by
  rw [Nat.add_comm, Nat.add_mul_mod_self_right, Nat.mod_eq_of_lt hx]
theorem idx_div {W x y : Nat} (hx : x < W) : (y * W + x) / W = y := by
  rw [Nat.add_comm, Nat.add_mul_div_right _ _ (by omega), Nat.div_eq_of_lt hx, Nat.zero_add]
theorem madeL_getD (W H : Nat) (f : Nat → Nat → Int) {k : Nat} (hk : k < W * H) : (madeL W H f).getD k 0 = f (k % W) (k / W) := by
  simp [madeL, List.getD, hk]
theorem pxL_made {W H x y : Nat} (f : Nat → Nat → Int) (hx : x < W) (hy : y < H) : pxL (madeL W H f) W x y = f x y := by
  rw [pxL, madeL_getD W H f (idx_lt hx hy), idx_mod hx, idx_div hx]
theorem madeL_ext {W H : Nat} {l : List Int} (hl : l.length = W * H) : madeL W H (pxL l W) = l := by
  apply List.ext_getElem
  · rw [madeL_length, hl]
  · intro k h1 h2
    have hk : k < W * H := by rw [madeL_length] at h1; exact h1
    have h3 := madeL_getD W H (pxL l W) hk
    rw [List.getD, List.getElem?_eq_getElem h1, Option.getD_some] at h3
    rw [h3, pxL]
    have h4 : k / W * W + k % W = k := by rw [Nat.mul_comm]; exact Nat.div_add_mod k W
    rw [h4, List.getD, List.getElem?_eq_getElem h2, Option.getD_some]
theorem madeL_congr {W H : Nat} {f g : Nat → Nat → Int} (h : ∀ x y, x < W → y < H → f x y = g x y) : madeL W H f = madeL W H g := by
  unfold madeL
  apply List.map_congr_left
  intro k hk
  have hk := List.mem_range.1 hk
  have hW : 0 < W := Nat.pos_of_ne_zero fun e => by rw [e] at hk; simp at hk
  exact h _ _ (Nat.mod_lt _ hW) (Nat.div_lt_of_lt_mul hk)
/-- turned by a quarter: a raster of the width H and the height W -/
def turnL (W H : Nat) (l : List Int) : List Int := madeL H W fun x y => pxL l W (W - 1 - y) x
def mirL (W H : Nat) (l : List Int) : List Int := madeL W H fun x y => pxL l W (W - 1 - x) y
theorem pxL_turn {W H x y : Nat} (l : List Int) (hx : x < H) (hy : y < W) : pxL (turnL W H l) H x y = pxL l W (W - 1 - y) x := pxL_made _ hx hy
theorem pxL_mir {W H x y : Nat} (l : List Int) (hx : x < W) (hy : y < H) : pxL (mirL W H l) W x y = pxL l W (W - 1 - x) y := pxL_made _ hx hy
theorem turn4 {W H : Nat} {l : List Int} (hl : l.length = W * H) : turnL H W (turnL W H (turnL H W (turnL W H l))) = l := by
  rw [show turnL H W (turnL W H (turnL H W (turnL W H l))) = madeL W H (pxL l W) from madeL_congr fun x y hx hy => by
    rw [pxL_turn _ (by omega) hx, pxL_turn _ (by omega) (by omega), pxL_turn _ (by omega) (by omega)]
    congr 1 <;> omega]
  exact madeL_ext hl
def gX (p : Nat → Nat → Int) (i j : Nat) : Int := p (i + 1) j - p (i - 1) j
def gY (p : Nat → Nat → Int) (i j : Nat) : Int := p i (j + 1) - p i (j - 1)
/-- the sums over the first cells of nine -/
def sA (p : Nat → Nat → Int) (x y : Nat) : Nat → Int
  | 0 => 0
  | n + 1 => sA p x y n + gX p (x - 1 + n % 3) (y - 1 + n / 3) * gX p (x - 1 + n % 3) (y - 1 + n / 3)
def sB (p : Nat → Nat → Int) (x y : Nat) : Nat → Int
  | 0 => 0
  | n + 1 => sB p x y n + gX p (x - 1 + n % 3) (y - 1 + n / 3) * gY p (x - 1 + n % 3) (y - 1 + n / 3)
def sC (p : Nat → Nat → Int) (x y : Nat) : Nat → Int
  | 0 => 0
  | n + 1 => sC p x y n + gY p (x - 1 + n % 3) (y - 1 + n / 3) * gY p (x - 1 + n % 3) (y - 1 + n / 3)
def scoV (a b c : Int) : Int := 25 * (a * c - b * b) - (a + c) * (a + c)
def scP (p : Nat → Nat → Int) (x y : Nat) : Int := scoV (sA p x y 9) (sB p x y 9) (sC p x y 9)
def inI (W H x y : Nat) : Bool := decide (2 ≤ x ∧ x + 2 < W ∧ 2 ≤ y ∧ y + 2 < H)
/-- the scores of all pixels before the n-th -/
def scoN (W H : Nat) (l : List Int) (n : Nat) : List Int := madeL W H fun x y => if decide (y * W + x < n) && inI W H x y then scP (pxL l W) x y else 0
def scoL (W H : Nat) (l : List Int) : List Int := madeL W H fun x y => if inI W H x y then scP (pxL l W) x y else 0
theorem scoN_all (W H : Nat) (l : List Int) {n : Nat} (hn : W * H ≤ n) : scoN W H l n = scoL W H l := madeL_congr fun x y hx hy => by
  rw [decide_eq_true (Nat.lt_of_lt_of_le (idx_lt hx hy) hn), Bool.true_and]
theorem scoV_flip (a b c : Int) : scoV c (-b) a = scoV a b c := by
  unfold scoV
  rw [Int.mul_comm c a, Int.neg_mul_neg, Int.add_comm c a]
theorem scoV_neg (a b c : Int) : scoV a (-b) c = scoV a b c := by
  unfold scoV
  rw [Int.neg_mul_neg]
theorem sA9 (p : Nat → Nat → Int) (a b : Nat) : sA p (a + 2) (b + 2) 9 = gX p (a + 1) (b + 1) * gX p (a + 1) (b + 1) + gX p (a + 2) (b + 1) * gX p (a + 2) (b + 1) + gX p (a + 3) (b + 1) * gX p (a + 3) (b + 1) + gX p (a + 1) (b + 2) * gX p (a + 1) (b + 2) + gX p (a + 2) (b + 2) * gX p (a + 2) (b + 2) + gX p (a + 3) (b + 2) * gX p (a + 3) (b + 2) + gX p (a + 1) (b + 3) * gX p (a + 1) (b + 3) + gX p (a + 2) (b + 3) * gX p (a + 2) (b + 3) + gX p (a + 3) (b + 3) * gX p (a + 3) (b + 3) := by
  simp [sA]
theorem sB9 (p : Nat → Nat → Int) (a b : Nat) : sB p (a + 2) (b + 2) 9 = gX p (a + 1) (b + 1) * gY p (a + 1) (b + 1) + gX p (a + 2) (b + 1) * gY p (a + 2) (b + 1) + gX p (a + 3) (b + 1) * gY p (a + 3) (b + 1) + gX p (a + 1) (b + 2) * gY p (a + 1) (b + 2) + gX p (a + 2) (b + 2) * gY p (a + 2) (b + 2) + gX p (a + 3) (b + 2) * gY p (a + 3) (b + 2) + gX p (a + 1) (b + 3) * gY p (a + 1) (b + 3) + gX p (a + 2) (b + 3) * gY p (a + 2) (b + 3) + gX p (a + 3) (b + 3) * gY p (a + 3) (b + 3) := by
  simp [sB]
theorem sC9 (p : Nat → Nat → Int) (a b : Nat) : sC p (a + 2) (b + 2) 9 = gY p (a + 1) (b + 1) * gY p (a + 1) (b + 1) + gY p (a + 2) (b + 1) * gY p (a + 2) (b + 1) + gY p (a + 3) (b + 1) * gY p (a + 3) (b + 1) + gY p (a + 1) (b + 2) * gY p (a + 1) (b + 2) + gY p (a + 2) (b + 2) * gY p (a + 2) (b + 2) + gY p (a + 3) (b + 2) * gY p (a + 3) (b + 2) + gY p (a + 1) (b + 3) * gY p (a + 1) (b + 3) + gY p (a + 2) (b + 3) * gY p (a + 2) (b + 3) + gY p (a + 3) (b + 3) * gY p (a + 3) (b + 3) := by
  simp [sC]
/-- a pixel's score lasts where its raster is turned -/
theorem scP_turn (p q : Nat → Nat → Int) (a b c : Nat) (h : ∀ i j, i ≤ b + 4 → j ≤ c + 4 → q i j = p (a + c + 4 - j) i) : scP q (b + 2) (c + 2) = scP p (a + 2) (b + 2) := by
  have h1 : ∀ r t, r < 3 → t < 3 → gX q (b + 1 + r) (c + 1 + t) = gY p (a + 3 - t) (b + 1 + r) := fun r t hr ht => by
    unfold gX gY
    rw [h _ _ (by omega) (by omega), h _ _ (by omega) (by omega), show a + c + 4 - (c + 1 + t) = a + 3 - t by omega]
  have h2 : ∀ r t, r < 3 → t < 3 → gY q (b + 1 + r) (c + 1 + t) = -gX p (a + 3 - t) (b + 1 + r) := fun r t hr ht => by
    unfold gX gY
    rw [h _ _ (by omega) (by omega), h _ _ (by omega) (by omega), show a + c + 4 - (c + 1 + t + 1) = a + 3 - t - 1 by omega, show a + c + 4 - (c + 1 + t - 1) = a + 3 - t + 1 by omega]
    omega
  have x00 := h1 0 0 (by omega) (by omega)
  have x01 := h1 0 1 (by omega) (by omega)
  have x02 := h1 0 2 (by omega) (by omega)
  have x10 := h1 1 0 (by omega) (by omega)
  have x11 := h1 1 1 (by omega) (by omega)
  have x12 := h1 1 2 (by omega) (by omega)
  have x20 := h1 2 0 (by omega) (by omega)
  have x21 := h1 2 1 (by omega) (by omega)
  have x22 := h1 2 2 (by omega) (by omega)
  have y00 := h2 0 0 (by omega) (by omega)
  have y01 := h2 0 1 (by omega) (by omega)
  have y02 := h2 0 2 (by omega) (by omega)
  have y10 := h2 1 0 (by omega) (by omega)
  have y11 := h2 1 1 (by omega) (by omega)
  have y12 := h2 1 2 (by omega) (by omega)
  have y20 := h2 2 0 (by omega) (by omega)
  have y21 := h2 2 1 (by omega) (by omega)
  have y22 := h2 2 2 (by omega) (by omega)
  simp only [Nat.add_zero, show b + 1 + 1 = b + 2 from rfl, show b + 1 + 2 = b + 3 from rfl, show c + 1 + 1 = c + 2 from rfl, show c + 1 + 2 = c + 3 from rfl, show a + 3 - 0 = a + 3 from rfl, show a + 3 - 1 = a + 2 from rfl, show a + 3 - 2 = a + 1 from rfl] at x00 x01 x02 x10 x11 x12 x20 x21 x22 y00 y01 y02 y10 y11 y12 y20 y21 y22
  have eA : sA q (b + 2) (c + 2) 9 = sC p (a + 2) (b + 2) 9 := by
    rw [sA9, sC9, x00, x01, x02, x10, x11, x12, x20, x21, x22]
    omega
  have eC : sC q (b + 2) (c + 2) 9 = sA p (a + 2) (b + 2) 9 := by
    rw [sA9, sC9, y00, y01, y02, y10, y11, y12, y20, y21, y22]
    simp only [Int.neg_mul_neg]
    omega
  have eB : sB q (b + 2) (c + 2) 9 = -sB p (a + 2) (b + 2) 9 := by
    rw [sB9, sB9, x00, x01, x02, x10, x11, x12, x20, x21, x22, y00, y01, y02, y10, y11, y12, y20, y21, y22]
    simp only [Int.mul_neg, Int.mul_comm (gY p _ _) (gX p _ _)]
    omega
  unfold scP
  rw [eA, eB, eC, scoV_flip]
/-- and where it is mirrored -/
theorem scP_mir (p q : Nat → Nat → Int) (a b c : Nat) (h : ∀ i j, i ≤ c + 4 → j ≤ b + 4 → q i j = p (a + c + 4 - i) j) : scP q (c + 2) (b + 2) = scP p (a + 2) (b + 2) := by
  have h1 : ∀ r t, r < 3 → t < 3 → gX q (c + 1 + r) (b + 1 + t) = -gX p (a + 3 - r) (b + 1 + t) := fun r t hr ht => by
    unfold gX
    rw [h _ _ (by omega) (by omega), h _ _ (by omega) (by omega), show a + c + 4 - (c + 1 + r + 1) = a + 3 - r - 1 by omega, show a + c + 4 - (c + 1 + r - 1) = a + 3 - r + 1 by omega]
    omega
  have h2 : ∀ r t, r < 3 → t < 3 → gY q (c + 1 + r) (b + 1 + t) = gY p (a + 3 - r) (b + 1 + t) := fun r t hr ht => by
    unfold gY
    rw [h _ _ (by omega) (by omega), h _ _ (by omega) (by omega), show a + c + 4 - (c + 1 + r) = a + 3 - r by omega]
  have x00 := h1 0 0 (by omega) (by omega)
  have x01 := h1 0 1 (by omega) (by omega)
  have x02 := h1 0 2 (by omega) (by omega)
  have x10 := h1 1 0 (by omega) (by omega)
  have x11 := h1 1 1 (by omega) (by omega)
  have x12 := h1 1 2 (by omega) (by omega)
  have x20 := h1 2 0 (by omega) (by omega)
  have x21 := h1 2 1 (by omega) (by omega)
  have x22 := h1 2 2 (by omega) (by omega)
  have y00 := h2 0 0 (by omega) (by omega)
  have y01 := h2 0 1 (by omega) (by omega)
  have y02 := h2 0 2 (by omega) (by omega)
  have y10 := h2 1 0 (by omega) (by omega)
  have y11 := h2 1 1 (by omega) (by omega)
  have y12 := h2 1 2 (by omega) (by omega)
  have y20 := h2 2 0 (by omega) (by omega)
  have y21 := h2 2 1 (by omega) (by omega)
  have y22 := h2 2 2 (by omega) (by omega)
  simp only [Nat.add_zero, show b + 1 + 1 = b + 2 from rfl, show b + 1 + 2 = b + 3 from rfl, show c + 1 + 1 = c + 2 from rfl, show c + 1 + 2 = c + 3 from rfl, show a + 3 - 0 = a + 3 from rfl, show a + 3 - 1 = a + 2 from rfl, show a + 3 - 2 = a + 1 from rfl] at x00 x01 x02 x10 x11 x12 x20 x21 x22 y00 y01 y02 y10 y11 y12 y20 y21 y22
  have eA : sA q (c + 2) (b + 2) 9 = sA p (a + 2) (b + 2) 9 := by
    rw [sA9, sA9, x00, x01, x02, x10, x11, x12, x20, x21, x22]
    simp only [Int.neg_mul_neg]
    omega
  have eC : sC q (c + 2) (b + 2) 9 = sC p (a + 2) (b + 2) 9 := by
    rw [sC9, sC9, y00, y01, y02, y10, y11, y12, y20, y21, y22]
    omega
  have eB : sB q (c + 2) (b + 2) 9 = -sB p (a + 2) (b + 2) 9 := by
    rw [sB9, sB9, x00, x01, x02, x10, x11, x12, x20, x21, x22, y00, y01, y02, y10, y11, y12, y20, y21, y22]
    simp only [Int.neg_mul]
    omega
  unfold scP
  rw [eA, eB, eC, scoV_neg]
/-- the scores of a turned raster are the turned scores -/
theorem scoL_turn {W H x y : Nat} (l : List Int) (hx : x < W) (hy : y < H) : pxL (scoL H W (turnL W H l)) H y (W - 1 - x) = pxL (scoL W H l) W x y := by
  unfold scoL
  rw [pxL_made _ hy (by omega), pxL_made _ hx hy]
  by_cases hi : inI W H x y = true
  · have h1 : 2 ≤ x ∧ x + 2 < W ∧ 2 ≤ y ∧ y + 2 < H := of_decide_eq_true hi
    have h9 : inI H W y (W - 1 - x) = true := decide_eq_true (by omega)
    rw [if_pos hi, if_pos h9]
    clear h9
    obtain ⟨a, rfl⟩ : ∃ a, x = a + 2 := ⟨x - 2, by omega⟩
    obtain ⟨b, rfl⟩ : ∃ b, y = b + 2 := ⟨y - 2, by omega⟩
    obtain ⟨c, rfl⟩ : ∃ c, W = a + c + 5 := ⟨W - a - 5, by omega⟩
    rw [show a + c + 5 - 1 - (a + 2) = c + 2 by omega]
    exact scP_turn _ _ a b c fun i j hi hj => by
      rw [pxL_turn _ (by omega) (by omega), show a + c + 5 - 1 - j = a + c + 4 - j by omega]
  · rw [if_neg hi, if_neg]
    intro h2
    have h3 : 2 ≤ y ∧ y + 2 < H ∧ 2 ≤ W - 1 - x ∧ W - 1 - x + 2 < W := of_decide_eq_true h2
    exact hi (decide_eq_true (by omega))
theorem scoL_mir {W H x y : Nat} (l : List Int) (hx : x < W) (hy : y < H) : pxL (scoL W H (mirL W H l)) W (W - 1 - x) y = pxL (scoL W H l) W x y := by
  unfold scoL
  rw [pxL_made _ (by omega) hy, pxL_made _ hx hy]
  by_cases hi : inI W H x y = true
  · have h1 : 2 ≤ x ∧ x + 2 < W ∧ 2 ≤ y ∧ y + 2 < H := of_decide_eq_true hi
    have h9 : inI W H (W - 1 - x) y = true := decide_eq_true (by omega)
    rw [if_pos hi, if_pos h9]
    clear h9
    obtain ⟨a, rfl⟩ : ∃ a, x = a + 2 := ⟨x - 2, by omega⟩
    obtain ⟨b, rfl⟩ : ∃ b, y = b + 2 := ⟨y - 2, by omega⟩
    obtain ⟨c, rfl⟩ : ∃ c, W = a + c + 5 := ⟨W - a - 5, by omega⟩
    rw [show a + c + 5 - 1 - (a + 2) = c + 2 by omega]
    exact scP_mir _ _ a b c fun i j hi hj => by
      rw [pxL_mir _ (by omega) (by omega), show a + c + 5 - 1 - i = a + c + 4 - i by omega]
  · rw [if_neg hi, if_neg]
    intro h2
    have h3 : 2 ≤ W - 1 - x ∧ W - 1 - x + 2 < W ∧ 2 ≤ y ∧ y + 2 < H := of_decide_eq_true h2
    exact hi (decide_eq_true (by omega))
end Go.Proofs.Ytecibfncnaccjaa
