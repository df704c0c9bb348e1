/- Blocks that a call may turn; rows of its own that grow. No program in sight. Lists of fractions in memory. No program in sight. strconv.ParseUint of at most nine characters, and strconv.Atoi of any text: what they give. The insertion sort of ints by a function of two ints, plainly. No program in sight. report.positive: the walk. slices.ContainsFunc of fractions; report.Histogram's test: the walks. A strings.Builder beside other boxes of the call: what is of another type than bytes stays. Predictions and residuals: the walks of the small functions, the program's and the document's. The residuals of a raster: the walks. Where a statistic belongs among edges, plainly. No program in sight. -/
import Derived.Test.YtgcigdahjabimaaGreatDoorPr3
import Derived.Maps.AppendAt
import Derived.Test.YtgcigdahjabimaaGreatDoorPr27
import Derived.Test.YtgcigdahjabimaaGreatDoorPr1
import Derived.Test.YtgcigdahjabimaaGreatDoorPr9
import Derived.Lib.SmallJoins
import Derived.Test.YtgcigdahjabimaaGreatDoorPr21
import Derived.Test.YtgcigdahjabimaaGreatDoorPr24
import Derived.Test.YtgcigdahjabimaaGreatDoorProg
import Derived.Shelf.Abstract
import Derived.Shelf.RegionOpen
import Derived.Deep.DeepCutAuto
import Derived.Deep.LoopGhost
namespace Go.Proofs.YtgcigdahjabimaaGreatDoor
open Go.RowKit

structure Turn (T : List Nat) (w w' : World) : Prop where
 os : w'.os = w.os
 tape : w'.tape = w.tape
 output : w'.output = w.output
 size : w.heap.size ≤ w'.heap.size
 block : ∀ k, k < w.heap.size → k ∉ T → w'.heap[k]? = w.heap[k]?
abbrev blkOf (v : Value) : List Nat := v.ownBlock.toList
section
variable {T T' : List Nat} {w w' w1 : World} {B : Nat}
theorem Turn.of_below (h : Below B w w') (hT : ∀ k, k < w.heap.size → B ≤ k → k ∈ T) : Turn T w w' :=
 ⟨h.os, h.tape, h.output, h.size, fun k hk hn => h.block k (Nat.lt_of_not_le fun hB => hn (hT k hk hB))⟩
theorem Turn.of_keeps (h : Keeps w w') : Turn T w w' := .of_below h fun _ h1 h2 => absurd h1 (by omega)
theorem Turn.refl (w : World) : Turn T w w := ⟨rfl, rfl, rfl, Nat.le_refl _, fun _ _ _ => rfl⟩
theorem Turn.below (h : Turn T w w') (hT : ∀ k ∈ T, B ≤ k) (hB : B ≤ w.heap.size) : Below B w w' :=
 ⟨h.os, h.tape, h.output, h.size, fun k hk => h.block k (by omega) fun hm => by have := hT k hm; omega⟩
theorem Turn.keeps (h : Turn T w w') (hT : ∀ k ∈ T, w.heap.size ≤ k) : Keeps w w' := h.below hT (Nat.le_refl _)
theorem Turn.trans (h : Turn T w w1) (h1 : Turn T' w1 w') (hT : ∀ k ∈ T', k < w.heap.size → k ∈ T) : Turn T w w' :=
 ⟨h1.os.trans h.os, h1.tape.trans h.tape, h1.output.trans h.output, Nat.le_trans h.size h1.size, fun k hk hn =>
  (h1.block k (Nat.lt_of_lt_of_le hk h.size) fun hm => hn (hT k hm hk)).trans (h.block k hk hn)⟩
theorem Turn.mono (h : Turn T w w') (hT : ∀ k ∈ T, k ∈ T') : Turn T' w w' :=
 ⟨h.os, h.tape, h.output, h.size, fun k hk hn => h.block k hk fun hm => hn (hT k hm)⟩
theorem Turn.set (h : Turn T w w') {p : Addr} (hp : p.block ∈ T) (u : Value) : Turn T w (w'.setCell p u) :=
 ⟨h.os, h.tape, h.output, by simpa [World.setCell] using h.size, fun k hk hn =>
  (Below.heap_setCell w' p u k (fun e => hn (e ▸ hp))).trans (h.block k hk hn)⟩
theorem Turn.alloc (h : Turn T w w') (o : Obj) : Turn T w (w'.alloc o) :=
 h.trans (T' := []) (Turn.of_keeps (bl.alloc (Nat.le_refl _) _)) (by simp)
theorem Turn.drew (h : Turn T w w') : Turn T w w'.drew := ⟨h.os, h.tape, h.output, h.size, h.block⟩
theorem Turn.drewN (h : Turn T w w') (n : Nat) : Turn T w (w'.drewN n) := ⟨h.os, h.tape, h.output, h.size, h.block⟩
theorem Turn.of_grown {v : Value} (h : w.grownBy w' v.ownBlock) : Turn (blkOf v) w w' :=
 ⟨h.os, h.tape, h.output, h.size, fun k hk hn => h.block k hk fun e => hn (by rw [blkOf, ← e]; simp)⟩
theorem Own.turn {b : Nat} {t : TypeId} {vs : List Value} (h : Own w b t vs) (ht : Turn T w w') (hb : b ∉ T) : Own w' b t vs := (ht.block b h.lt hb).trans h
section
variable {base : Nat} {e : TypeId} {size : Nat} {v : Value} {n : Nat} {xs : List Value}
theorem _root_.Go.World.ownsRow.turn (h : w.ownsRow base e size v n xs) (ht : Turn T w w') (hv : ∀ k ∈ blkOf v, k ∉ T) : w'.ownsRow base e size v n xs := by
 obtain ⟨hl, ⟨rfl, rfl⟩ | ⟨g, cap, cur, rfl, hb, hg, hr⟩⟩ := h
 ·exact ⟨hl, .inl ⟨rfl, rfl⟩⟩
 ·have hlt : g < w.heap.size := (Array.getElem?_eq_some_iff.1 hg).1
  exact ⟨hl, .inr ⟨g, cap, cur, rfl, hb, (ht.block g hlt (hv g (by simp [blkOf, Value.ownBlock]))).trans hg, hr⟩⟩
theorem _root_.Go.World.ownsRow.keeps (h : w.ownsRow base e size v n xs) (hk : Keeps w w') : w'.ownsRow base e size v n xs := h.turn (Turn.of_keeps (T := []) hk) (by simp)
theorem _root_.Go.World.ownsRow.down {base' : Nat} (h : w.ownsRow base e size v n xs) (hb : base' ≤ base) : w.ownsRow base' e size v n xs := by
 obtain ⟨hl, h | ⟨g, cap, cur, rfl, hb', hr⟩⟩ := h
 ·exact ⟨hl, .inl h⟩
 ·exact ⟨hl, .inr ⟨g, cap, cur, rfl, Nat.le_trans hb hb', hr⟩⟩
theorem _root_.Go.World.ownsRow.sl (h : w.ownsRow base e size v n xs) : ∃ A c, v = .slice A n c ∧ n ≤ c ∧ c ≤ maxLen ∧ (A = none → c = 0) := by
 obtain ⟨hl, ⟨rfl, rfl⟩ | ⟨g, cap, cur, rfl, hb, hg, h1, h2, hr⟩⟩ := h
 ·exact ⟨none, 0, rfl, Nat.le_refl _, by simp [maxLen], fun _ => rfl⟩
 ·exact ⟨_, cap, rfl, h1, h2, fun e => by cases e⟩
theorem _root_.Go.World.ownsRow.lo (h : w.ownsRow base e size v n xs) : ∀ k ∈ blkOf v, base ≤ k ∧ k < w.heap.size := fun k hk => by
 simp only [blkOf, Option.mem_toList] at hk
 exact h.lt k hk
end
end
def at' (xs : List Value) (j : Nat) : Value := xs.getD j undef
abbrev Cells (w : World) (A : Option Addr) (xs : List Value) : Prop := Row w A xs.length (at' xs)
theorem at'_get {xs : List Value} {j : Nat} {v : Value} (h : xs[j]? = some v) : at' xs j = v := by simp [at', h]
theorem Cells.get {w : World} {A : Option Addr} {xs : List Value} (h : Cells w A xs) {j : Nat} {v : Value} (hj : xs[j]? = some v) : ∃ b o, A = some ⟨b, o, none⟩ ∧ b < w.heap.size ∧ w.cell? ⟨b, o + j, none⟩ = some v := by
 have hlt := (List.getElem?_eq_some_iff.1 hj).1
 obtain ⟨b, o, e, hb, hc⟩ := h (by omega)
 exact ⟨b, o, e, hb, by rw [hc j hlt, at'_get hj]⟩
theorem _root_.Go.World.ownsRow.cells' {w : World} {base : Nat} {e : TypeId} {size : Nat} {A : Option Addr} {n c : Nat} {xs : List Value} (h : w.ownsRow base e size (.slice A n c) n xs) : Cells w A xs := fun hp => by
 obtain ⟨hl, ⟨h1, rfl⟩ | ⟨g, cap, cur, h1, hb, hg, h2, h3, h4, h5⟩⟩ := h
 ·omega
 ·cases h1
  refine ⟨g, 0, rfl, (Array.getElem?_eq_some_iff.1 hg).1, fun j hj => ?_⟩
  rw [cell_of_row w g (0 + j) cur _ _ hg, Nat.zero_add, at', ← h5]
  have hj2 : j < n * size := by omega
  have hj3 : j < cur.size := by rw [← h5] at hj; simp at hj; omega
  simp [List.getD, hj2, hj3]
end Go.Proofs.YtgcigdahjabimaaGreatDoor
namespace Go.Proofs.YtgcigdahjabimaaGreatDoor
open Go.RowKit Go.Shelf

def Row4 {α : Type} (R : World → Value → α → Prop) (w : World) (A : Option Addr) (l : List α) : Prop :=
 ∀ j x, l[j]? = some x → ∃ B o c0 c1 c2 c3, A = some ⟨B, o, none⟩ ∧ (w.cell? ⟨B, o + j * 4, none⟩ = some c0 ∧ w.cell? ⟨B, o + j * 4 + 1, none⟩ = some c1 ∧ w.cell? ⟨B, o + j * 4 + 2, none⟩ = some c2 ∧ w.cell? ⟨B, o + j * 4 + 3, none⟩ = some c3) ∧ R w (.agg #[c0, c1, c2, c3]) x
def Sl4 {α : Type} (R : World → Value → α → Prop) (w : World) (V : Value) (l : List α) : Prop := ∃ A c, V = .slice A l.length c ∧ l.length ≤ c ∧ c ≤ maxLen ∧ (A = none → c = 0) ∧ Row4 R w A l
def Lasts {α : Type} (R : World → Value → α → Prop) : Prop := ∀ (w w' : World) (V : Value) (x : α), Keeps w w' → R w V x → R w' V x
theorem cell_lt {w : World} {b o : Nat} {v : Value} (h : w.cell? ⟨b, o, none⟩ = some v) : b < w.heap.size := by
 rcases Nat.lt_or_ge b w.heap.size with h1 | h1
 ·exact h1
 ·simp [World.cell?, Array.getElem?_eq_none h1] at h
theorem cell_keep {w w' : World} {b o : Nat} {v : Value} (h : w.cell? ⟨b, o, none⟩ = some v) (hk : Keeps w w') : w'.cell? ⟨b, o, none⟩ = some v :=
 (hk.cell (p := ⟨b, o, none⟩) (cell_lt h)).trans h
section
variable {α : Type} {R : World → Value → α → Prop} {w w' : World} {A : Option Addr} {V : Value} {l : List α}
theorem Row4.below (hR : Lasts R) (h : Row4 R w A l) (hk : Keeps w w') : Row4 R w' A l := fun j x hj => by
 obtain ⟨B, o, c0, c1, c2, c3, rfl, ⟨h0, h1, h2, h3⟩, hx⟩ := h j x hj
 exact ⟨B, o, c0, c1, c2, c3, rfl, ⟨cell_keep h0 hk, cell_keep h1 hk, cell_keep h2 hk, cell_keep h3 hk⟩, hR _ _ _ _ hk hx⟩
theorem Sl4.below (hR : Lasts R) (h : Sl4 R w V l) (hk : Keeps w w') : Sl4 R w' V l := by
 obtain ⟨A, c, rfl, h1, h2, h3, h4⟩ := h
 exact ⟨A, c, rfl, h1, h2, h3, h4.below hR hk⟩
theorem Row4.get (hR : Lasts R) (h : Row4 R w A l) {j : Nat} {x : α} (hj : l[j]? = some x) : ∃ B o c0 c1 c2 c3, A = some ⟨B, o, none⟩ ∧
 (∀ W, Keeps w W → W.cell? ⟨B, o + j * 4, none⟩ = some c0 ∧ W.cell? ⟨B, o + j * 4 + 1, none⟩ = some c1 ∧ W.cell? ⟨B, o + j * 4 + 2, none⟩ = some c2 ∧ W.cell? ⟨B, o + j * 4 + 3, none⟩ = some c3) ∧ ∀ W, Keeps w W → R W (.agg #[c0, c1, c2, c3]) x := by
 obtain ⟨B, o, c0, c1, c2, c3, rfl, ⟨h0, h1, h2, h3⟩, hx⟩ := h j x hj
 exact ⟨B, o, c0, c1, c2, c3, rfl, fun W hk => ⟨cell_keep h0 hk, cell_keep h1 hk, cell_keep h2 hk, cell_keep h3 hk⟩, fun W hk => hR _ _ _ _ hk hx⟩
end
theorem szR_null : szR 0 ≤ 1 := szR_mk (by rw [Rat.zero_num, lenI_zero]; omega) (by rw [Rat.zero_den]; exact lenI_one)
theorem St.onlyL {w0 w : World} {bs : List Bx} {ps : List (World → Prop)} (S : St w0 w bs ps) : St w0 w bs [] := ⟨S.k, S.b, S.lo, S.d, trivial⟩
theorem St.dropb {w0 w : World} {b : Bx} {bs : List Bx} {ps : List (World → Prop)} (S : St w0 w (b :: bs) ps) : St w0 w bs ps :=
 ⟨S.k, S.b.2, fun p hp => S.lo p (List.mem_cons_of_mem _ hp), (List.pairwise_cons.1 S.d).2, S.p⟩
def EnvE (w : World) : Prop := (∃ tp p, w.cell? ⟨1, 0, none⟩ = some (.iface tp p)) ∧ ∃ tp p, w.cell? ⟨2, 0, none⟩ = some (.iface tp p)
theorem EnvE.keep {w w' : World} (h : EnvE w) (hk : Keeps w w') : EnvE w' := by
 obtain ⟨⟨tp, p, h1⟩, tq, q, h2⟩ := h
 exact ⟨⟨tp, p, cell_keep h1 hk⟩, tq, q, cell_keep h2 hk⟩
theorem keeps_bytesWorld {w w' : World} {t : TypeId} {s : ByteArray} (h : w' = w ∨ w' = Lib.bytesWorld w t s) : Keeps w w' := by
 rcases h with rfl | rfl
 ·exact Below.refl _ _
 ·exact Go.Joins.below_bytesWorld _ _ _ _ (Nat.le_refl _)
theorem pu_any {w : World} (s : ByteArray) (h9 : s.size ≤ 9) (he : EnvE w) :
 Calls Tryz.prog 161 #[.string s, .int .i64 10, .int .i64 32] w fun e w' => ∃ ev, e = .returned (.tuple #[.int .u64 (gN s.data.toList : Nat), ev]) ∧ Keeps w w' := by
 have hl : s.data.toList.length ≤ 9 := by rw [Array.length_toList]; exact h9
 cases h : Lib.parseUintB 32 s.data.toList
 case ok u =>
  have hg : gN s.data.toList = u := by unfold gN; rw [h]
  refine (Tryz.strconv_ParseUint_10_at32_ok s (by omega) u h w).mono ?_
  rintro e w' ⟨rfl, hw⟩
  exact ⟨_, by rw [hg], keeps_bytesWorld hw⟩
 case range => exact absurd h (parse_norange hl)
 ·have hg : gN s.data.toList = 0 := by unfold gN; rw [h]
  obtain ⟨⟨tp, p, h1⟩, -⟩ := he
  refine (Any.strconv_ParseUint_10_at32_syntax Tryz.laysPu14 s (by omega) h (.iface tp p) w h1 (.inr ⟨_, _, rfl⟩)).mono ?_
  rintro e w' ⟨N, rfl, -, -, hk⟩
  exact ⟨_, by rw [hg]; rfl, hk⟩
end Go.Proofs.YtgcigdahjabimaaGreatDoor
namespace Go.Proofs.YtgcigdahjabimaaGreatDoor
def bubI (f : Int → Int → Int) : Nat → List Int → List Int
 | 0, l => l
 | j + 1, l => if f (l.getD (j + 1) 0) (l.getD j 0) < 0 then bubI f j ((l.set (j + 1) (l.getD j 0)).set j (l.getD (j + 1) 0)) else l
def srtI (f : Int → Int → Int) : Nat → List Int → List Int
 | 0, l => l
 | k + 1, l => bubI f k (srtI f k l)
theorem bubI_length (f : Int → Int → Int) : ∀ (j : Nat) (l : List Int), (bubI f j l).length = l.length
 | 0, l => rfl
 | j + 1, l => by
  rw [bubI]
  split
  ·rw [bubI_length f j]; simp
  ·rfl
theorem srtI_length (f : Int → Int → Int) : ∀ (k : Nat) (l : List Int), (srtI f k l).length = l.length
 | 0, l => rfl
 | k + 1, l => by rw [srtI, bubI_length, srtI_length f k l]
theorem mem_getD {l : List Int} {j : Nat} (h : j < l.length) : l.getD j 0 ∈ l := by
 rw [List.getD, List.getElem?_eq_getElem h]
 exact List.getElem_mem h
theorem set_all {D : Int → Prop} {l : List Int} (h : ∀ x ∈ l, D x) {v : Int} (hv : D v) (i : Nat) : ∀ x ∈ l.set i v, D x := fun x hx => by
 rcases List.mem_or_eq_of_mem_set hx with hx | rfl
 ·exact h x hx
 ·exact hv
theorem bubI_all (f : Int → Int → Int) {D : Int → Prop} : ∀ (j : Nat) (l : List Int), (j < l.length ∨ j = 0) → (∀ x ∈ l, D x) → ∀ x ∈ bubI f j l, D x
 | 0, l, _, h => h
 | j + 1, l, hj, h => by
  have hj1 : j + 1 < l.length := by omega
  rw [bubI]
  split
  ·exact bubI_all f j _ (.inl (by simp; omega)) (set_all (set_all h (h _ (mem_getD (by omega))) _) (h _ (mem_getD hj1)) _)
  ·exact h
theorem srtI_all (f : Int → Int → Int) {D : Int → Prop} : ∀ (k : Nat) (l : List Int), (k ≤ l.length ∨ k = 1) → (∀ x ∈ l, D x) → ∀ x ∈ srtI f k l, D x
 | 0, l, _, h => h
 | k + 1, l, hk, h => by
  rw [srtI]
  exact bubI_all f k _ (by rw [srtI_length]; omega) (srtI_all f k l (by omega) h)
end Go.Proofs.YtgcigdahjabimaaGreatDoor
namespace Go.Proofs.YtgcigdahjabimaaGreatDoor
open Go.RowKit Go.Shelf
def RatV2 (w : World) (V : Value) (x : QV) : Prop := RatV w V x.1 x.2
theorem lasts_v : Lasts RatV2 := fun _ _ _ _ hk h => RatV.map h hk.same32
theorem RatV2.open4 {w : World} {c0 c1 c2 c3 : Value} {x : QV} (h : RatV2 w (.agg #[c0, c1, c2, c3]) x) : ∃ b A n c d B m e, c0 = .bool b ∧ c1 = .slice A n c ∧ c2 = .bool d ∧ c3 = .slice B m e := by
 obtain ⟨n1, xs, n2, ys, ⟨x, v, y, u, e, h1, h2⟩, -⟩ := h
 obtain ⟨A, c, e1⟩ := h1.open2
 obtain ⟨B, d, e2⟩ := h2.open2
 simp only [Value.agg.injEq, Array.mk.injEq, List.cons.injEq, and_true] at e e1 e2
 obtain ⟨rfl, rfl, rfl, rfl⟩ := e
 exact ⟨_, _, _, _, _, _, _, _, e1.1, e1.2, e2.1, e2.2⟩
theorem all_snoc {p : QV → Bool} {l : List QV} {k : Nat} {x : QV} (hq : l[k]? = some x) (h : (l.take k).all p = true) (hx : p x = true) : (l.take (k + 1)).all p = true := by
 rw [List.take_add_one, List.all_append, h, hq]
 simpa using hx
theorem all_not {p : QV → Bool} {l : List QV} {k : Nat} {x : QV} (hq : l[k]? = some x) (hx : p x = false) : l.all p = false := by
 rw [List.all_eq_false]
 exact ⟨x, List.mem_of_getElem? hq, by rw [hx]; simp⟩
set_option maxRecDepth 100000 in
set_option maxHeartbeats 1000000 in
theorem positive_any {w : World} {A : Option Addr} {n c : Nat} {l : List QV} (hr : Row4 RatV2 w A l) (hn : l.length = n) (hl : n ≤ maxLen) :
 Calls Tryz.prog 71 #[.slice A n c] w fun e w' => e = .returned (.bool (l.all posB)) ∧ Keeps w w' := by
 have HR := Lib.hid hr
 have HN := Lib.hid hn
 have hnI : (n : Int) ≤ 9223372036854775807 := by simp only [maxLen] at hl; omega
 have S := St.start w
 clear hr hn hl
 go_enter Tryz.func71, Tryz.ntmps71
 go_wp2
 go_loopw [7] (fun i wr => ∃ k : Nat, k ≤ n ∧ i = .int .i64 (k : Nat) ∧ Hid ((l.take k).all posB = true) ∧ St w wr [] []) (fun i _ => n - (intOf i).toNat)
 case atStart => exact ⟨0, Nat.zero_le _, rfl, Lib.hid rfl, S⟩
 case round =>
  clear S
  obtain ⟨k, hk, rfl, HA, S⟩ := hrel
  by_cases hlt : k < n
  ·have hkI : (k : Int) < (n : Int) := by omega
   have t1 : decide ((k : Int) < (n : Int)) = true := decide_eq_true hkI
   obtain ⟨⟨q, vb⟩, hq⟩ : ∃ x, l[k]? = some x := ⟨_, List.getElem?_eq_getElem (by rw [HN.out]; exact hlt)⟩
   obtain ⟨B, o, x0, x1, x2, x3, rfl, hc, hx⟩ := HR.out.get lasts_v hq
   obtain ⟨b3, A3, n3, c3, d3, B3, m3, e3, rfl, rfl, rfl, rfl⟩ := (hx w bl).open4
   have HX : Hid (∀ W, Keeps w W → RatV W (.agg #[.bool b3, .slice A3 n3 c3, .bool d3, .slice B3 m3 e3]) q vb) := Lib.hid hx
   have HS : Hid (posB (q, vb) = true → (l.take (k + 1)).all posB = true) := Lib.hid fun h => all_snoc hq HA.out h
   have HF : Hid (posB (q, vb) = false → l.all posB = false) := Lib.hid fun h => all_not hq h
   obtain ⟨g0, g1, g2, g3⟩ := hc wr S.k
   clear hc hx hq HA
   go_upto_region 4 with fail
   replace S := S.alloc 31 [.bool b3, .slice A3 n3 c3, .bool d3, .slice B3 m3 e3]
   obtain ⟨W1, eW, S⟩ := S.pack
   rw [eW]
   clear eW g0 g1 g2 g3
   obtain ⟨r0, r1, r2, r3⟩ := S.cc4 0 rfl
   go_wp2_with fail
   refine (fvalid_v (HX.out _ S.k)).mono ?_
   rintro e W2 ⟨rfl, hk2⟩
   replace S := S.below hk2
   clear hk2 r0 r1 r2 r3
   cases vb with
   | false =>
    have HE := Lib.hid (HF.out rfl)
    go_wp2
    go_ret
    exact ⟨by rw [HE.out]; rfl, S.k⟩
   | true =>
    obtain ⟨r0, r1, r2, r3⟩ := S.cc4 0 rfl
    obtain ⟨s, hs⟩ : ∃ s, q.num.sign = s := ⟨_, rfl⟩
    have HSG := Lib.hid hs
    have hsq : s < 0 ↔ q < 0 := by rw [← hs]; exact rsgn_neg q
    clear hs
    go_wp2_with fail
    refine (fsign_s (HX.out _ S.k).num HSG.out).mono ?_
    rintro e W3 ⟨rfl, hk3⟩
    replace S := (S.below hk3).dropb
    clear hk3 r0 r1 r2 r3
    by_cases hs0 : s < 0
    ·have HE := Lib.hid (HF.out (by unfold posB; simp; exact Rat.not_le.2 (hsq.1 hs0)))
     have t2 : decide (s < 0) = true := decide_eq_true hs0
     clear hsq
     go_wp2
     go_ret
     exact ⟨by rw [HE.out]; rfl, S.k⟩
    ·have HE := Lib.hid (HS.out (by unfold posB; simp; exact Rat.not_lt.1 fun h => hs0 (hsq.2 h)))
     have t2 : decide (s < 0) = false := decide_eq_false hs0
     clear hsq
     go_wp2
     go_roundw
     case rel => exact ⟨k + 1, by omega, by go_num, HE, S⟩
     case measure => simp [intOf]; omega
  ·have hkI : ¬ (k : Int) < (n : Int) := by omega
   have t1 : decide ((k : Int) < (n : Int)) = false := decide_eq_false hkI
   obtain rfl : k = n := by omega
   have HE : Hid (l.all posB = true) := Lib.hid (by have := HA.out; rwa [List.take_of_length_le (by rw [HN.out]; exact Nat.le_refl _)] at this)
   go_wp2
   go_ret
   exact ⟨by rw [HE.out]; rfl, S.k⟩
def SaysQ (P : Program) (F : FuncId) (p : QV → Bool) (w : World) : Prop := ∀ u, Keeps w u → ∀ V x, RatV2 u V x → Calls P F #[V] u fun e u' => e = .returned (.bool (p x)) ∧ Keeps u u'
set_option maxRecDepth 100000 in
theorem hist1_any (w : World) : SaysQ Tryz.prog 58 (fun x => !x.2) w := fun u _ V x hx => by
 obtain ⟨q, vb⟩ := x
 have hx2 : RatV u V q vb := hx
 obtain ⟨n1, xs, n2, ys, ⟨a0, a1, a2, a3, rfl, -⟩, -⟩ := hx
 obtain ⟨b3, A3, n3, c3, d3, B3, m3, e3, rfl, rfl, rfl, rfl⟩ := RatV2.open4 (x := (q, vb)) hx2
 have S := (St.start u).alloc 31 [.bool b3, .slice A3 n3 c3, .bool d3, .slice B3 m3 e3]
 obtain ⟨W0, hW0, S⟩ := S.pack
 have HX := Lib.hid (fvalid_v (hx2.map S.k.same32))
 obtain ⟨r0, r1, r2, r3⟩ := S.cc4 0 rfl
 clear hx2
 show Calls Tryz.prog 58 #[.agg #[.bool b3, .slice A3 n3 c3, .bool d3, .slice B3 m3 e3]] u _
 go_enter Tryz.func58, Tryz.ntmps58
 go_wp2_with fail
 refine HX.out.mono ?_
 rintro e w1 ⟨rfl, hk1⟩
 go_wp2
 go_ret
 exact ⟨rfl, S.k.trans' hk1⟩
set_option maxRecDepth 100000 in
set_option maxHeartbeats 1000000 in
theorem rh1_i {w : World} {A : Option Addr} {n c : Nat} {l : List QV} (hr : Row4 RatV2 w A l) (hn : l.length = n) (hl : n ≤ maxLen) (p : QV → Bool) (hp : SaysQ Tryz.prog 58 p w) :
 Calls Tryz.prog 84 #[.slice A n c, .func (.func 58) #[] #[]] w fun e w' => ∃ v : Int, e = .returned (.int .i64 v) ∧ decide (0 ≤ v) = l.any p ∧ Keeps w w' := by
 have hnI : (n : Int) ≤ 9223372036854775807 := by simp only [maxLen] at hl; omega
 have HP : Hid (SaysQ Tryz.prog 58 p w) := Lib.hid hp
 have HR := Lib.hid hr
 have HN := Lib.hid hn
 clear hr hp hn hl
 go_enter Tryz.func84, Tryz.ntmps84
 go_wp2
 go_loopw [8] (fun i wr => ∃ k : Nat, k ≤ n ∧ i = .int .i64 (k : Nat) ∧ Hid ((l.take k).any p = false) ∧ Keeps w wr) (fun i _ => n - (intOf i).toNat)
 case atStart => exact ⟨0, Nat.zero_le _, rfl, Lib.hid (by simp), Below.refl _ _⟩
 case round =>
  obtain ⟨k, hkd, rfl, HA, hk⟩ := hrel
  by_cases hlt : k < n
  ·have hkI : (k : Int) < (n : Int) := by omega
   have t1 : decide ((k : Int) < (n : Int)) = true := decide_eq_true hkI
   obtain ⟨x, hq⟩ : ∃ x, l[k]? = some x := ⟨_, List.getElem?_eq_getElem (by rw [HN.out]; exact hlt)⟩
   obtain ⟨B, o, x0, x1, x2, x3, rfl, hc, hx⟩ := HR.out.get lasts_v hq
   obtain ⟨b3, A3, n3, c3, d3, B3, m3, e3, rfl, rfl, rfl, rfl⟩ := (hx w bl).open4
   have HX := Lib.hid (HP.out wr hk _ x (hx wr hk))
   have HY : Hid (p x = true → l.any p = true) := Lib.hid fun h => List.any_eq_true.2 ⟨x, List.mem_of_getElem? hq, h⟩
   have HZ : Hid (p x = false → (l.take (k + 1)).any p = false) := Lib.hid fun h => by rw [List.take_add_one, List.any_append, HA.out, hq]; simpa using h
   obtain ⟨g0, g1, g2, g3⟩ := hc wr hk
   clear hc hx hq
   go_wp2_with fail
   refine HX.out.mono ?_
   rintro e w1 ⟨rfl, hk1⟩
   cases hpx : p x with
   | true =>
    have HT := Lib.hid (HY.out hpx)
    clear hpx
    go_wp2
    go_ret
    exact ⟨_, rfl, by rw [HT.out]; simp, hk.trans' hk1⟩
   | false =>
    have HT := Lib.hid (HZ.out hpx)
    clear hpx
    go_wp2
    go_roundw
    case rel => exact ⟨k + 1, by omega, by go_num, HT, hk.trans' hk1⟩
    case measure => simp [intOf]; omega
  ·have hkI : ¬ (k : Int) < (n : Int) := by omega
   have t1 : decide ((k : Int) < (n : Int)) = false := decide_eq_false hkI
   obtain rfl : k = n := by omega
   go_wp2
   go_ret
   exact ⟨_, rfl, by have := HA.out; rw [List.take_of_length_le (by rw [HN.out]; exact Nat.le_refl _)] at this; rw [this]; rfl, hk⟩
set_option maxRecDepth 100000 in
theorem rh1_c {w : World} {A : Option Addr} {n c : Nat} {l : List QV} (hr : Row4 RatV2 w A l) (hn : l.length = n) (hl : n ≤ maxLen) (p : QV → Bool) (hp : SaysQ Tryz.prog 58 p w) :
 Calls Tryz.prog 39 #[.slice A n c, .func (.func 58) #[] #[]] w fun e w' => e = .returned (.bool (l.any p)) ∧ Keeps w w' := by
 have HI := Lib.hid (rh1_i (c := c) hr hn hl p hp)
 clear hr hp hn
 go_enter Tryz.func39, Tryz.ntmps39
 go_wp2_with fail
 refine HI.out.mono ?_
 rintro e w1 ⟨v, rfl, hv, hk⟩
 have HV := Lib.hid hv
 clear hv
 go_wp2
 all_goals (go_ret; exact ⟨by rw [← HV.out]; rfl, hk⟩)
def Keep8 (b : Nat) (w w' : World) : Prop := ∀ p t vs, t ≠ 5 → p ≠ b → Own w p t vs → Own w' p t vs
theorem Keep8.refl (b : Nat) (w : World) : Keep8 b w w := fun _ _ _ _ _ h => h
theorem Keep8.trans {b : Nat} {w w1 w' : World} (h : Keep8 b w w1) (h1 : Keep8 b w1 w') : Keep8 b w w' := fun p t vs ht hp ho => h1 p t vs ht hp (h p t vs ht hp ho)
theorem Keep8.set {b : Nat} {w w' : World} (h : Keep8 b w w') (j : Nat) (u : Value) : Keep8 b w (w'.setCell ⟨b, j, none⟩ u) := fun p t vs ht hp ho => (h p t vs ht hp ho).far (p := ⟨b, j, none⟩) hp u
theorem Keep8.keeps {b : Nat} {w w' : World} (h : Keeps w w') : Keep8 b w w' := fun _ _ _ _ _ ho => ho.below h
theorem Keep8.grown {b : Nat} {w w' : World} {base n : Nat} {v : Value} {xs : List Value} (ho : w.ownsRow base 5 1 v n xs) (hg : w.grownBy w' v.ownBlock) : Keep8 b w w' := fun p t vs ht _ h => by
 have hb : w'.heap[p]? = w.heap[p]? := by
  refine hg.block p h.lt fun e => ?_
  rcases ho.2 with ⟨rfl, -⟩ | ⟨g, cap, cur, rfl, -, hh, -⟩
  ·cases e
  ·obtain rfl : p = g := by simpa [Value.ownBlock] using e
   have h2 : w.heap[p]? = some (.cells vs.toArray t (0, 0)) := h
   rw [h2] at hh
   simp only [Option.some.injEq, Obj.cells.injEq] at hh
   exact ht hh.2.1
 exact hb.trans h
theorem bcheck8 (B b : Nat) (bs : List Value) (w : World) (h : Lib.IsBuilder 101 5 B b bs w) :
 Calls Tryz.prog 121 #[.pointer (some ⟨b, 0, none⟩)] w fun e w' => e = .returned (.tuple #[]) ∧ (Lib.BuilderAt 101 5 B b (.pointer (some ⟨b, 0, none⟩)) bs w' ∧ Below B w w' ∧ Keep8 b w w') := by
 rcases h with h | h
 ·refine (bcheck_fresh b w h.cell0 h.shape h.frozen0).mono ?_
  rintro e w' ⟨rfl, rfl⟩
  exact ⟨rfl, h.used _, (Below.refl B w).setCell (p := ⟨b, 0, none⟩) h.1 _, (Keep8.refl b w).set 0 _⟩
 ·refine (bcheck_used b w h.cell0).mono ?_
  rintro e w' ⟨rfl, rfl⟩
  exact ⟨rfl, h, Below.refl B _, Keep8.refl b _⟩
set_option maxHeartbeats 2000000 in
set_option maxRecDepth 100000 in
theorem bbyte8 (B b : Nat) (bs : List Value) (c : Int) (w : World) (h : Lib.IsBuilder 101 5 B b bs w) (hlen : bs.length + 1 ≤ 140737488355328) (hBw : B ≤ w.heap.size) :
 Calls Tryz.prog 114 #[.pointer (some ⟨b, 0, none⟩), .int .u8 c] w fun e w' => e = .returned .nilIface ∧ (Lib.BuilderAt 101 5 B b (.pointer (some ⟨b, 0, none⟩)) (bs ++ [.int .u8 c]) w' ∧ Below B w w' ∧ Keep8 b w w') := by
 obtain ⟨i0, hi, hz0, hz1, hz2⟩ := info_parts info_u8
 go_enter Tryz.func114, Tryz.ntmps114
 go_wp2_with fail
 refine (bcheck8 B b bs _ h).mono ?_
 rintro e w1 ⟨rfl, h1, hb1, hk1⟩
 obtain ⟨hB, v, hbk, hown, hne⟩ := h1
 have c0 : w1.cell? ⟨b, 0, none⟩ = some (.pointer (some ⟨b, 0, none⟩)) := by rw [Lib.cell_of_heap hbk]; rfl
 have c1 : w1.cell? ⟨b, 1, none⟩ = some v := by rw [Lib.cell_of_heap hbk]; rfl
 go_wp2_with (at_builtin; refine wpList_append_own _ rfl _ _ 99 rfl B 5 i0 (.int .u8 0) 1 1 Tryz.underlying99 hi hz0 hz1 hz2 rfl (by decide) _ _ _ rfl (hown.alloc _) ⟨w1.heap.size, 0, none⟩ 1 1 [.int .u8 c] rfl rfl ?c1 ?c2 ?c3 ?c4 ?c5 ?_)
 case c1 =>
  intro j u hj
  match j, hj with
  | 0, hj => simp at hj; subst hj; simp [Addr.add]
 case c2 => intro u hu; simp at hu; subst hu; rfl
 case c3 => unfold maxLen; omega
 case c4 => omega
 case c5 => have := hb1.size; simp; omega
 intro v' w2 hown' hgrow _
 have hlt : b < w1.heap.size := by
  rcases Nat.lt_or_ge b w1.heap.size with h' | h'
  ·exact h'
  ·simp [Array.getElem?_eq_none h'] at hbk
 have hb2 : w2.heap[b]? = some (.cells #[.pointer (some ⟨b, 0, none⟩), v] 101 (0, 0)) := by
  rw [hgrow.block b (by simp; omega) (fun e => hne e.symm), Lib.alloc_old w1 _ b hlt]
  exact hbk
 have d0 : w2.cell? ⟨b, 0, none⟩ = some (.pointer (some ⟨b, 0, none⟩)) := by rw [Lib.cell_of_heap hb2]; rfl
 have d1 : w2.cell? ⟨b, 1, none⟩ = some v := by rw [Lib.cell_of_heap hb2]; rfl
 have f1 : w2.frozen? ⟨b, 1, none⟩ = false := Lib.frozen_of_heap hb2 1
 obtain ⟨g, cap, rfl⟩ : ∃ g cap, v' = .slice (some ⟨g, 0, none⟩) (bs.length + 1) cap := by
  rcases hown'.2 with ⟨_, h0⟩ | ⟨g, cap, cur, hv, _⟩
  ·omega
  ·exact ⟨g, cap, hv⟩
 go_wp2
 go_ret
 refine ⟨rfl, ?_, ?_, ?_⟩
 ·exact Lib.BuilderAt.put (T := 101) (e := 5) hB hb2 (bs' := bs ++ [.int .u8 c]) (by simpa using hown') (by decide)
 ·exact ((hb1.alloc (by have := hb1.size; omega) _).grown hgrow (by have := hb1.size; simp; omega) (fun k hk => (hown.lt k hk).1)).setCell (p := ⟨b, 1, none⟩) hB _
 ·exact ((hk1.trans (Keep8.keeps (bl.alloc (Nat.le_refl _) _))).trans (Keep8.grown (hown.alloc _) hgrow)).set 1 _
set_option maxHeartbeats 2000000 in
set_option maxRecDepth 100000 in
theorem bstring8 (B b : Nat) (bs : List Value) (s : ByteArray) (w : World) (h : Lib.IsBuilder 101 5 B b bs w) (hlen : bs.length + s.size ≤ 140737488355328) (hBw : B ≤ w.heap.size) :
 Calls Tryz.prog 78 #[.pointer (some ⟨b, 0, none⟩), .string s] w fun e w' => e = .returned (.tuple #[.int .i64 s.size, .nilIface]) ∧ (Lib.BuilderAt 101 5 B b (.pointer (some ⟨b, 0, none⟩)) (bs ++ Lib.strCells s) w' ∧ Below B w w' ∧ Keep8 b w w') := by
 obtain ⟨i0, hi, hz0, hz1, hz2⟩ := info_parts info_u8
 go_enter Tryz.func78, Tryz.ntmps78
 go_wp2_with fail
 refine (bcheck8 B b bs _ h).mono ?_
 rintro e w1 ⟨rfl, h1, hb1, hk1⟩
 obtain ⟨hB, v, hbk, hown, hne⟩ := h1
 have c0 : w1.cell? ⟨b, 0, none⟩ = some (.pointer (some ⟨b, 0, none⟩)) := by rw [Lib.cell_of_heap hbk]; rfl
 have c1 : w1.cell? ⟨b, 1, none⟩ = some v := by rw [Lib.cell_of_heap hbk]; rfl
 go_wp2_with (at_builtin; refine Lib.wpList_append_own_string _ rfl _ _ 99 9 rfl B 5 i0 Tryz.underlying99 Tryz.underlying9 hi hz0 hz1 hz2 _ _ _ rfl hown s rfl ?c3 ?c4 ?c5 ?_)
 case c3 => unfold maxLen; omega
 case c4 => omega
 case c5 => have := hb1.size; omega
 intro v' w2 hown' hgrow _
 have hlt : b < w1.heap.size := by
  rcases Nat.lt_or_ge b w1.heap.size with h' | h'
  ·exact h'
  ·simp [Array.getElem?_eq_none h'] at hbk
 have hb2 : w2.heap[b]? = some (.cells #[.pointer (some ⟨b, 0, none⟩), v] 101 (0, 0)) := by
  rw [hgrow.block b hlt (fun e => hne e.symm)]
  exact hbk
 have d0 : w2.cell? ⟨b, 0, none⟩ = some (.pointer (some ⟨b, 0, none⟩)) := by rw [Lib.cell_of_heap hb2]; rfl
 have d1 : w2.cell? ⟨b, 1, none⟩ = some v := by rw [Lib.cell_of_heap hb2]; rfl
 have f1 : w2.frozen? ⟨b, 1, none⟩ = false := Lib.frozen_of_heap hb2 1
 obtain ⟨ao, n', cap, rfl⟩ : ∃ ao n' cap, v' = .slice ao n' cap := by
  rcases hown'.2 with ⟨hv, _⟩ | ⟨g, cap, cur, hv, _⟩
  ·exact ⟨_, _, _, hv⟩
  ·exact ⟨_, _, _, hv⟩
 go_wp2
 go_ret2
 refine ⟨rfl, ?_, ?_, ?_⟩
 ·exact Lib.BuilderAt.put (T := 101) (e := 5) hB hb2 (bs' := bs ++ Lib.strCells s) (by simpa [Lib.strCells_length] using hown') (by decide)
 ·exact (hb1.grown hgrow (by have := hb1.size; omega) (fun k hk => (hown.lt k hk).1)).setCell (p := ⟨b, 1, none⟩) hB _
 ·exact (hk1.trans (Keep8.grown hown hgrow)).set 1 _
theorem bd_byte8 {w1 w : World} {l : List UInt8} (c : UInt8) (h : Bd w1 l w) (hl : l.length ≤ 1000000000) :
 Calls Tryz.prog 114 #[.pointer (some ⟨w1.heap.size, 0, none⟩), .int .u8 (c.toNat : Int)] w fun e w' => e = .returned .nilIface ∧ Bd w1 (l ++ [c]) w' ∧ Keep8 w1.heap.size w w' := by
 refine (bbyte8 w1.heap.size w1.heap.size _ _ w h.h (by rw [Lib.byteCells_length]; omega) h.k.size).mono ?_
 rintro e w' ⟨rfl, hb, hk, h8⟩
 exact ⟨rfl, ⟨.inr (by rw [Lib.byteCells_append]; exact hb), h.k.trans hk⟩, h8⟩
theorem bd_string8 {w1 w : World} {l : List UInt8} (s : List UInt8) (h : Bd w1 l w) (hl : l.length ≤ 1000000000) (hs : s.length ≤ 1000000000) :
 Calls Tryz.prog 78 #[.pointer (some ⟨w1.heap.size, 0, none⟩), .string ⟨s.toArray⟩] w fun e w' => e = .returned (.tuple #[.int .i64 s.length, .nilIface]) ∧ Bd w1 (l ++ s) w' ∧ Keep8 w1.heap.size w w' := by
 refine (bstring8 w1.heap.size w1.heap.size _ _ w h.h (by rw [Lib.byteCells_length]; show _ + s.toArray.size ≤ _; simp; omega) h.k.size).mono ?_
 rintro e w' ⟨rfl, hb, hk, h8⟩
 exact ⟨by simp [ByteArray.size], ⟨.inr (by rw [Lib.byteCells_append]; exact hb), h.k.trans hk⟩, h8⟩
theorem St.keep8 {w0 w w' w1 : World} {bs : List Bx} {l : List UInt8} (S : St w0 w bs []) (h8 : Keep8 w1.heap.size w w') (hb : Bd w1 l w') (h1 : Keeps w0 w1) (hbs : ∀ p ∈ bs, p.1 ≠ w1.heap.size ∧ p.2.1 ≠ 5) : St w0 w' bs [] :=
 ⟨h1.trans' hb.k, Bxs.map (fun p hp ho => h8 _ _ _ (hbs p hp).2 (hbs p hp).1 ho) S.b, S.lo, S.d, trivial⟩
def iv (l : List Int) (j : Nat) : Value := .int .i64 (l.getD j 0)
abbrev IRow (w : World) (A : Option Addr) (l : List Int) : Prop := Row w A l.length (iv l)
def Grey (m : Int) (l : List Int) : Prop := ∀ x ∈ l, 0 ≤ x ∧ x ≤ m
theorem Grey.get {m : Int} {l : List Int} (h : Grey m l) (hm : 0 ≤ m) (j : Nat) : 0 ≤ l.getD j 0 ∧ l.getD j 0 ≤ m := by
 rw [List.getD_eq_getElem?_getD]
 cases hj : l[j]? with
 | none => simp [hm]
 | some x => simpa using h x (List.mem_of_getElem? hj)
theorem IRow.at {w : World} {A : Option Addr} {l : List Int} (h : IRow w A l) {j : Nat} (hj : j < l.length) : ∃ b o, A = some ⟨b, o, none⟩ ∧ w.cell? ⟨b, o + j, none⟩ = some (.int .i64 (l.getD j 0)) := by
 obtain ⟨b, o, e, -, hc⟩ := h (by omega)
 exact ⟨b, o, e, hc j hj⟩
def i64s (l : List Int) : List Value := l.map fun x => .int .i64 x
theorem i64s_length (l : List Int) : (i64s l).length = l.length := by simp [i64s]
theorem i64s_snoc (l : List Int) (x : Int) : i64s (l ++ [x]) = i64s l ++ [.int .i64 x] := by simp [i64s]
theorem info_i64 : (Tryz.prog.info? 3).map (fun i => (i.zero, i.size, i.bytes)) = some (some (.int .i64 0), 1, 8) := by kernel_rfl
abbrev IOwn (w : World) (base : Nat) (V : Value) (l : List Int) : Prop := w.ownsRow base 3 1 V l.length (i64s l)
theorem _root_.Go.World.ownsRow.irow {w : World} {base : Nat} {A : Option Addr} {n c : Nat} {l : List Int} (h : IOwn w base (.slice A n c) l) (hn : n = l.length) : IRow w A l := by
 subst hn
 have := h.cells'
 rw [Cells, i64s_length] at this
 refine this.congr fun j hj => ?_
 simp [at', i64s, iv, List.getD, hj]

theorem IRow.of_own {w : World} {base : Nat} {A : Option Addr} {n c : Nat} {l : List Int} (h : w.ownsRow base 3 1 (.slice A n c) n (i64s l)) (hn : n = l.length) : IRow w A l := by
 subst hn
 exact World.ownsRow.irow h rfl

end Go.Proofs.YtgcigdahjabimaaGreatDoor
namespace Go.Proofs.YtgcigdahjabimaaGreatDoor
theorem takeW_len {α : Type} {p : α → Bool} : ∀ {l : List α} {j : Nat}, j ≤ l.length → (l.take j).all p = true → (∀ x, l[j]? = some x → p x = false) → (l.takeWhile p).length = j
 | [], j, hj, _, _ => by simp at hj; subst hj; rfl
 | a :: l, 0, _, _, h => by
  have := h a rfl
  simp [List.takeWhile, this]
 | a :: l, j + 1, hj, ha, h => by
  simp only [List.take_succ_cons, List.all_cons, Bool.and_eq_true] at ha
  have ih := takeW_len (l := l) (j := j) (by simpa using hj) ha.2 (fun x hx => h x (by simpa using hx))
  simp [List.takeWhile, ha.1, ih]
end Go.Proofs.YtgcigdahjabimaaGreatDoor
