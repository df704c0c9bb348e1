/- raster.at, made, Turn, Mirror: the walks. -/
import Derived.Test.YtecibfncnaccjaaTopP
import Derived.Deep.RegionLawGrows
import Derived.Laws.MakeOwn
namespace Go.Proofs.Ytecibfncnaccjaa
open Go.RowKit Go.Shelf

theorem box2 (w : World) (o : Obj) : Keeps w (w.alloc o) := (Below.refl _ _).alloc (Nat.le_refl _) _
set_option maxRecDepth 100000 in
theorem at_any {w : World} {A : Option Addr} {n c : Nat} {px : List Int} (hr : IRow w A px) (hn : n = px.length) (hl : n ≤ 4096) (W : Nat) (H m : Int) (xi yi : Int) (x y : Nat) (hx : xi = x) (hy : yi = y) (hW : W ≤ 64) (hxW : x < 64) (hyH : y < 64) (hi : y * W + x < n) :
    Calls Try.prog 24 #[.agg #[.int .i64 (W : Nat), .int .i64 H, .int .i64 m, .slice A n c], .int .i64 xi, .int .i64 yi] w fun e w' => e = .returned (.int .i64 (pxL px W x y)) ∧ Keeps w w' := by
  subst hx hy
  obtain ⟨W0, hW0⟩ : ∃ W0, w.alloc (.cells #[.int .i64 (W : Nat), .int .i64 H, .int .i64 m, .slice A n c] 24) = W0 := ⟨_, rfl⟩
  have hk0 : Keeps w W0 := hW0 ▸ box2 w _
  have q0 : Own W0 w.heap.size 24 [.int .i64 (W : Nat), .int .i64 H, .int .i64 m, .slice A n c] := hW0 ▸ Own.new w _ _
  subst hn
  obtain ⟨b, o, rfl, c1⟩ := IRow.at (hr.below hk0) hi
  have e : px.getD (y * W + x) 0 = pxL px W x y := rfl
  rw [e] at c1
  clear e
  obtain ⟨v, hv⟩ : ∃ v, pxL px W x y = v := ⟨_, rfl⟩
  rw [hv] at c1 ⊢
  have hq : (y : Int) * (W : Int) = ((y * W : Nat) : Int) := by simp
  have hyW : y * W ≤ 63 * 64 := Nat.mul_le_mul (by omega) hW
  obtain ⟨k, hk⟩ : ∃ k, y * W = k := ⟨_, rfl⟩
  rw [hk] at hq c1 hi hyW
  have hkI : (k : Int) ≤ 4032 := by omega
  have hxI : (x : Int) ≤ 63 := by omega
  have hiI : (k : Int) + (x : Int) < px.length := by omega
  have hnI : (px.length : Int) ≤ 4096 := by omega
  clear hr hv hk hi hyW hyH hxW hW hl
  have x0 := q0.cell 0
  have x1 := q0.cell 1
  have x2 := q0.cell 2
  have x3 := q0.cell 3
  simp only [List.getElem?_cons_zero, List.getElem?_cons_succ] at x0 x1 x2 x3
  go_enter Try.func24, Try.ntmps24
  go_wp2
  go_ret
  exact ⟨rfl, hk0⟩
/-- what a function value says of a pixel's place -/
def SaysXY (P : Program) (g : Nat) (lb : Array Value) (f : Nat → Nat → Int) (W H : Nat) (w : World) : Prop := ∀ u, Keeps w u → ∀ x y : Nat, x < W → y < H → Calls P g (#[.int .i64 (x : Nat), .int .i64 (y : Nat)] ++ lb) u fun e u' => e = .returned (.int .i64 (f x y)) ∧ Keeps u u'
set_option maxRecDepth 100000 in
set_option maxHeartbeats 1000000 in
theorem turnXY {w : World} {b : Nat} {A : Option Addr} {n c : Nat} {px : List Int} {W H : Nat} {m : Int} (q : Own w b 24 [.int .i64 (W : Nat), .int .i64 (H : Nat), .int .i64 m, .slice A n c]) (hr : IRow w A px) (hn : n = px.length) (hl : n = W * H) (hW : 1 ≤ W ∧ W ≤ 64) (hH : 1 ≤ H ∧ H ≤ 64) :
    SaysXY Try.prog 23 #[.pointer (some ⟨b, 0, none⟩)] (fun x y => pxL px W (W - 1 - y) x) H W w := fun u hk x y hx hy => by
  show Calls Try.prog 23 #[.int .i64 (x : Nat), .int .i64 (y : Nat), .pointer (some ⟨b, 0, none⟩)] u _
  have q' := q.below hk
  have h4 : n ≤ 4096 := by rw [hl]; exact Nat.mul_le_mul hW.2 hH.2
  have HA := Lib.hid (at_any (c := c) (hr.below hk) hn h4 W H m ((W : Int) - 1 - (y : Int)) (x : Int) (W - 1 - y) x (by omega) rfl hW.2 (by omega) (by omega) (by rw [hl]; exact idx_lt (by omega) hx))
  have hWI : (W : Int) ≤ 64 := by omega
  have hyI : (y : Int) < (W : Int) := by omega
  clear q hr hn hl h4 hx hy hk hW hH
  have x0 := q'.cell 0
  have x1 := q'.cell 1
  have x2 := q'.cell 2
  have x3 := q'.cell 3
  simp only [List.getElem?_cons_zero, List.getElem?_cons_succ] at x0 x1 x2 x3
  go_enter Try.func23, Try.ntmps23
  go_wp2_with fail
  refine HA.out.mono ?_
  rintro e u' ⟨rfl, hk'⟩
  go_wp2
  go_ret
  exact ⟨rfl, hk'⟩
set_option maxRecDepth 100000 in
set_option maxHeartbeats 1000000 in
theorem mirXY {w : World} {b : Nat} {A : Option Addr} {n c : Nat} {px : List Int} {W H : Nat} {m : Int} (q : Own w b 24 [.int .i64 (W : Nat), .int .i64 (H : Nat), .int .i64 m, .slice A n c]) (hr : IRow w A px) (hn : n = px.length) (hl : n = W * H) (hW : 1 ≤ W ∧ W ≤ 64) (hH : 1 ≤ H ∧ H ≤ 64) :
    SaysXY Try.prog 25 #[.pointer (some ⟨b, 0, none⟩)] (fun x y => pxL px W (W - 1 - x) y) W H w := fun u hk x y hx hy => by
  show Calls Try.prog 25 #[.int .i64 (x : Nat), .int .i64 (y : Nat), .pointer (some ⟨b, 0, none⟩)] u _
  have q' := q.below hk
  have h4 : n ≤ 4096 := by rw [hl]; exact Nat.mul_le_mul hW.2 hH.2
  have HA := Lib.hid (at_any (c := c) (hr.below hk) hn h4 W H m ((W : Int) - 1 - (x : Int)) (y : Int) (W - 1 - x) y (by omega) rfl hW.2 (by omega) (by omega) (by rw [hl]; exact idx_lt (by omega) hy))
  have hWI : (W : Int) ≤ 64 := by omega
  have hxI : (x : Int) < (W : Int) := by omega
  clear q hr hn hl h4 hx hy hk hW hH
  have x0 := q'.cell 0
  have x1 := q'.cell 1
  have x2 := q'.cell 2
  have x3 := q'.cell 3
  simp only [List.getElem?_cons_zero, List.getElem?_cons_succ] at x0 x1 x2 x3
  go_enter Try.func25, Try.ntmps25
  go_wp2_with fail
  refine HA.out.mono ?_
  rintro e u' ⟨rfl, hk'⟩
  go_wp2
  go_ret
  exact ⟨rfl, hk'⟩
theorem madeZ (n : Nat) : madeCells #[.int .i64 0] n = (i64s (List.replicate n 0)).toArray := by
  apply Array.ext
  · simp [madeCells, i64s]
  · intro i h1 h2
    simp [madeCells, i64s, Nat.mod_one]
theorem i64s_set (l : List Int) (k : Nat) (x : Int) : (i64s l).set k (.int .i64 x) = i64s (l.set k x) := by simp [i64s, List.map_set]
/-- one more cell where there is room -/
theorem step_append_in {P : Program} {w : World} {ops : Array Oper} {o : Oper} {a : Act} {K : Act → World → Prop} {Q : Exit → Act → World → Prop} {E : Prop} (hgd : o.guard = none) (s x : Operand) (t : TypeId)
    (ho : o.op = .call { callee := .builtin .append, args := #[s, x], argTypes := #[t, t] })
    (e : TypeId) (i : TypeInfo) (ht : P.underlying t = some (.slice e)) (hi : P.info? e = some i) (hsize : i.size = 1)
    (g n cap : Nat) (vs : List Value) (hs : a.eval s = .slice (some ⟨g, 0, none⟩) n cap) (hown : Own w g e vs) (ad : Addr) (c : Nat) (u : Value) (hx : a.eval x = .slice (some ad) 1 c) (hu : w.cell? ad = some u) (h1 : u.oneCell' = true) (hroom : n < cap) (hlen : n < vs.length)
    (h : ∀ w', Own w' g e (vs.set n u) → w.grownBy w' (some g) → K (a.put o.dst (.slice (some ⟨g, 0, none⟩) (n + 1) cap)) w') :
    if Region.wanted o (yielded ops a.tmps) = true then Oper.wp P o a w K Q else E := by
  have hw : Region.wanted o (yielded ops a.tmps) = true := by simp [Region.wanted, hgd]
  rw [if_pos hw]
  have hr := run_append_room (P := P) (w := w) t o.type e i ht hi g n cap vs.toArray hown ad 1 c [u] (by rw [hsize]; rfl) (fun j v hj => by
    match j, hj with
    | 0, hj =>
      cases hj
      rw [show ad.add 0 = ad by unfold Addr.add; split <;> simp_all]
      exact hu) (fun v hv => by simp only [List.mem_singleton] at hv; subst hv; exact h1) hroom (by simp [hsize]; omega)
  unfold Oper.wp execOp
  simp only [ho, resolve, invoke, builtin, Sem.run_bind, Sem.run_pure, Result.andThen_ok, List.map_toArray, List.map_cons, List.map_nil, hs, hx, hr]
  refine h _ ?_ ⟨rfl, rfl, rfl, by simp, fun k _ hk => setRow_other w g k _ (fun e => hk (by rw [e]))⟩
  have hset : (vs.toArray.toList.take (n * i.size) ++ [u] ++ vs.toArray.toList.drop (n * i.size + [u].length)).toArray = (vs.set n u).toArray := by
    congr 1
    simp only [hsize, Nat.mul_one, List.length_singleton]
    rw [List.set_eq_take_append_cons_drop, if_pos hlen]
    simp
  rw [hset]
  exact setRow_heap w g vs.toArray _ e _ hown
end Go.Proofs.Ytecibfncnaccjaa
