/- The document's word: the walk; rows of different cells are apart. -/
import Derived.Test.YtbkcnhbdjllojaaEnc
import Derived.Test.YtbkcnhbdjllojaaOut
import Derived.Test.YtbkcnhbdjllojaaTxtB
import Derived.Test.YtbkcnhbdjllojaaResD
import Derived.Test.YtbkcnhbdjllojaaBits
import Derived.Laws.RangeString
import Derived.Laws.Runes
namespace Go.Proofs.Ytbkcnhbdjllojaa
open Go.RowKit Go.Shelf

theorem rows_ne {w : World} {base base' : Nat} {e e' : TypeId} {size size' : Nat} {v v' : Value} {n n' : Nat} {xs xs' : List Value} (h : w.ownsRow base e size v n xs) (h' : w.ownsRow base' e' size' v' n' xs') (ht : e ≠ e') : ∀ k ∈ blkOf v, k ∉ blkOf v' := by
  obtain ⟨-, ⟨rfl, -⟩ | ⟨g, cap, cur, rfl, -, hg, -⟩⟩ := h
  · intro k hk
    simp [blkOf, Value.ownBlock] at hk
  · obtain ⟨-, ⟨rfl, -⟩ | ⟨g', cap', cur', rfl, -, hg', -⟩⟩ := h'
    · simp [blkOf, Value.ownBlock]
    · intro k hk hk'
      simp [blkOf, Value.ownBlock] at hk hk'
      subst hk
      rw [hk', hg'] at hg
      cases hg
      exact ht rfl
theorem step_append_out {P : Program} {w : World} {ops : Array Oper} {o : Oper} {a : Act} {K : Act → World → Prop} {Q : Exit → Act → World → Prop} {E : Prop} (hgd : o.guard = none) (s x : Operand) (t : TypeId)
    (ho : o.op = .call { callee := .builtin .append, args := #[s, x], argTypes := #[t, t] })
    (base : Nat) (e : TypeId) (i : TypeInfo) (z : Value) (bytes : Nat) (ht : P.underlying t = some (.slice e)) (hi : P.info? e = some i) (hz : i.zero = some z)
    (hsize : i.size = 1) (hby : i.bytes = bytes) (hzs : z.cells.size = 1) (v : Value) (n : Nat) (xs : List Value) (hs : a.eval s = v) (hown : OutR w base e v n xs)
    (ad : Addr) (m c : Nat) (news : List Value) (hx : a.eval x = .slice (some ad) m c) (hl : news.length = m) (hnews : ∀ j u, news[j]? = some u → w.cell? (ad.add j) = some u) (h1 : ∀ u ∈ news, u.oneCell' = true) (h0 : 0 < m)
    (h63 : n + m ≤ maxLen) (hbytes : (n + m) * bytes ≤ 140737488355328) (hbase : base ≤ w.heap.size)
    (h : ∀ v' w', w'.ownsRow base e 1 v' (n + m) (xs ++ news) → w.grownBy w' v.ownBlock → K (a.put o.dst v') w') :
    if Region.wanted o (yielded ops a.tmps) = true then Oper.wp P o a w K Q else E := by
  have hw : Region.wanted o (yielded ops a.tmps) = true := by simp [Region.wanted, hgd]
  rw [if_pos hw]
  obtain ⟨v', w', hr, h2, h3⟩ := run_append_out (P := P) (w := w) base t o.type e i z bytes ht hi hz hsize hby hzs v n xs hown ad m c news hl hnews h1 h0 h63 hbytes hbase
  unfold Oper.wp execOp
  simp only [ho, resolve, invoke, builtin, Sem.run_bind, Sem.run_pure, Result.andThen_ok, List.map_toArray, List.map_cons, List.map_nil, hs, hx, hr]
  exact h v' w' h2 h3
set_option maxRecDepth 100000 in
set_option maxHeartbeats 1000000 in
theorem word_any {w : World} {base : Nat} {A : Option Addr} {n c : Nat} {xs : List Nat} (h : w.ownsRow base 5 1 (.slice A n c) n (u8s xs)) (hl : n ≤ 100000) (N : Nat) (hN : N ≤ 65535) (hb : base ≤ w.heap.size) :
    Calls Try.prog 57 #[.slice A n c, .int .i64 (N : Nat)] w fun e w' => ∃ A' c', e = .returned (.slice A' (n + 4) c') ∧ w'.ownsRow base 5 1 (.slice A' (n + 4) c') (n + 4) (u8s (xs ++ fourB N)) ∧ Below base w w' := by
  obtain ⟨i0, hi, hz0, hz1, hz2⟩ := info_parts info_u8
  have hNI : (N : Int) ≤ 65535 := by omega
  obtain ⟨p, hp⟩ : ∃ p : Int, ((N / 256 : Nat) : Int) = p := ⟨_, rfl⟩
  obtain ⟨q, hq⟩ : ∃ q : Int, ((N % 256 : Nat) : Int) = q := ⟨_, rfl⟩
  have HF : Hid (u8s (fourB N) = [.int .u8 0, .int .u8 0, .int .u8 p, .int .u8 q]) := Lib.hid (by
    have h1 : N / 16777216 % 256 = 0 := by omega
    have h2 : N / 65536 % 256 = 0 := by omega
    have h3 : N / 256 % 256 = N / 256 := by omega
    simp only [fourB, u8s, h1, h2, h3, ← hp, ← hq]
    rfl)
  have e1 : (N : Int).tdiv 16777216 = 0 := by rw [Int.tdiv_eq_ediv_of_nonneg (by omega)]; omega
  have e2 : (N : Int).tdiv 65536 = 0 := by rw [Int.tdiv_eq_ediv_of_nonneg (by omega)]; omega
  have e3 : (N : Int).tdiv 256 = p := by rw [Int.tdiv_eq_ediv_of_nonneg (by omega)]; omega
  have e4 : p.tmod 256 = p := by rw [Int.tmod_eq_emod_of_nonneg (by omega)]; omega
  have e5 : (N : Int).tmod 256 = q := by rw [Int.tmod_eq_emod_of_nonneg (by omega)]; omega
  have hpb : 0 ≤ p ∧ p < 256 := by omega
  have hqb : 0 ≤ q ∧ q < 256 := by omega
  have w3 : IntKind.u8.wrap p = p := IntWalk.u8_in _ (by omega)
  have w4 : IntKind.u8.wrap q = q := IntWalk.u8_in _ (by omega)
  obtain ⟨W4, hW4⟩ : ∃ W4, w.alloc (.cells #[.int .u8 0, .int .u8 0, .int .u8 p, .int .u8 q] 5) = W4 := ⟨_, rfl⟩
  have hown4 : W4.ownsRow base 5 1 (.slice A n c) n (u8s xs) := hW4 ▸ h.alloc _
  have hk4 : Below base w W4 := hW4 ▸ (Below.refl _ _).alloc hb _
  have h4 : Own W4 w.heap.size 5 [.int .u8 0, .int .u8 0, .int .u8 p, .int .u8 q] := hW4 ▸ Own.new w _ _
  have hb4 : base ≤ W4.heap.size := by rw [← hW4, World.size_alloc]; omega
  have HB := Lib.hid hb
  clear hp hq h hb
  go_enter Try.func57, Try.ntmps57
  go_wp2_with (at_builtin; refine wpList_append_own _ rfl _ _ 32 rfl base 5 i0 (.int .u8 0) 1 1 Try.underlying32 hi hz0 hz1 hz2 rfl (by decide) _ _ _ rfl hown4 ⟨w.heap.size, 0, none⟩ 4 4 [.int .u8 0, .int .u8 0, .int .u8 p, .int .u8 q] rfl rfl (fun j u hj => by rw [addr0, h4.cell]; exact hj) (by simp [Value.oneCell']) (by simp only [maxLen]; omega) (by omega) hb4 ?_; intro v' w3 hown3 hgrow hnil; obtain ⟨A6, c6, rfl, -⟩ := hown3.sl)
  go_ret
  refine ⟨A6, c6, rfl, ?_, hk4.grown hgrow hb4 (fun b e => (hown4.lt b e).1)⟩
  rw [u8s_append, HF.out]
  exact hown3
end Go.Proofs.Ytbkcnhbdjllojaa
