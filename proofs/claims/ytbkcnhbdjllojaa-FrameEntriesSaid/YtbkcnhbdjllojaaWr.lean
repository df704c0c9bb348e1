/- The writer of bits: bit and code, the walks. -/
import Derived.Test.YtbkcnhbdjllojaaRest
import Derived.Test.YtbkcnhbdjllojaaMem3
import Derived.Test.YtbkcnhbdjllojaaPBits
import Derived.StillTailTactics
namespace Go.Proofs.Ytbkcnhbdjllojaa
open Go.RowKit Go.Shelf

theorem info_u8 : (Try.prog.info? 5).map (fun i => (i.zero, i.size, i.bytes)) = some (some (.int .u8 0), 1, 1) := by kernel_rfl
/-- a row of bytes of the call's own -/
abbrev BOwn (w : World) (base : Nat) (V : Value) (xs : List Nat) : Prop := w.ownsRow base 5 1 V xs.length (u8s xs)
/-- the writer at block bw has written bs -/
def WrSt (w : World) (bw : Nat) (bs : List Bool) : Prop := ∃ V, Own w bw 88 [V, .int .i64 (freeB bs : Nat)] ∧ BOwn w (bw + 1) V (pack bs)
theorem or_u8 {x f : Nat} (hx : x < 256) (hf : f < 8) (h : x % 2 ^ (f + 1) = 0) : bits .or .u8 (x : Int) ((2 ^ f : Nat) : Int) = ((x + 2 ^ f : Nat) : Int) := by
  have hp : 2 ^ f < 256 := Nat.lt_of_lt_of_le (Nat.pow_lt_pow_right (by omega) hf) (by omega)
  have h3 : x + 2 ^ f < 256 := by
    rw [← or_pow h]
    exact Nat.or_lt_two_pow (n := 8) (by omega) (by omega)
  have h1 : (BitVec.ofInt 8 (x : Int)).toNat = x := by simp; omega
  have h2 : (BitVec.ofInt 8 ((2 ^ f : Nat) : Int)).toNat = 2 ^ f := by rw [BitVec.toNat_ofInt]; omega
  show IntKind.u8.wrap ((BitVec.ofInt 8 (x : Int) ||| BitVec.ofInt 8 ((2 ^ f : Nat) : Int)).toNat : Int) = _
  rw [BitVec.toNat_or, h1, h2, or_pow h]
  have h4 : ((x + 2 ^ f : Nat) : Int) < 256 := by omega
  exact IntWalk.u8_in _ (by omega)
theorem freeB_le (bs : List Bool) : freeB bs ≤ 7 := by unfold freeB; omega
theorem Own.two2 {w : World} {b : Nat} {t : TypeId} {x y : Value} (h : Own w b t [x, y]) (x' y' y2 : Value) : Own (((w.setCell ⟨b, 0, none⟩ x').setCell ⟨b, 1, none⟩ y').setCell ⟨b, 1, none⟩ y2) b t [x', y2] := (((h.set 0 x').set 1 y').set 1 y2)
set_option maxRecDepth 100000 in
set_option maxHeartbeats 2000000 in
theorem wbit_any {w : World} {bw : Nat} {bs : List Bool} (h : WrSt w bw bs) (hl : bs.length ≤ 10000000) (b : Bool) :
    Calls Try.prog 74 #[.pointer (some ⟨bw, 0, none⟩), .bool b] w fun e w' => (∃ v, e = .returned v) ∧ WrSt w' bw (bs ++ [b]) ∧ Below bw w w' := by
  obtain ⟨V, hb, hown⟩ := h
  obtain ⟨i0, hi, hz0, hz1, hz2⟩ := info_parts info_u8
  have hpl := pack_length bs
  have c0 := hb.cell 0
  have c1 := hb.cell 1
  have f0 := hb.frozen 0
  have f1 := hb.frozen 1
  simp only [List.getElem?_cons_zero, List.getElem?_cons_succ] at c0 c1
  have hbl := hb.lt
  have hpI : ((pack bs).length : Int) ≤ 10000000 := by omega
  by_cases hf : freeB bs = 0
  · obtain ⟨p1, p2⟩ := pack_snoc0 b hf
    rw [hf] at c1
    have HP1 := Lib.hid p1
    have HP2 := Lib.hid p2
    generalize pack bs = out at *
    clear hpl p1 p2 hf
    have hown1 := hown.alloc (.cells #[.int .u8 0] 5)
    obtain ⟨A, c, rfl, -⟩ := hown.sl
    have hne : some bw ≠ (Value.slice A out.length c).ownBlock := fun e => by have := hown.lo bw (by rw [blkOf, ← e]; simp); omega
    cases b with
    | false =>
      go_enter Try.func74, Try.ntmps74
      go_wp2_with (at_builtin; refine wpList_append_own _ rfl _ _ 32 rfl (bw + 1) 5 i0 (.int .u8 0) 1 1 Try.underlying32 hi hz0 hz1 hz2 rfl (by decide) _ _ _ rfl hown1 ⟨w.heap.size, 0, none⟩ 1 1 [.int .u8 0] rfl rfl (cell_one_new _ _ _) (by simp [Value.oneCell']) (by simp only [maxLen]; omega) (by omega) (by simp; omega) ?_; intro v' w3 hown3 hgrow hnil; have hb3 := (hb.alloc (.cells #[.int .u8 0] 5)).grown hgrow hne; obtain ⟨g, c3, rfl, hg1, hg2, -, -, hcell, hfro, hset⟩ := hown3.open1 (by omega); have hk3 : Below bw w w3 := ((Below.refl bw w).alloc (by omega) _).grown hgrow (by simp; omega) (fun b e => by have := (hown.lt b e).1; omega); have g0 := hb3.cell 0; have g1 := hb3.cell 1; have t0 := hb3.frozen 0; have t1 := hb3.frozen 1; simp only [List.getElem?_cons_zero, List.getElem?_cons_succ] at g0 g1; clear c0 c1 f0 f1 hown hown1)
      have hown4 := ((hown3.far (p := ⟨bw, 0, none⟩) (Nat.lt_succ_self bw) (.slice (some ⟨g, 0, none⟩) (out.length + 1) c3)).far (p := ⟨bw, 1, none⟩) (Nat.lt_succ_self bw) (.int .i64 8)).far (p := ⟨bw, 1, none⟩) (Nat.lt_succ_self bw) (.int .i64 7)
      have hb4 := hb3.two2 (.slice (some ⟨g, 0, none⟩) (out.length + 1) c3) (.int .i64 8) (.int .i64 7)
      have hk4 := ((hk3.setCell (p := ⟨bw, 0, none⟩) (Nat.le_refl bw) (.slice (some ⟨g, 0, none⟩) (out.length + 1) c3)).setCell (p := ⟨bw, 1, none⟩) (Nat.le_refl bw) (.int .i64 8)).setCell (p := ⟨bw, 1, none⟩) (Nat.le_refl bw) (.int .i64 7)
      generalize ((w3.setCell ⟨bw, 0, none⟩ (.slice (some ⟨g, 0, none⟩) (out.length + 1) c3)).setCell ⟨bw, 1, none⟩ (.int .i64 8)).setCell ⟨bw, 1, none⟩ (.int .i64 7) = w4 at *
      go_end0
      refine ⟨⟨_, rfl⟩, ⟨_, by rw [HP2.out]; exact hb4, ?_⟩, hk4⟩
      unfold BOwn
      rw [HP1.out, List.length_append, u8s_snoc]
      exact hown4
    | true =>
      go_enter Try.func74, Try.ntmps74
      go_wp2_with (at_builtin; refine wpList_append_own _ rfl _ _ 32 rfl (bw + 1) 5 i0 (.int .u8 0) 1 1 Try.underlying32 hi hz0 hz1 hz2 rfl (by decide) _ _ _ rfl hown1 ⟨w.heap.size, 0, none⟩ 1 1 [.int .u8 0] rfl rfl (cell_one_new _ _ _) (by simp [Value.oneCell']) (by simp only [maxLen]; omega) (by omega) (by simp; omega) ?_; intro v' w3 hown3 hgrow hnil; have hb3 := (hb.alloc (.cells #[.int .u8 0] 5)).grown hgrow hne; obtain ⟨g, c3, rfl, hg1, hg2, -, -, hcell, hfro, hset⟩ := hown3.open1 (by omega); have hk3 : Below bw w w3 := ((Below.refl bw w).alloc (by omega) _).grown hgrow (by simp; omega) (fun b e => by have := (hown.lt b e).1; omega); have g0 := hb3.cell 0; have g1 := hb3.cell 1; have t0 := hb3.frozen 0; have t1 := hb3.frozen 1; simp only [List.getElem?_cons_zero, List.getElem?_cons_succ] at g0 g1; clear c0 c1 f0 f1 hown hown1)
      have hown4 := ((hown3.far (p := ⟨bw, 0, none⟩) (Nat.lt_succ_self bw) (.slice (some ⟨g, 0, none⟩) (out.length + 1) c3)).far (p := ⟨bw, 1, none⟩) (Nat.lt_succ_self bw) (.int .i64 8)).far (p := ⟨bw, 1, none⟩) (Nat.lt_succ_self bw) (.int .i64 7)
      have hb5 := hb3.two2 (.slice (some ⟨g, 0, none⟩) (out.length + 1) c3) (.int .i64 8) (.int .i64 7)
      have hk5 := ((hk3.setCell (p := ⟨bw, 0, none⟩) (Nat.le_refl bw) (.slice (some ⟨g, 0, none⟩) (out.length + 1) c3)).setCell (p := ⟨bw, 1, none⟩) (Nat.le_refl bw) (.int .i64 8)).setCell (p := ⟨bw, 1, none⟩) (Nat.le_refl bw) (.int .i64 7)
      generalize ((w3.setCell ⟨bw, 0, none⟩ (.slice (some ⟨g, 0, none⟩) (out.length + 1) c3)).setCell ⟨bw, 1, none⟩ (.int .i64 8)).setCell ⟨bw, 1, none⟩ (.int .i64 7) = w5 at *
      clear g0 g1 t0 t1 hb3 hk3 hown3 hgrow hnil hcell hfro hset
      obtain ⟨q, hqs'⟩ : ∃ q, out.length = q := ⟨_, rfl⟩
      have HIQ : Hid (out.length = q) := Lib.hid hqs'
      obtain ⟨n, hn⟩ : ∃ n, q + 1 = n := ⟨_, rfl⟩
      obtain ⟨x, hx⟩ : ∃ x : Nat, x = 0 := ⟨_, rfl⟩
      obtain ⟨y, hy⟩ : ∃ y : Nat, y = 128 := ⟨_, rfl⟩
      have hown5 : w5.ownsRow (bw + 1) 5 1 (.slice (some ⟨g, 0, none⟩) n c3) n (u8s (out ++ [x])) := by rw [u8s_snoc, hx, ← hn, ← hqs']; exact hown4
      have HP3 : Hid (pack (bs ++ [true]) = out ++ [y]) := Lib.hid (by rw [HP1.out, hy]; rfl)
      replace HP1 := HP3
      have hor : bits .or .u8 0 128 = (y : Int) := by rw [hy]; exact or_u8 (x := 0) (f := 7) (by omega) (by omega) (by omega)
      have hor2 : bits .or .u8 (x : Int) 128 = (y : Int) := by rw [hx]; exact hor
      have hnI : (n : Int) - 1 = q := by omega
      have hqI : (q : Int) ≤ 10000000 := by omega
      rw [hqs', hn] at hb5
      have HN : Hid (n = q + 1) := Lib.hid hn.symm
      clear hn hqs' hx hy hor hown4
      have r0 := hb5.cell 0
      have r1 := hb5.cell 1
      simp only [List.getElem?_cons_zero, List.getElem?_cons_succ] at r0 r1
      obtain ⟨g', c', e, hg1, hg2, -, -, hcell, hfro, -⟩ := hown5.open1 (by have := HN.out; omega)
      cases e
      have rx := hcell q (.int .u8 (x : Nat)) (by rw [u8s_snoc, ← HIQ.out, ← u8s_length out, List.getElem?_concat_length])
      clear hcell hfro
      have hwn : IntKind.i64.wrap (q : Int) = q := IntWalk.i64_in _ (by omega)
      have hqn : q < n := by have := HN.out; omega
      go_still_tail 18, rfl
      change wpList _ _ _ _ _ w5.drew
      generalize hw6 : w5.drew = w6
      have hb6 : Own w6 bw 88 [_, _] := hw6 ▸ hb5.drew
      have hs6 : w6.ownsRow (bw + 1) 5 1 (.slice (some ⟨g, 0, none⟩) n c3) n (u8s (out ++ [x])) := hw6 ▸ hown5
      have hk6 : Below bw w w6 := hw6 ▸ Below.drew hk5
      have rx : w6.cell? ⟨g, q, none⟩ = some (.int .u8 (x : Nat)) := hw6 ▸ rx
      clear hw6 r0 r1 hown5 hb5 hk5 hg2
      obtain ⟨g', c', e, -, hg2, -, -, -, hfro, hset⟩ := hs6.open1 (by omega)
      cases e
      have fx := hfro q
      clear hfro
      go_wp2
      go_end0
      rw [hor2]
      have hs7 := hset q (.int .u8 ((y : Nat) : Int)) hqn
      have hb7 := hb6.far (p := ⟨g, q, none⟩) (by show bw ≠ g; omega) (.int .u8 ((y : Nat) : Int))
      have hk7 := hk6.setCell (p := ⟨g, q, none⟩) (by show bw ≤ g; omega) (.int .u8 ((y : Nat) : Int))
      refine ⟨⟨_, rfl⟩, ⟨_, by rw [HP2.out]; exact hb7, ?_⟩, hk7⟩
      unfold BOwn
      rw [HP1.out, List.length_append, HIQ.out, u8s_snoc, show q + [y].length = n from HN.out.symm]
      rw [u8s_snoc, ← HIQ.out, ← u8s_length out, set_last, u8s_length, HIQ.out] at hs7
      exact hs7
  · obtain ⟨ini, x, p1, p3, p4, p2, p5⟩ := pack_snoc1 b hf
    have hf7 := freeB_le bs
    have HP2 := Lib.hid p5
    rw [p1] at hown hpI hpl
    have HP1 := Lib.hid p2
    clear p1 p2 p5
    obtain ⟨A, c3, rfl, -⟩ := hown.sl
    obtain ⟨f, hff⟩ : ∃ f, freeB bs = f + 1 := ⟨freeB bs - 1, by omega⟩
    rw [hff] at c1 HP1 HP2 p3 hf7
    have HF := Lib.hid hff
    have HFB := Lib.hid hb
    clear hff hf hb
    obtain ⟨n, hn⟩ : ∃ n, (ini ++ [x]).length = n := ⟨_, rfl⟩
    obtain ⟨q, hq⟩ : ∃ q, ini.length = q := ⟨_, rfl⟩
    have hnq : n = q + 1 := by rw [← hn, ← hq]; simp
    have HN := Lib.hid hnq
    have HIQ := Lib.hid hq
    have hown' : w.ownsRow (bw + 1) 5 1 (.slice A n c3) n (u8s (ini ++ [x])) := by have := hown; unfold BOwn at this; rwa [hn] at this
    rw [hn] at c0 hpI hpl
    have hnI : (n : Int) - 1 = q := by omega
    have hqI : (q : Int) ≤ 10000000 := by omega
    have hb := HFB.out
    rw [hn, HF.out] at hb
    clear hown hn hq hnq
    have hlast : ∀ b y, b = false ∨ b = true → y = x + (if b = true then 2 ^ (f + 1 - 1) else 0) → y = y := fun _ _ _ _ => rfl
    clear hlast
    cases b with
    | false =>
      have e0 : (((f + 1 : Nat) : Int) == 0) = false := by simp; omega
      have e1 : ((f + 1 : Nat) : Int) - 1 = (f : Nat) := by omega
      go_enter Try.func74, Try.ntmps74
      go_wp2
      go_end0
      have hown4 := hown'.far (p := ⟨bw, 1, none⟩) (Nat.lt_succ_self bw) (.int .i64 ((f : Nat) : Int))
      have hb4 := hb.set 1 (.int .i64 ((f : Nat) : Int))
      refine ⟨⟨_, rfl⟩, ⟨_, by rw [HP2.out]; exact hb4, ?_⟩, (Below.refl bw w).setCell (p := ⟨bw, 1, none⟩) (Nat.le_refl _) _⟩
      unfold BOwn
      rw [HP1.out]
      rw [← HIQ.out] at HN
      have e4 : (ini ++ [x + 0]).length = n := by rw [HN.out]; simp
      rw [if_neg (by simp), e4, Nat.add_zero]
      exact hown4
    | true =>
      have e0 : (((f + 1 : Nat) : Int) == 0) = false := by simp; omega
      have e1 : ((f + 1 : Nat) : Int) - 1 = (f : Nat) := by omega
      have hor0 : bits .or .u8 (x : Int) ((2 ^ f : Nat) : Int) = ((x + 2 ^ f : Nat) : Int) := or_u8 p4 (by omega) p3
      obtain ⟨y, hy⟩ : ∃ y, x + 2 ^ f = y := ⟨_, rfl⟩
      rw [hy] at hor0
      have HP3 : Hid (pack (bs ++ [true]) = ini ++ [y]) := Lib.hid (by rw [HP1.out, if_pos rfl, Nat.add_sub_cancel, hy])
      replace HP1 := HP3
      have hg : ∃ g, A = some ⟨g, 0, none⟩ := by
        obtain ⟨g, c', e, -⟩ := hown'.open1 (by omega)
        cases e
        exact ⟨_, rfl⟩
      obtain ⟨g, rfl⟩ := hg
      have hf6 : f = 0 ∨ f = 1 ∨ f = 2 ∨ f = 3 ∨ f = 4 ∨ f = 5 ∨ f = 6 := by omega
      clear hy p3 hf7
      go_enter Try.func74, Try.ntmps74
      go_wp2
      have hown5 := hown'.far (p := ⟨bw, 1, none⟩) (Nat.lt_succ_self bw) (.int .i64 ((f : Nat) : Int))
      have hb5 := hb.set 1 (.int .i64 ((f : Nat) : Int))
      simp only [List.set_cons_succ, List.set_cons_zero] at hb5
      have hk5 := (Below.refl bw w).setCell (p := ⟨bw, 1, none⟩) (Nat.le_refl _) (.int .i64 ((f : Nat) : Int))
      generalize w.setCell ⟨bw, 1, none⟩ (.int .i64 ((f : Nat) : Int)) = w5 at *
      clear c0 c1 f0 f1 hown' hb hpl HFB e0 e1
      rcases hf6 with rfl | rfl | rfl | rfl | rfl | rfl | rfl
      all_goals
        have hor2 := hor0
        first | rw [show ((2 ^ 0 : Nat) : Int) = 1 from rfl] at hor2 | rw [show ((2 ^ 1 : Nat) : Int) = 2 from rfl] at hor2 | rw [show ((2 ^ 2 : Nat) : Int) = 4 from rfl] at hor2 | rw [show ((2 ^ 3 : Nat) : Int) = 8 from rfl] at hor2 | rw [show ((2 ^ 4 : Nat) : Int) = 16 from rfl] at hor2 | rw [show ((2 ^ 5 : Nat) : Int) = 32 from rfl] at hor2 | rw [show ((2 ^ 6 : Nat) : Int) = 64 from rfl] at hor2
        clear hor0
        have r0 := hb5.cell 0
        have r1 := hb5.cell 1
        simp only [List.getElem?_cons_zero, List.getElem?_cons_succ] at r0 r1
        obtain ⟨g', c', e, hg1, hg2, -, -, hcell, hfro, -⟩ := hown5.open1 (by have := HN.out; omega)
        cases e
        have rx := hcell q (.int .u8 (x : Nat)) (by rw [u8s_snoc, ← HIQ.out, ← u8s_length ini, List.getElem?_concat_length])
        clear hcell hfro
        have hwn : IntKind.i64.wrap (q : Int) = q := IntWalk.i64_in _ (by omega)
        have hqn : q < n := by have := HN.out; omega
        go_still_tail 18, rfl
        change wpList _ _ _ _ _ w5.drew
        generalize hw6 : w5.drew = w6
        have hb6 : Own w6 bw 88 [_, _] := hw6 ▸ hb5.drew
        have hs6 : w6.ownsRow (bw + 1) 5 1 (.slice (some ⟨g, 0, none⟩) n c3) n (u8s (ini ++ [x])) := hw6 ▸ hown5
        have hk6 : Below bw w w6 := hw6 ▸ Below.drew hk5
        have rx : w6.cell? ⟨g, q, none⟩ = some (.int .u8 (x : Nat)) := hw6 ▸ rx
        clear hw6 r0 r1 hown5 hb5 hk5 hg2
        obtain ⟨g', c', e, -, hg2, -, -, -, hfro, hset⟩ := hs6.open1 (by omega)
        cases e
        have fx := hfro q
        clear hfro
        go_wp2
        go_end0
        rw [hor2]
        have hs7 := hset q (.int .u8 ((y : Nat) : Int)) hqn
        have hb7 := hb6.far (p := ⟨g, q, none⟩) (by show bw ≠ g; omega) (.int .u8 ((y : Nat) : Int))
        have hk7 := hk6.setCell (p := ⟨g, q, none⟩) (by show bw ≤ g; omega) (.int .u8 ((y : Nat) : Int))
        refine ⟨⟨_, rfl⟩, ⟨_, by rw [HP2.out]; exact hb7, ?_⟩, hk7⟩
        unfold BOwn
        rw [HP1.out, List.length_append, HIQ.out, u8s_snoc, show q + [y].length = n from HN.out.symm]
        rw [u8s_snoc, ← HIQ.out, ← u8s_length ini, set_last, u8s_length, HIQ.out] at hs7
        exact hs7
end Go.Proofs.Ytbkcnhbdjllojaa
