/- volume.triangles: the walk. -/
import Derived.Test.YtecibfncnaccjaaGreatPo3
import Derived.Test.YtecibfncnaccjaaGreatPo29
import Derived.Deep.AppendLies
namespace Go.Proofs.YtecibfncnaccjaaGreat
open Go.RowKit Go.Shelf
theorem info_tri : (Tryz.prog.info? 74).map (fun i => (i.zero, i.size, i.bytes)) = some (some (.agg #[.int .i64 0, .int .i64 0, .int .i64 0]), 3, 24) := by kernel_rfl
def TRow (w : World) (A : Option Addr) (l : List Tri) : Prop := ∀ j t, l[j]? = some t → ∃ b o, A = some ⟨b, o, none⟩ ∧ b < w.heap.size ∧ w.cell? ⟨b, o + j * 3, none⟩ = some (.int .i64 (t.1 : Nat)) ∧ w.cell? ⟨b, o + j * 3 + 1, none⟩ = some (.int .i64 (t.2.1 : Nat)) ∧ w.cell? ⟨b, o + j * 3 + 2, none⟩ = some (.int .i64 (t.2.2 : Nat))
theorem TRow.below {w w' : World} {A : Option Addr} {l : List Tri} (h : TRow w A l) (hk : Keeps w w') : TRow w' A l := fun j t hj => by
 obtain ⟨b, o, e, hb, h0, h1, h2⟩ := h j t hj
 exact ⟨b, o, e, Nat.lt_of_lt_of_le hb hk.size, (hk.cell hb).trans h0, (hk.cell hb).trans h1, (hk.cell hb).trans h2⟩
theorem TRow.of_own {w : World} {B n c : Nat} {A : Option Addr} {l : List Tri} (h : w.ownsRow B 74 3 (.slice A n c) l.length (flatT l)) : TRow w A l := fun j t hj => by
 have hlt : j < l.length := (List.getElem?_eq_some_iff.1 hj).1
 rcases h.2 with ⟨_, h0⟩ | ⟨g, cap, cur, hv, hb, hg, hcap, hmax, hcs, htk⟩
 ·rw [h0] at hlt; cases hlt
 ·obtain ⟨rfl, -, -⟩ := Value.slice.inj hv
  obtain ⟨h0, h1, h2⟩ := flatT_at hj
  have hO : Own w g 74 (flatT l ++ cur.toList.drop (l.length * 3)) := by
   rw [← htk, List.take_append_drop]
   exact hg
  have hl := flatT_length l
  have cell : ∀ i v, (flatT l)[i]? = some v → w.cell? ⟨g, i, none⟩ = some v := fun i v hi => by
   rw [Own.cell hO, List.getElem?_append_left (List.getElem?_eq_some_iff.1 hi).1]
   exact hi
  exact ⟨g, 0, rfl, hO.lt, by rw [Nat.zero_add]; exact cell _ _ h0, by rw [Nat.zero_add]; exact cell _ _ h1, by rw [Nat.zero_add]; exact cell _ _ h2⟩
def TInv (w : World) (gx gy st : Int) (W H : Nat) (A : Option Addr) (c : Nat) (zs : List Int) (j i e : Nat) (V : Value) (wr : World) : Prop :=
 Own wr w.heap.size 24 (grL gx gy st (W : Nat) (H : Nat) A zs.length c) ∧
 wr.ownsRow (w.heap.size + 1) 74 3 V (preT zs W j i e).length (flatT (preT zs W j i e)) ∧ Keeps w wr
section
variable {w u : World} {gx gy st : Int} {W H : Nat} {A : Option Addr} {c : Nat} {zs : List Int} {j i e j' i' e' : Nat} {V V' : Value}
theorem TInv.to (h : TInv w gx gy st W H A c zs j i e V u) (he : preT zs W j i e = preT zs W j' i' e') : TInv w gx gy st W H A c zs j' i' e' V u := by
 unfold TInv at h ⊢
 rw [← he]
 exact h
theorem TInv.keep {u' : World} (h : TInv w gx gy st W H A c zs j i e V u) (hk : Keeps u u') : TInv w gx gy st W H A c zs j i e V u' :=
 ⟨h.1.below hk, h.2.1.keeps hk, h.2.2.trans' hk⟩
theorem TInv.app {wc w8 : World} (h : TInv w gx gy st W H A c zs j i e V u) (hk : Keeps u wc) (hg : wc.grownBy w8 V.ownBlock)
 (hr : w8.ownsRow (w.heap.size + 1) 74 3 V' (preT zs W j' i' e').length (flatT (preT zs W j' i' e'))) : TInv w gx gy st W H A c zs j' i' e' V' w8 := by
 obtain ⟨h1, h5, h6⟩ := h
 have ht := Turn.of_grown hg
 have hlo : ∀ b ∈ blkOf V, w.heap.size + 1 ≤ b := fun b hb => (h5.lo b hb).1
 exact ⟨(h1.below hk).turn ht (fun hm => by have := hlo _ hm; omega), hr, ((Turn.of_keeps (T := []) (h6.trans' hk)).trans (T' := blkOf V) ht (fun b hb hlt => by have := hlo b hb; omega)).keeps (fun b hb => by cases hb)⟩
end
theorem ownsRow_lower {w : World} {B B' n size : Nat} {e : TypeId} {v : Value} {xs : List Value} (h : w.ownsRow B' e size v n xs) (hB : B ≤ B') : w.ownsRow B e size v n xs :=
 ⟨h.1, h.2.imp id fun ⟨g, cap, cur, a, b, r⟩ => ⟨g, cap, cur, a, Nat.le_trans hB b, r⟩⟩
def GivesT (l : List Tri) (w : World) (e : Ending) (w' : World) : Prop := ∃ A c, e = .returned (.slice A l.length c) ∧ w'.ownsRow w.heap.size 74 3 (.slice A l.length c) l.length (flatT l) ∧ Keeps w w'
theorem own_cellsT {w : World} {b : Nat} {t : TypeId} {vs : List Value} (h : Own w b t vs) : ∀ j u, vs[j]? = some u → w.cell? ((⟨b, 0, none⟩ : Addr).add j) = some u := fun j u hj => by
 rw [show (⟨b, 0, none⟩ : Addr).add j = ⟨b, j, none⟩ by unfold Addr.add; split <;> simp_all, h.cell]
 exact hj
set_option maxRecDepth 100000 in
set_option maxHeartbeats 4000000 in
theorem vtriangles_any {w : World} {A : Option Addr} {c : Nat} {zs : List Int} (hr : IRow w A zs) (gx gy st : Int) (W H : Nat) (hW : 2 ≤ W ∧ W ≤ 64) (hH : 2 ≤ H ∧ H ≤ 64) (hl : zs.length = W * H) :
 Calls Tryz.prog 41 #[grV gx gy st (W : Nat) (H : Nat) A zs.length c] w (GivesT (triL W H zs) w) := by
 obtain ⟨i0, hi, hz0, hz1, hz2⟩ := info_parts info_tri
 have S := (St.start w).alloc 24 (grL gx gy st (W : Nat) (H : Nat) A zs.length c)
 obtain ⟨W0, hW0, S⟩ := S.pack
 have HR := Lib.hid hr
 have hn : zs.length ≤ 4096 := by rw [hl]; exact Nat.mul_le_mul hW.2 hH.2
 have HL := Lib.hid hl
 have hWI : (W : Int) ≤ 64 := by omega
 have hHI : (H : Int) ≤ 64 := by omega
 have hW2 : (2 : Int) ≤ W := by omega
 have hH2 : (2 : Int) ≤ H := by omega
 obtain ⟨n, hne⟩ : ∃ n, zs.length = n := ⟨_, rfl⟩
 have HN := Lib.hid hne
 have hnI : (n : Int) ≤ 4096 := by omega
 have HINV : Hid (TInv w gx gy st W H A c zs 0 0 0 (.slice none 0 0) W0) := Lib.hid ⟨S.o 0 rfl, by rw [preT_start]; exact World.ownsRow_nil _ _ _ _, S.k⟩
 have x4 := S.c 0 4 rfl rfl
 rw [hne] at S hW0 ⊢
 clear hr hl hn
 go_enter Tryz.func41, Tryz.ntmps41
 go_wp2
 clear x4 S hW0
 go_loopw [12, 3] (fun ij V wr => ∃ j : Nat, j ≤ H - 1 ∧ ij = .int .i64 (j : Nat) ∧ TInv w gx gy st W H A c zs j 0 0 V wr) (fun ij _ _ => H - (intOf ij).toNat)
 case atStart => exact ⟨0, Nat.zero_le _, rfl, HINV.out⟩
 case round =>
  clear HINV
  obtain ⟨j, hj, rfl, hinv⟩ := hrel
  by_cases hlt : j < H - 1
  ·have hjI : (j : Int) < (H : Int) - 1 := by omega
   have t1 : decide ((j : Int) < (H : Int) - 1) = true := decide_eq_true hjI
   have HI0 := Lib.hid hinv
   have x3 := hinv.1.cell 3
   simp only [List.getElem?_cons_zero, List.getElem?_cons_succ] at x3
   clear hinv
   go_wp2
   clear x3
   go_loopw [18, 3] (fun ii V wr => ∃ i : Nat, i ≤ W - 1 ∧ ii = .int .i64 (i : Nat) ∧ TInv w gx gy st W H A c zs j i 0 V wr) (fun ii _ _ => W - (intOf ii).toNat)
   case atStart => exact ⟨0, Nat.zero_le _, rfl, HI0.out⟩
   case round =>
    clear HI0
    obtain ⟨i, hi2, rfl, hinv⟩ := hrel
    by_cases hlx : i < W - 1
    ·have hiI : (i : Int) < (W : Int) - 1 := by omega
     have t2 : decide ((i : Int) < (W : Int) - 1) = true := decide_eq_true hiI
     have hq : (j : Int) * (W : Int) = ((j * W : Nat) : Int) := by simp
     have hyW : j * W ≤ 63 * 64 := Nat.mul_le_mul (by omega) (by omega)
     have htop : j * W + i + W + 1 < W * H := idx_top (by omega) (by omega) (Nat.le_refl _)
     rw [← HL.out, HN.out] at htop
     obtain ⟨k0, hk0⟩ : ∃ k0, j * W = k0 := ⟨_, rfl⟩
     have HK0 := Lib.hid hk0
     rw [hk0] at hq hyW htop
     have hk0I : (k0 : Int) ≤ 4032 := by omega
     obtain ⟨k, hk⟩ : ∃ k, k0 + i = k := ⟨_, rfl⟩
     have HKE : Hid (j * W + i = k) := Lib.hid (by rw [hk0, hk])
     rw [hk] at htop
     have hkI : (k0 : Int) + (i : Int) = (k : Int) := by omega
     have hkI4 : (k : Int) ≤ 4096 := by omega
     have hft : flatT (pairT W k) = [.int .i64 (k : Nat), .int .i64 ((k + 1 : Nat) : Nat), .int .i64 ((k + W + 1 : Nat) : Nat), .int .i64 (k : Nat), .int .i64 ((k + W + 1 : Nat) : Nat), .int .i64 ((k + W : Nat) : Nat)] := rfl
     obtain ⟨k1, hk1⟩ : ∃ k1, k + 1 = k1 := ⟨_, rfl⟩
     obtain ⟨k2, hk2⟩ : ∃ k2, k + W = k2 := ⟨_, rfl⟩
     rw [hk1, hk2] at hft
     obtain ⟨k3, hk3⟩ : ∃ k3, k2 + 1 = k3 := ⟨_, rfl⟩
     rw [hk3] at hft
     obtain ⟨W1, hW1⟩ : ∃ W1, wr.alloc (.cells #[.int .i64 (k : Nat), .int .i64 (k1 : Nat), .int .i64 (k3 : Nat), .int .i64 (k : Nat), .int .i64 (k3 : Nat), .int .i64 (k2 : Nat)] 74) = W1 := ⟨_, rfl⟩
     have hkk := hW1 ▸ box2 wr (.cells #[.int .i64 (k : Nat), .int .i64 (k1 : Nat), .int .i64 (k3 : Nat), .int .i64 (k : Nat), .int .i64 (k3 : Nat), .int .i64 (k2 : Nat)] 74)
     have hO : Own W1 wr.heap.size 74 (flatT (pairT W k)) := by
      rw [hft]
      exact hW1 ▸ Own.new wr 74 [.int .i64 (k : Nat), .int .i64 (k1 : Nat), .int .i64 (k3 : Nat), .int .i64 (k : Nat), .int .i64 (k3 : Nat), .int .i64 (k2 : Nat)]
     have HI1 := Lib.hid (hinv.keep hkk)
     have hinv0 := hinv
     have HO1 := Lib.hid hO
     have x3 := hinv.1.cell 3
     simp only [List.getElem?_cons_zero, List.getElem?_cons_succ] at x3
     have e1 : (k : Int) + 1 = (k1 : Int) := by omega
     have e2 : (k : Int) + (W : Int) = (k2 : Int) := by omega
     have e3 : (k2 : Int) + 1 = (k3 : Int) := by omega
     have b1 : (k1 : Int) ≤ 4097 := by omega
     have b2 : (k2 : Int) ≤ 4160 := by omega
     have b3 : (k3 : Int) ≤ 4161 := by omega
     clear hft hk1 hk2 hk3
     have HTOP := Lib.hid htop
     clear hinv hk0 hk hyW hkk hO htop
     have hinv0 := Lib.hid hinv0
     go_wp2
     replace hinv0 := hinv0.out
     have hlo := HI1.out.2.1
     have hbB : wr.heap.size ∉ blkOf u3 := fun hm => by have := (hinv0.2.1.lo _ hm).2; omega
     obtain ⟨B6, hB6⟩ : ∃ B, wr.heap.size = B := ⟨_, rfl⟩
     rw [hB6] at HO1 hbB ⊢
     have HV0 := Lib.hid hbB
     have hw6 : w.heap.size < B6 := by have := hinv0.1.lt; omega
     clear hlo hinv0 hB6 hW1 x3 hbB
     go_loopw [49, 3] (fun ie V wr => ∃ e : Nat, e ≤ 2 ∧ ie = .int .i64 (e : Nat) ∧ TInv w gx gy st W H A c zs j i e V wr ∧ Own wr B6 74 (flatT (pairT W k)) ∧ B6 ∉ blkOf V) (fun ie _ _ => 2 - (intOf ie).toNat)
     case atStart => exact ⟨0, Nat.zero_le _, rfl, HI1.out, HO1.out, HV0.out⟩
     case round =>
      clear HI1 HO1 HV0
      obtain ⟨e, he, rfl, hinv, hO, hbV⟩ := hrel
      by_cases hle : e < 2
      ·have heI : (e : Int) < 2 := by omega
       obtain ⟨a, b, d, hp, ha1, ha2, hb1, hb2, hd1, hd2⟩ := pair_at W k hle
       obtain ⟨f0, f1, f2⟩ := flatT_at hp
       have hp0 := hp
       rw [← HKE.out] at hp0
       simp only at f0 f1 f2
       have c0 : wr.cell? ⟨B6, e * 3, none⟩ = some (.int .i64 (a : Nat)) := (hO.cell _).trans f0
       have c1 : wr.cell? ⟨B6, e * 3 + 1, none⟩ = some (.int .i64 (b : Nat)) := (hO.cell _).trans f1
       have c2 : wr.cell? ⟨B6, e * 3 + 2, none⟩ = some (.int .i64 (d : Nat)) := (hO.cell _).trans f2
       have hlen : a < zs.length ∧ b < zs.length ∧ d < zs.length := by
        have := HTOP.out
        have := HN.out
        have := HKE.out
        have := HK0.out
        omega
       have hn1 := preT_next (zs := zs) hp0
       obtain ⟨W2, hW2⟩ : ∃ W2, wr.alloc (.cells #[.int .i64 (a : Nat), .int .i64 (b : Nat), .int .i64 (d : Nat)] 74) = W2 := ⟨_, rfl⟩
       have hk2 : Keeps wr W2 := hW2 ▸ box2 wr _
       have hO8 : Own W2 wr.heap.size 74 [.int .i64 (a : Nat), .int .i64 (b : Nat), .int .i64 (d : Nat)] := hW2 ▸ Own.new wr _ _
       have hr2 := HR.out.below (hinv.2.2.trans' hk2)
       obtain ⟨bz, oz, rfl, z0⟩ := IRow.at hr2 hlen.1
       obtain ⟨bz', oz', e0, z1⟩ := IRow.at hr2 hlen.2.1
       cases e0
       obtain ⟨bz', oz', e0, z2⟩ := IRow.at hr2 hlen.2.2
       cases e0
       have HI2 := Lib.hid (hinv.keep hk2)
       have HO2 := Lib.hid (hO.below hk2)
       have HO8 := Lib.hid hO8
       have hO1 := hinv.1.below hk2
       have x5 := hO1.cell 5
       have g0 := hO8.cell 0
       have g1 := hO8.cell 1
       have g2 := hO8.cell 2
       simp only [List.getElem?_cons_zero, List.getElem?_cons_succ] at x5 g0 g1 g2
       rw [HN.out] at x5 hlen
       have haI : (a : Int) < n := by omega
       have hbI : (b : Int) < n := by omega
       have hdI : (d : Int) < n := by omega
       have HB := Lib.hid hbV
       have hh : hereT zs (a, b, d) = (zs.getD a 0 != -2147483648 && zs.getD b 0 != -2147483648 && zs.getD d 0 != -2147483648) := rfl
       generalize zs.getD a 0 = za at *
       generalize zs.getD b 0 = zb at *
       generalize zs.getD d 0 = zd at *
       obtain ⟨p0, d0⟩ : ∃ p, (za != -2147483648) = p := ⟨_, rfl⟩
       obtain ⟨p1, d1⟩ : ∃ p, (zb != -2147483648) = p := ⟨_, rfl⟩
       obtain ⟨p2, d2⟩ : ∃ p, (zd != -2147483648) = p := ⟨_, rfl⟩
       rw [d0, d1, d2] at hh
       rw [hh] at hn1
       have HN1 := Lib.hid hn1
       have HRW := Lib.hid hinv.2.1
       have hszw : wr.heap.size < W2.heap.size := hO8.lt
       have hszB : B6 < wr.heap.size := hO.lt
       clear hinv hO hbV hp hp0 ha1 ha2 hb1 hb2 hd1 hd2 f0 f1 f2 hr2 hO8 hO1 hh hn1 hlen
       by_cases hall : (p0 && p1 && p2) = true
       ·obtain rfl : p0 = true := by revert hall; cases p0 <;> simp
        obtain rfl : p1 = true := by revert hall; cases p1 <;> simp
        obtain rfl : p2 = true := by revert hall; cases p2 <;> simp
        clear hall
        obtain ⟨W3, hW3⟩ : ∃ W3, W2.alloc (.cells #[.int .i64 (a : Nat), .int .i64 (b : Nat), .int .i64 (d : Nat)] 74) = W3 := ⟨_, rfl⟩
        have hk3 : Keeps W2 W3 := hW3 ▸ box2 W2 _
        have hO9 : Own W3 W2.heap.size 74 [.int .i64 (a : Nat), .int .i64 (b : Nat), .int .i64 (d : Nat)] := hW3 ▸ Own.new W2 _ _
        have HRW3 := Lib.hid ((HRW.out.keeps hk2).keeps hk3)
        have HC9 := Lib.hid (own_cellsT hO9)
        have HLN := preT_len (zs := zs) (j := j) (i := i) (e := e) hW.2 (by omega) (by omega)
        obtain ⟨N, hN⟩ : ∃ N, (preT zs W j i e).length = N := ⟨_, rfl⟩
        have HNN := Lib.hid hN
        rw [hN] at HLN HRW3
        have hm1 : N + 1 ≤ maxLen := by simp only [maxLen]; omega
        have hm2 : (N + 1) * 24 ≤ 140737488355328 := by omega
        have hm3 : w.heap.size + 1 ≤ W3.heap.size := by have := hO9.lt; omega
        have hm4 : ∀ u ∈ [Value.int .i64 (a : Nat), .int .i64 (b : Nat), .int .i64 (d : Nat)], u.oneCell' = true := by simp [Value.oneCell']
        have HM4 := Lib.hid hm4
        have hs3 : W3.heap.size = W2.heap.size + 1 := by rw [← hW3, World.size_alloc]
        have HS3 := Lib.hid hs3
        clear hO9 hN hm4 hs3
        go_wp2_with (at_builtin; refine wpList_append_lies _ rfl _ _ 63 rfl (w.heap.size + 1) 74 i0 _ 3 24 Tryz.underlying63 hi hz0 hz1 hz2 rfl (by decide) u3 N _ rfl HRW3.out ⟨W2.heap.size, 0, none⟩ 1 1 [.int .i64 (a : Nat), .int .i64 (b : Nat), .int .i64 (d : Nat)] rfl rfl HC9.out HM4.out (by decide) hm1 hm2 hm3 _ rfl ?_; intro gg cap w8 hown8 hgrow hat hlt8)
        have hne8 : B6 ∉ blkOf (.slice (some ⟨gg, 0, none⟩) (N + 1) cap) := by
         simp only [blkOf, Value.ownBlock]
         simp only [Option.toList, List.mem_singleton]
         rintro rfl
         rcases hat with hat | hat
         ·exact HB.out (by simp [blkOf, hat])
         ·rw [HS3.out] at hat; omega
        have HR8 : Hid (w8.ownsRow (w.heap.size + 1) 74 3 (.slice (some ⟨gg, 0, none⟩) (N + 1) cap) (preT zs W j i (e + 1)).length (flatT (preT zs W j i (e + 1)))) := Lib.hid (by
         rw [HN1.out, if_pos (show (true && true && true) = true from rfl), flatT_append, List.length_append, List.length_singleton, HNN.out]
         exact hown8)
        have HF := Lib.hid (HI2.out.app hk3 hgrow HR8.out)
        have HO8' := Lib.hid (((HO2.out.below hk3).turn (Turn.of_grown hgrow) HB.out))
        have HB8 := Lib.hid hne8
        clear hown8 hgrow hat hlt8 hne8
        go_wp2
        go_roundw
        case rel => exact ⟨e + 1, by omega, by go_num, HF.out, HO8'.out, HB8.out⟩
        case measure => simp [intOf]; omega
       ·have HF := Lib.hid (HI2.out.to (e' := e + 1) (j' := j) (i' := i) (by rw [HN1.out, if_neg hall, List.append_nil]))
        have hcs : p0 = false ∨ (p0 = true ∧ p1 = false) ∨ (p0 = true ∧ p1 = true ∧ p2 = false) := by revert hall; cases p0 <;> cases p1 <;> cases p2 <;> simp
        clear hall
        rcases hcs with rfl | ⟨rfl, rfl⟩ | ⟨rfl, rfl, rfl⟩
        all_goals
         go_wp2
         go_roundw
         case rel => exact ⟨e + 1, by omega, by go_num, HF.out, HO2.out, HB.out⟩
         case measure => simp [intOf]; omega
      ·have heI : ¬ (e : Int) < 2 := by omega
       obtain rfl : e = 2 := by omega
       have HF := Lib.hid (hinv.to (j' := j) (i' := i + 1) (e' := 0) (preT_cell zs W j i))
       clear hinv hO hbV
       go_wp2
       go_roundw
       case rel => exact ⟨i + 1, by omega, by go_num, HF.out⟩
       case measure => simp [intOf]; omega
    ·have hiI : ¬ (i : Int) < (W : Int) - 1 := by omega
     have t2 : decide ((i : Int) < (W : Int) - 1) = false := decide_eq_false hiI
     have HF := Lib.hid (hinv.to (j' := j + 1) (i' := 0) (e' := 0) (by rw [show i = W - 1 by omega]; exact preT_row zs W j))
     clear hinv
     go_wp2
     go_roundw
     case rel => exact ⟨j + 1, by omega, by go_num, HF.out⟩
     case measure => simp [intOf]; omega
  ·have hjI : ¬ (j : Int) < (H : Int) - 1 := by omega
   have t1 : decide ((j : Int) < (H : Int) - 1) = false := decide_eq_false hjI
   obtain ⟨-, hrow, hkw⟩ := hinv.to (j' := H - 1) (i' := 0) (e' := 0) (by rw [show j = H - 1 by omega])
   rw [preT_end] at hrow
   obtain ⟨A1, c1, rfl, -⟩ := hrow.sl
   go_wp2
   go_ret
   exact ⟨A1, c1, rfl, ownsRow_lower hrow (by omega), hkw⟩
end Go.Proofs.YtecibfncnaccjaaGreat
