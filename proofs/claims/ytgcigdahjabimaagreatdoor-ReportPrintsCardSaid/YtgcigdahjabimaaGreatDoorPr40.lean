/- report.natural: the walk. The loops over a text: are all bytes digits, where is a byte. strings.Cut and its like at one byte. report.Parse's closure, report.number: the walks. -/
import Derived.Test.YtgcigdahjabimaaGreatDoorPr28
import Derived.Test.YtgcigdahjabimaaGreatDoorPr39
import Derived.Test.YtgcigdahjabimaaGreatDoorPr36
import Derived.Test.YtgcigdahjabimaaGreatDoorPr27
import Derived.Test.YtgcigdahjabimaaGreatDoorPr5
import Derived.Test.YtgcigdahjabimaaGreatDoorPr9
import Derived.Deep.DeepCutAuto
import Derived.Deep.LoopGhost
import Derived.Test.YtgcigdahjabimaaGreatDoorPr23
namespace Go.Proofs.YtgcigdahjabimaaGreatDoor
open Go.RowKit Go.Shelf
theorem nat_fin {w : World} {A : Option Addr} {k c j : Nat} {L : List Nat} {z : Nat} (hu : U32 w (.slice A k c) L) (hL : L.length = k) (hb : AllB L) (hj : j ≤ k) (ht : trimL (L.take j) = trimL L) (h2 : trimL (L.take j) = L.take j) (hv : val L = z) : IntRep w (.agg #[.bool false, .slice A j c]) (z : Nat) := by
 subst hL
 have e : j = (trimL L).length := by rw [← ht, h2, List.length_take]; omega
 obtain ⟨A', c', e', h1, h3, h0, h4⟩ := hu
 cases e'
 refine ⟨.slice A j c, by rw [decide_eq_false (by omega)], ?_⟩
 rw [Int.natAbs_natCast, ← hv, ← trimL_eq hb, e]
 exact U32.trim h4 h1 h3 h0
set_option maxRecDepth 100000 in
set_option maxHeartbeats 2000000 in
theorem natural_any {w : World} (d : ByteArray) (hd : d.size ≤ 5000) (he : EnvE w) :
 Calls Tryz.prog 120 #[.string d] w fun e w' => ∃ V, e = .returned V ∧ IntRep w' V (natV d.data.toList : Nat) ∧ Keeps w w' := by
 obtain ⟨i0, hi, hz0, hz1, hz2⟩ := info_parts info_u32
 have S := ((St.start w).alloc 29 [.bool false, .slice none 0 0]).alloc 29 [.bool false, .slice none 0 0]
 simp only [World.size_alloc] at S
 obtain ⟨W0, hW0, S⟩ := S.pack
 have HE := Lib.hid he
 have hdI : (d.size : Int) ≤ 5000 := by omega
 clear he
 go_enter Tryz.func120, Tryz.ntmps120
 go_wp2
 have HS0 := Lib.hid (show d.data.toList.length = d.size by simp)
 go_loopw [0] (fun s wr => ∃ (k m : Nat) (E : ByteArray) (A : Option Addr) (c : Nat), k ≤ (d.size + 8) / 9 ∧ m = d.size - 9 * k ∧ s = .string E ∧ Hid (E.data.toList = d.data.toList.take m) ∧ E.size = m ∧
  Hid (wr.ownsRow (w.heap.size + 2) 109 1 (.slice A k c) k (u32s (natK d.data.toList k))) ∧ St w wr [(w.heap.size + 1, 29, [.bool false, .slice A k c]), (w.heap.size, 29, [.bool false, .slice none 0 0])] []) (fun s _ => match s with | .string E => E.size | _ => 0)
 case atStart => exact ⟨0, d.size, d, none, 0, Nat.zero_le _, by omega, rfl, Lib.hid (by rw [List.take_of_length_le (by simp)]), rfl, Lib.hid ⟨rfl, .inl ⟨rfl, rfl⟩⟩, S⟩
 case round =>
  clear S
  obtain ⟨k, m, E, A, c, hk, hm, rfl, HEE, hem, HRW, S⟩ := hrel
  by_cases hpos : 0 < m
  ·obtain ⟨lo, hlo⟩ : ∃ lo, m - 9 = lo := ⟨_, rfl⟩
   have hposI : (0 : Int) < (m : Int) := by omega
   have t1 : decide ((0 : Int) < (m : Int)) = true := decide_eq_true hposI
   have mx : max (0 : Int) ((m : Int) - 9) = (lo : Int) := by omega
   have hmI : (m : Int) ≤ 5000 := by omega
   have hloI : (lo : Int) ≤ (m : Int) := by omega
   have HPU := Lib.hid (pu_any (w := wr) (E.extract lo m) (by rw [ByteArray.size_extract]; omega) (HE.out.keep S.k))
   have HLM := Lib.hid (And.intro hlo hm)
   clear hlo hm
   have hgd : (E.extract lo m).data.toList = (d.data.toList.take m).drop lo := by
    have hl : (d.data.toList.take m).length = m := by rw [List.length_take, HS0.out]; have := HLM.out.2; omega
    rw [ByteArray.data_extract, Array.toList_extract, List.extract_eq_take_drop, HEE.out, List.take_of_length_le (by rw [List.length_drop, hl]; exact Nat.le_refl _)]
   have hgl : ((d.data.toList.take m).drop lo).length ≤ 9 := by rw [List.length_drop, List.length_take]; have := HLM.out.1; omega
   have hg9 := gN_lt hgl
   have hnk : natK d.data.toList (k + 1) = natK d.data.toList k ++ [gN ((d.data.toList.take m).drop lo)] := by
    rw [natK_next, HS0.out, ← HLM.out.2, show d.size - 9 * (k + 1) = lo by have := HLM.out; omega]
   rw [hgd] at HPU
   have HNK := Lib.hid hnk
   generalize gN ((d.data.toList.take m).drop lo) = g at *
   have hgI : (g : Int) ≤ 4294967295 := by omega
   have HG9 := Lib.hid hg9
   clear hgd hgl hnk hg9
   go_wp2_with fail
   refine HPU.out.mono ?_
   rintro e W1 ⟨ev, rfl, hk1⟩
   have HRW1 := Lib.hid (HRW.out.keeps hk1)
   replace S := S.below hk1
   have r1 := S.c 0 1 rfl rfl
   have hwr : IntKind.u32.wrap (g : Int) = (g : Int) := by rw [IntKind.wrap_u32]; omega
   clear hk1 HRW HPU
   have hown1 := HRW1.out.alloc (.cells #[.int .u32 (g : Nat)] 109)
   have hsz9 : w.heap.size + 2 ≤ (W1.alloc (.cells #[.int .u32 (g : Nat)] 109)).heap.size := by
    rw [World.size_alloc]
    have := (S.o 0 rfl).lt
    simp only at this
    omega
   have hk5 : k ≤ 600 := by have := HLM.out; omega
   have HS := Lib.hid S
   have HOW := Lib.hid hown1
   clear hown1 S HRW1
   go_wp2_with (at_builtin; refine wpList_append_own _ rfl _ _ 27 rfl (w.heap.size + 2) 109 i0 (.int .u32 0) 1 4 Tryz.underlying27 hi hz0 hz1 hz2 rfl (by decide) _ _ _ rfl HOW.out ⟨W1.heap.size, 0, none⟩ 1 1 [.int .u32 (g : Nat)] rfl rfl (cell_one_new _ _ _) (by simp [Value.oneCell']) (by simp only [maxLen]; omega) (by omega) hsz9 ?_; intro v' w3 hown3 hgrow hnil; obtain ⟨A', c', rfl, -⟩ := hown3.sl; have S := (HS.out.below (box2 W1 (.cells #[.int .u32 (g : Nat)] 109))).grownB (base := w.heap.size + 2) hgrow (fun b e => (HOW.out.lt b e).1) (by omega) (by simp); have f1 := S.f 0 1 rfl; have u1 := S.c 0 1 rfl rfl; have HG3 := Lib.hid (And.intro hown3 trivial); clear hown3 hgrow hnil)
   have hown3 := HG3.out.1
   have S9 := S.put0 0 1 rfl (.slice A' (k + 1) c')
   have hown4 := hown3.turn (Turn.set (T := [w.heap.size + 1]) (Turn.refl w3) (p := ⟨w.heap.size + 1, 1, none⟩) (by simp) (.slice A' (k + 1) c')) (fun q hq hq2 => by
    have := (hown3.lo q hq).1
    rw [List.mem_singleton.1 hq2] at this
    omega)
   have HR5 : Hid ((w3.setCell ⟨w.heap.size + 1, 1, none⟩ (.slice A' (k + 1) c')).ownsRow (w.heap.size + 2) 109 1 (.slice A' (k + 1) c') (k + 1) (u32s (natK d.data.toList (k + 1)))) := Lib.hid (by
    rw [HNK.out, ← u32s_snoc _ _ rfl]
    exact hown4)
   have HED : Hid ((E.extract 0 lo).data.toList = d.data.toList.take lo) := Lib.hid (by
    rw [ByteArray.data_extract, Array.toList_extract, List.extract_eq_take_drop, HEE.out, List.drop_zero, List.take_take, Nat.sub_zero, Nat.min_eq_left (by omega)])
   have HES : Hid ((E.extract 0 lo).size = lo) := Lib.hid (by rw [ByteArray.size_extract]; omega)
   clear hown3 hown4 HG3 HS
   go_wp2
   go_roundw
   case rel => exact ⟨k + 1, lo, _, A', c', by have := HLM.out; omega, by have := HLM.out; omega, rfl, HED, HES.out, HR5, S9⟩
   case measure => simp only [HES.out]; have := HLM.out.1; omega
  ·have hm0 : m = 0 := by omega
   have hkn : k = (d.size + 8) / 9 := by omega
   have t1 : decide ((0 : Int) < (m : Int)) = false := decide_eq_false (by omega)
   have HNV : Hid (val (natK d.data.toList k) = natV d.data.toList) := Lib.hid (by unfold natV; rw [HS0.out, hkn])
   have HAB := Lib.hid (natK_all d.data.toList k)
   have HLN := Lib.hid (natK_len d.data.toList k)
   have hk5 : k ≤ 600 := by omega
   obtain ⟨L, hL⟩ : ∃ L, natK d.data.toList k = L := ⟨_, rfl⟩
   rw [hL] at HRW HNV HAB HLN
   clear hL hm hk hkn HEE
   go_wp2
   have HRU : U32 wr (.slice A k c) L := U32.of_own HRW.out
   replace S := S.add (p := fun w => U32 w (.slice A k c) L) (fun _ _ hs h => hs _ _ h) HRU
   go_loopw [] (fun wr => ∃ j : Nat, j ≤ k ∧ Hid (trimL (L.take j) = trimL L) ∧ St w wr [(w.heap.size + 1, 29, [.bool false, .slice A j c]), (w.heap.size, 29, [.bool false, .slice none 0 0])] [fun w => U32 w (.slice A k c) L]) (fun wr => match wr.cell? ⟨w.heap.size + 1, 1, none⟩ with | some (.slice _ n _) => n | _ => 0)
   case atStart => exact ⟨k, Nat.le_refl _, Lib.hid (by rw [List.take_of_length_le (by rw [HLN.out]; exact Nat.le_refl _)]), S⟩
   case round =>
    clear S HRW HRU
    obtain ⟨j, hj, HT, S⟩ := hrel
    have HU : U32 _ (.slice A k c) L := S.p.get (i := 0) rfl
    have hL : L.length = k := HLN.out
    obtain ⟨A', c', e, hkc, hcm, -, hrow⟩ := HU
    rw [hL] at e hkc hrow
    injection e with e1 e2 e3
    subst e1 e3
    unfold maxLen at hcm
    obtain ⟨r0, r1⟩ := S.cc2 0 rfl
    have f1 := S.f 0 1 rfl
    have HL := Lib.hid hL
    clear hL
    rcases Nat.eq_zero_or_pos j with rfl | hpos
    ·clear hrow f1
     obtain ⟨r1_0, r1_1⟩ := S.cc2 1 rfl
     obtain ⟨f1_0, f1_1⟩ := S.ff2 1 rfl
     go_wp2
     replace S := S.put2 1 rfl rfl rfl (x' := .bool false) (y' := .slice A 0 c)
     refine bodyPost_ret (v := .agg #[.bool false, .slice A 0 c]) (by simp [results, Tryz.results120, go_sem, S.c 1 0 rfl rfl, S.c 1 1 rfl rfl]) rfl ?_
     exact ⟨_, rfl, nat_fin (S.p.get (i := 0) rfl) HL.out HAB.out (Nat.zero_le _) HT.out rfl HNV.out, S.k⟩
    ·obtain ⟨i, rfl⟩ : ∃ i, j = i + 1 := ⟨j - 1, by omega⟩
     obtain ⟨b, o, rfl, hb, hcell⟩ := hrow (by omega)
     have hx : World.cell? _ ⟨b, o + i, none⟩ = some (Value.int .u32 (ix L i : Nat)) := hcell i (by omega)
     have HS := Lib.hid (take_snoc L i (by have := HL.out; omega))
     clear hcell hrow
     by_cases hz : ix L i = 0
     ·have HZ := Lib.hid hz
      rw [hz] at hx
      have HT1 : Hid (trimL (L.take i) = trimL L) := Lib.hid (by rw [← HT.out, HS.out, HZ.out, trimL_snoc_zero])
      clear hz
      go_wp2
      replace S := S.put 0 1 rfl rfl (.slice (some ⟨b, o, none⟩) i c)
      go_roundw
      case rel => exact ⟨i, by omega, HT1, S⟩
      case measure =>
       have := S.c 0 1 rfl rfl
       simp only [r1, this]
       omega
     ·have hb2 : (((ix L i : Nat) : Int) == 0) = false := by simpa using hz
      have HTT : Hid (trimL (L.take (i + 1)) = L.take (i + 1)) := Lib.hid (by rw [HS.out, trimL_snoc _ _ hz])
      clear hz f1
      obtain ⟨r1_0, r1_1⟩ := S.cc2 1 rfl
      obtain ⟨f1_0, f1_1⟩ := S.ff2 1 rfl
      go_wp2
      replace S := S.put2 1 rfl rfl rfl (x' := .bool false) (y' := .slice (some ⟨b, o, none⟩) (i + 1) c)
      refine bodyPost_ret (v := .agg #[.bool false, .slice (some ⟨b, o, none⟩) (i + 1) c]) (by simp [results, Tryz.results120, go_sem, S.c 1 0 rfl rfl, S.c 1 1 rfl rfl]) rfl ?_
      exact ⟨_, rfl, nat_fin (S.p.get (i := 0) rfl) HL.out HAB.out hj HT.out HTT.out HNV.out, S.k⟩
def CutOk (w : World) : Prop := ∃ m, w.cell? ⟨0, 0, none⟩ = some (.int .i64 m)
theorem CutOk.keep {w w' : World} (h : CutOk w) (hk : Keeps w w') : CutOk w' := by
 obtain ⟨m, hm⟩ := h
 have hlt : 0 < w.heap.size := by
  rcases Nat.lt_or_ge 0 w.heap.size with h | h
  ·exact h
  ·simp [World.cell?, Array.getElem?_eq_none h] at hm
 exact ⟨m, (hk.cell (p := ⟨0, 0, none⟩) hlt).trans hm⟩
theorem indexByte_pre (c : UInt8) : ∀ l : List UInt8, Lib.indexByte l c = if c ∈ l then ((pre c l).length : Int) else -1
 | [] => rfl
 | x :: r => by
  rw [Lib.indexByte, indexByte_pre c r]
  unfold pre
  rw [List.takeWhile_cons]
  by_cases hx : x = c
  ·subst hx; simp
  ·have hb : (x != c) = true := by simpa using hx
   have he : (x == c) = false := by simpa using hx
   by_cases hm : c ∈ r
   ·simp [hb, hm, hx]
   ·simp [hm, hx, Ne.symm hx]
theorem cut_pre (c : UInt8) (l : List UInt8) : Lib.cut l [c] = if c ∈ l then (pre c l, post c l, true) else (l, [], false) := by
 unfold Lib.cut
 rw [Lib.index_one, indexByte_pre]
 by_cases hm : c ∈ l
 ·have e := cut_at hm
  obtain ⟨a, ha⟩ : ∃ a, pre c l = a := ⟨_, rfl⟩
  obtain ⟨b, hb⟩ : ∃ b, post c l = b := ⟨_, rfl⟩
  rw [ha, hb] at e ⊢
  have e1 : l.take a.length = a := by rw [e]; simp
  have e2 : l.drop (a.length + 1) = b := by rw [e]; simp
  simp only [hm, if_true, Int.toNat_natCast, List.length_singleton, e1, e2]
  rw [if_pos (by omega)]
 ·simp [hm]
theorem cut_yes {w : World} {s : ByteArray} {c : UInt8} {l a b : List UInt8} (h : CutOk w) (hs : s.size ≤ 1000000) (hl : s.data.toList = l) (hm : c ∈ l) (ea : pre c l = a) (eb : post c l = b) :
 Calls Tryz.prog 73 #[.string s, .string ⟨#[c]⟩] w fun e w' => e = .returned (.tuple #[.string ⟨a.toArray⟩, .string ⟨b.toArray⟩, .bool true]) ∧ Keeps w w' := by
 obtain ⟨m, h⟩ := h
 subst hl ea eb
 refine (Tryz.strings_Cut s ⟨#[c]⟩ m w (by omega) h).mono ?_
 rintro e w' ⟨rfl, n, rfl⟩
 refine ⟨?_, below_drewN bl n⟩
 rw [show (ByteArray.mk #[c]).data.toList = [c] from rfl, cut_pre, if_pos hm]
theorem cut_no {w : World} {s : ByteArray} {c : UInt8} {l : List UInt8} (h : CutOk w) (hs : s.size ≤ 1000000) (hl : s.data.toList = l) (hm : c ∉ l) :
 Calls Tryz.prog 73 #[.string s, .string ⟨#[c]⟩] w fun e w' => e = .returned (.tuple #[.string ⟨l.toArray⟩, .string ⟨#[]⟩, .bool false]) ∧ Keeps w w' := by
 obtain ⟨m, h⟩ := h
 subst hl
 refine (Tryz.strings_Cut s ⟨#[c]⟩ m w (by omega) h).mono ?_
 rintro e w' ⟨rfl, n, rfl⟩
 refine ⟨?_, below_drewN bl n⟩
 rw [show (ByteArray.mk #[c]).data.toList = [c] from rfl, cut_pre, if_neg hm]
theorem cut_any {w : World} {l : List UInt8} (c : UInt8) (h : CutOk w) (hs : l.length ≤ 1000000) :
 Calls Tryz.prog 73 #[.string ⟨l.toArray⟩, .string ⟨#[c]⟩] w fun e w' => e = .returned (.tuple #[.string ⟨(pre c l).toArray⟩, .string ⟨(post c l).toArray⟩, .bool (decide (c ∈ l))]) ∧ Keeps w w' := by
 by_cases hm : c ∈ l
 ·rw [decide_eq_true hm]
  exact cut_yes h (by show l.toArray.size ≤ _; simpa using hs) (by simp) hm rfl rfl
 ·rw [decide_eq_false hm, pre_none hm, post_none hm]
  exact cut_no h (by show l.toArray.size ≤ _; simpa using hs) (by simp) hm
theorem natural_l {w : World} {l : List UInt8} (hd : l.length ≤ 5000) (he : EnvE w) : Calls Tryz.prog 120 #[.string ⟨l.toArray⟩] w (Gives (natV l : Nat) w) := by
 have := natural_any (w := w) ⟨l.toArray⟩ (by show l.toArray.size ≤ _; simpa using hd) he
 simp only at this
 exact this
set_option maxRecDepth 100000 in
set_option maxHeartbeats 1000000 in
theorem fld_any {w0 w : World} {bs : List Bx} {ps : List (World → Prop)} (S : St w0 w bs ps) (i : Nat) {P : Nat} {r : List UInt8} (hi : bs[i]? = some (P, 9, [.string ⟨r.toArray⟩])) (hr : r.length ≤ 1000000) (hc : CutOk w0) :
 Calls Tryz.prog 72 #[.pointer (some ⟨P, 0, none⟩)] w fun e w' => e = .returned (.string ⟨(fldV r).toArray⟩) ∧ St w0 w' (bs.set i (P, 9, [.string ⟨(fldR r).toArray⟩])) ps ∧ Turn [P] w w' := by
 have x0 := S.c i 0 hi rfl
 have l1 := pre_len 10 r
 have HC := Lib.hid hc
 have HI := Lib.hid hi
 have HA := Lib.hid (fun (u : World) (hk : Keeps w0 u) => cut_any (l := r) 10 (hc.keep hk) hr)
 have HB := Lib.hid (fun (u : World) (hk : Keeps w0 u) => cut_any (l := pre 10 r) 32 (hc.keep hk) (by omega))
 unfold fldV fldR
 clear hc hi hr l1
 generalize decide (10 ∈ r) = b1 at *
 generalize pre 10 r = ln at *
 generalize post 10 r = rs at *
 generalize post 32 ln = vl at *
 go_enter Tryz.func72, Tryz.ntmps72
 go_wp2_with fail
 refine (HA.out _ S.k).mono ?_
 rintro e W1 ⟨rfl, hk1⟩
 replace S := S.below hk1
 have x1 := S.c i 0 HI.out rfl
 have f1 := S.f i 0 HI.out
 have HTU := Lib.hid ((Turn.of_keeps (T := [P]) hk1).set (p := ⟨P, 0, none⟩) (by simp) (.string ⟨rs.toArray⟩))
 clear x0 hk1
 go_upto_region 3 with fail
 replace S := S.put i 0 HI.out rfl (.string ⟨rs.toArray⟩)
 simp only [List.set_cons_zero] at S
 obtain ⟨W2, eW, S⟩ := S.pack
 rw [eW] at HTU ⊢
 clear eW x1 f1
 go_wp2_with fail
 refine (HB.out _ S.k).mono ?_
 rintro e W3 ⟨rfl, hk3⟩
 replace S := S.below hk3
 go_wp2
 go_ret
 exact ⟨rfl, S, HTU.out.trans (T' := []) (Turn.of_keeps hk3) (by simp)⟩
set_option maxRecDepth 100000 in
set_option maxHeartbeats 1000000 in
theorem number_any {w : World} {l : List UInt8} (hd : l.length ≤ 5000) (he : EnvE w) (hc : CutOk w) : Calls Tryz.prog 76 #[.string ⟨l.toArray⟩] w (RGives (numQ l) w) := by
 have l1 := pre_len 47 l
 have l2 := post_len 47 l
 have S := (St.start w).alloc 31 [.bool false, .slice none 0 0, .bool false, .slice none 0 0]
 obtain ⟨W0, hW0, S⟩ := S.pack
 have HCT := Lib.hid (fun (u : World) (hk : Keeps w u) => cut_any (l := l) 47 (hc.keep hk) (by omega))
 have HNA := Lib.hid (fun (u : World) (hk : Keeps w u) => natural_l (l := pre 47 l) (by omega) (he.keep hk))
 have HNP := Lib.hid (fun (u : World) (hk : Keeps w u) => natural_l (l := post 47 l) (by omega) (he.keep hk))
 have HNO := Lib.hid (fun (u : World) (hk : Keeps w u) => natural_l (l := [49]) (by decide) (he.keep hk))
 have HV : Hid (numQ l = if natV (numB l) = 0 then 0 else Rat.divInt (natV (pre 47 l) : Nat) (natV (numB l) : Nat)) := Lib.hid rfl
 have HL1 : Hid (lenI (natV (pre 47 l) : Nat) ≤ 600) := Lib.hid (natV_len (by omega))
 have HL2 : Hid (lenI (natV (numB l) : Nat) ≤ 600) := Lib.hid (natV_len (by unfold numB; split <;> simp <;> omega))
 have HB : Hid (numB l = if 47 ∈ l then post 47 l else [49]) := Lib.hid rfl
 obtain ⟨bt, hbt⟩ : ∃ b, numB l = b := ⟨_, rfl⟩
 obtain ⟨nb, hnb⟩ : ∃ b, natV bt = b := ⟨_, rfl⟩
 rw [hbt, hnb] at HV HL2
 rw [hbt] at HB
 clear he hc l1 l2
 go_enter Tryz.func76, Tryz.ntmps76
 go_wp2_with fail
 refine (HCT.out _ S.k).mono ?_
 rintro e W1 ⟨rfl, hk1⟩
 replace S := S.below hk1
 clear hk1 HCT
 by_cases hm : 47 ∈ l
 ·have t1 : decide (47 ∈ l) = true := decide_eq_true hm
  have hb2 : post 47 l = bt := by rw [HB.out, if_pos hm]
  rw [hb2] at HNP ⊢
  rw [hnb] at HNP
  have HNB := HNP
  generalize pre 47 l = tp at *
  clear HNP HNO hbt hnb hm hb2
  rw [t1]
  clear t1
  go_wp2_with fail
  refine (HNA.out _ S.k).mono ?_
  rintro e W2 ⟨V1, rfl, hV1, hk⟩
  replace S := (S.below hk).addI hV1
  clear hk hV1
  go_wp2_with fail
  refine (HNB.out _ S.k).mono ?_
  rintro e W3 ⟨V2, rfl, hV2, hk⟩
  replace S := (S.below hk).addI hV2
  clear hk hV2
  go_wp2_with fail
  refine (fnew_num ((S.ii 1 rfl).num (by have := HL1.out; omega)) ((S.ii 0 rfl).num (by have := HL2.out; omega))).mono ?_
  rintro e W4 ⟨Q, rfl, hq, hk⟩
  replace S := S.below hk
  clear hk
  by_cases h0 : nb = 0
  ·have hc : newC (nb : Nat) = 14 := if_pos (by omega)
   rw [hc, if_neg (by decide)] at hq
   rw [hc]
   subst hq
   unfold zeroRat
   have hz := fun (u : World) => whole_num (w := u) 0 (by omega) (by omega)
   have HZ := Lib.hid hz
   clear hz
   have HQ : Hid (numQ l = ((0 : Int) : Rat)) := Lib.hid (by rw [HV.out, if_pos h0]; rfl)
   replace S := S.alloc 31 [.bool false, .slice none 0 0, .bool false, .slice none 0 0]
   clear h0 hc
   go_wp2_with fail
   refine (HZ.out _).mono ?_
   rintro e W5 ⟨Q, rfl, hq, hk⟩
   obtain ⟨b3, A3, n3, c3, d3, B3, m3, e3, rfl⟩ := hq.open_
   replace S := (S.below hk).addQ hq
   clear hk hq
   obtain ⟨r1_0, r1_1, r1_2, r1_3⟩ := S.cc4 1 rfl
   obtain ⟨f1_0, f1_1, f1_2, f1_3⟩ := S.ff4 1 rfl
   go_wp2
   replace S := S.put4 1 rfl rfl rfl (x' := .bool b3) (y' := .slice A3 n3 c3) (z' := .bool d3) (u' := .slice B3 m3 e3)
   refine bodyPost_ret (v := .agg #[.bool b3, .slice A3 n3 c3, .bool d3, .slice B3 m3 e3]) (by simp [results, Tryz.results76, go_sem, S.c 1 0 rfl rfl, S.c 1 1 rfl rfl, S.c 1 2 rfl rfl, S.c 1 3 rfl rfl]) rfl ?_
   exact ⟨_, rfl, by rw [HQ.out]; exact S.qi 0 rfl, S.k⟩
  ·have hc : newC (nb : Nat) = 0 := if_neg (by omega)
   rw [hc, if_pos rfl] at hq
   rw [hc]
   obtain ⟨b3, A3, n3, c3, d3, B3, m3, e3, rfl⟩ := hq.open_
   replace S := (S.addQ hq).alloc 31 [.bool b3, .slice A3 n3 c3, .bool d3, .slice B3 m3 e3]
   have HQ : Hid (numQ l = Rat.divInt (natV tp : Nat) (nb : Nat)) := Lib.hid (by rw [HV.out, if_neg h0])
   clear h0 hc hq
   go_upto_region 5 with fail
   obtain ⟨W5, eW, S⟩ := S.pack
   rw [eW]
   clear eW
   obtain ⟨r0_0, r0_1, r0_2, r0_3⟩ := S.cc4 0 rfl
   obtain ⟨r1_0, r1_1, r1_2, r1_3⟩ := S.cc4 1 rfl
   obtain ⟨f1_0, f1_1, f1_2, f1_3⟩ := S.ff4 1 rfl
   go_wp2
   replace S := S.put4 1 rfl rfl rfl (x' := .bool b3) (y' := .slice A3 n3 c3) (z' := .bool d3) (u' := .slice B3 m3 e3)
   refine bodyPost_ret (v := .agg #[.bool b3, .slice A3 n3 c3, .bool d3, .slice B3 m3 e3]) (by simp [results, Tryz.results76, go_sem, S.c 1 0 rfl rfl, S.c 1 1 rfl rfl, S.c 1 2 rfl rfl, S.c 1 3 rfl rfl]) rfl ?_
   exact ⟨_, rfl, by rw [HQ.out]; exact S.qi 0 rfl, S.k⟩
 ·have t1 : decide (47 ∈ l) = false := decide_eq_false hm
  have hb2 : [49] = bt := by rw [HB.out, if_neg hm]
  subst hb2
  rw [hnb] at HNO
  have HNB := HNO
  generalize pre 47 l = tp at *
  clear HNP HNO hbt hnb hm
  rw [t1]
  clear t1
  go_wp2_with fail
  refine (HNA.out _ S.k).mono ?_
  rintro e W2 ⟨V1, rfl, hV1, hk⟩
  replace S := (S.below hk).addI hV1
  clear hk hV1
  go_wp2_with fail
  refine (HNB.out _ S.k).mono ?_
  rintro e W3 ⟨V2, rfl, hV2, hk⟩
  replace S := (S.below hk).addI hV2
  clear hk hV2
  go_wp2_with fail
  refine (fnew_num ((S.ii 1 rfl).num (by have := HL1.out; omega)) ((S.ii 0 rfl).num (by have := HL2.out; omega))).mono ?_
  rintro e W4 ⟨Q, rfl, hq, hk⟩
  replace S := S.below hk
  clear hk
  by_cases h0 : nb = 0
  ·have hc : newC (nb : Nat) = 14 := if_pos (by omega)
   rw [hc, if_neg (by decide)] at hq
   rw [hc]
   subst hq
   unfold zeroRat
   have hz := fun (u : World) => whole_num (w := u) 0 (by omega) (by omega)
   have HZ := Lib.hid hz
   clear hz
   have HQ : Hid (numQ l = ((0 : Int) : Rat)) := Lib.hid (by rw [HV.out, if_pos h0]; rfl)
   replace S := S.alloc 31 [.bool false, .slice none 0 0, .bool false, .slice none 0 0]
   clear h0 hc
   go_wp2_with fail
   refine (HZ.out _).mono ?_
   rintro e W5 ⟨Q, rfl, hq, hk⟩
   obtain ⟨b3, A3, n3, c3, d3, B3, m3, e3, rfl⟩ := hq.open_
   replace S := (S.below hk).addQ hq
   clear hk hq
   obtain ⟨r1_0, r1_1, r1_2, r1_3⟩ := S.cc4 1 rfl
   obtain ⟨f1_0, f1_1, f1_2, f1_3⟩ := S.ff4 1 rfl
   go_wp2
   replace S := S.put4 1 rfl rfl rfl (x' := .bool b3) (y' := .slice A3 n3 c3) (z' := .bool d3) (u' := .slice B3 m3 e3)
   refine bodyPost_ret (v := .agg #[.bool b3, .slice A3 n3 c3, .bool d3, .slice B3 m3 e3]) (by simp [results, Tryz.results76, go_sem, S.c 1 0 rfl rfl, S.c 1 1 rfl rfl, S.c 1 2 rfl rfl, S.c 1 3 rfl rfl]) rfl ?_
   exact ⟨_, rfl, by rw [HQ.out]; exact S.qi 0 rfl, S.k⟩
  ·have hc : newC (nb : Nat) = 0 := if_neg (by omega)
   rw [hc, if_pos rfl] at hq
   rw [hc]
   obtain ⟨b3, A3, n3, c3, d3, B3, m3, e3, rfl⟩ := hq.open_
   replace S := (S.addQ hq).alloc 31 [.bool b3, .slice A3 n3 c3, .bool d3, .slice B3 m3 e3]
   have HQ : Hid (numQ l = Rat.divInt (natV tp : Nat) (nb : Nat)) := Lib.hid (by rw [HV.out, if_neg h0])
   clear h0 hc hq
   go_upto_region 5 with fail
   obtain ⟨W5, eW, S⟩ := S.pack
   rw [eW]
   clear eW
   obtain ⟨r0_0, r0_1, r0_2, r0_3⟩ := S.cc4 0 rfl
   obtain ⟨r1_0, r1_1, r1_2, r1_3⟩ := S.cc4 1 rfl
   obtain ⟨f1_0, f1_1, f1_2, f1_3⟩ := S.ff4 1 rfl
   go_wp2
   replace S := S.put4 1 rfl rfl rfl (x' := .bool b3) (y' := .slice A3 n3 c3) (z' := .bool d3) (u' := .slice B3 m3 e3)
   refine bodyPost_ret (v := .agg #[.bool b3, .slice A3 n3 c3, .bool d3, .slice B3 m3 e3]) (by simp [results, Tryz.results76, go_sem, S.c 1 0 rfl rfl, S.c 1 1 rfl rfl, S.c 1 2 rfl rfl, S.c 1 3 rfl rfl]) rfl ?_
   exact ⟨_, rfl, by rw [HQ.out]; exact S.qi 0 rfl, S.k⟩
end Go.Proofs.YtgcigdahjabimaaGreatDoor
