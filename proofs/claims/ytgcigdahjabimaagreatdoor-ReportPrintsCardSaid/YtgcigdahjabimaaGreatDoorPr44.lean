/- report.Parse: what its walk rests on. The walk of the reference's Text. The text of an integer, as the reference writes it. The walk of the reference's Text. What is printed is parsed: the plain law. No program in sight. -/
import Derived.Test.YtgcigdahjabimaaGreatDoorPr40
import Derived.Test.YtgcigdahjabimaaGreatDoorPr41
import Derived.Test.YtgcigdahjabimaaGreatDoorPr32
import Derived.Test.YtgcigdahjabimaaGreatDoorPr42
import Derived.Deep.MidRow
import Derived.Test.YtgcigdahjabimaaGreatDoorPr43
import Derived.Test.YtgcigdahjabimaaGreatDoorPr1
import Derived.Test.YtgcigdahjabimaaGreatDoorPr9
import Derived.Test.YtgcigdahjabimaaGreatDoorPr22
import Derived.Deep.LoopGhost
import Derived.Test.YtgcigdahjabimaaGreatDoorPr27
import Derived.Test.YtgcigdahjabimaaGreatDoorPr31
namespace Go.Proofs.YtgcigdahjabimaaGreatDoor
open Go.RowKit Go.Shelf
theorem atoi_any {w : World} {l : List UInt8} (hl : l.length ≤ 1000000) (he : EnvE w) :
 Calls Tryz.prog 75 #[.string ⟨l.toArray⟩] w fun e w' => ∃ ev, e = .returned (.tuple #[.int .i64 (atV l), ev]) ∧ Keeps w w' := by
 have hs : (⟨l.toArray⟩ : ByteArray).size ≤ 1000000 := by show l.toArray.size ≤ _; simpa using hl
 have hb : (⟨l.toArray⟩ : ByteArray).data.toList = l := by simp
 cases h : Lib.atoiAll l
 case ok v =>
  have hg : atV l = v := by unfold atV; rw [h]
  refine (Tryz.strconv_Atoi_ok ⟨l.toArray⟩ (by omega) v (by rw [hb]; exact h) w).mono ?_
  rintro e w' ⟨rfl, hw⟩
  exact ⟨_, by rw [hg], hw.elim (fun h => keeps_bytesWorld (t := 9) (s := ⟨#[]⟩) (.inl h)) fun ⟨t, h⟩ => keeps_bytesWorld (.inr h)⟩
 case range =>
  have hg : atV l = Lib.atoiSat l := by unfold atV; rw [h]
  obtain ⟨-, tp, p, h1⟩ := he
  refine (Any.strconv_Atoi_range Tryz.laysC172 ⟨l.toArray⟩ (by omega) (by rw [hb]; exact h) (.iface tp p) w h1 (.inr ⟨_, _, rfl⟩)).mono ?_
  rintro e w' ⟨N, rfl, -, -, hk⟩
  exact ⟨_, by rw [hg], hk⟩
 ·have hg : atV l = 0 := by unfold atV; rw [h]
  obtain ⟨⟨tp, p, h1⟩, -⟩ := he
  refine (Any.strconv_Atoi_syntax Tryz.laysC172 ⟨l.toArray⟩ (by omega) (by rw [hb]; exact h) (.iface tp p) w h1 (.inr ⟨_, _, rfl⟩)).mono ?_
  rintro e w' ⟨N, rfl, -, -, hk⟩
  exact ⟨_, by rw [hg], hk⟩
abbrev smY (f : Nat → Int) (o p : Rn) (v v' : Value) (wo : Int) : List Value :=
 [.int .i64 (f 0), .int .i64 (f 1), .int .i64 (f 2), .int .i64 (f 3), .int .i64 (f 4), .int .i64 (f 5), o.a, o.b, o.c, o.d, p.a, p.b, p.c, p.d, v, v', .int .i64 wo]
def hdF (l : List UInt8) (k j : Nat) : Int := if j < k then hdV l j else 0
theorem smY_at {f : Nat → Int} {o p : Rn} {v v' : Value} {wo : Int} {k : Nat} (hk : k < 6) : (smY f o p v v' wo)[k]? = some (.int .i64 (f k)) := by
 have : k = 0 ∨ k = 1 ∨ k = 2 ∨ k = 3 ∨ k = 4 ∨ k = 5 := by omega
 rcases this with rfl | rfl | rfl | rfl | rfl | rfl <;> rfl
theorem smY_set {l : List UInt8} {o p : Rn} {v v' : Value} {wo : Int} {k : Nat} (hk : k < 6) : (smY (hdF l k) o p v v' wo).set k (.int .i64 (hdV l k)) = smY (hdF l (k + 1)) o p v v' wo := by
 have : k = 0 ∨ k = 1 ∨ k = 2 ∨ k = 3 ∨ k = 4 ∨ k = 5 := by omega
 rcases this with rfl | rfl | rfl | rfl | rfl | rfl <;> rfl
theorem ElV.map2 {w u : World} {xs : List Value} {qs : List QV} {r : Rn} {q : Rat} (h : ElV w xs qs) (hs : Same32 w u) (hr : RatRep w r.v q) (hq : szR q ≤ 100000) : ElV u (xs ++ r.cs) (qs ++ [(q, true)]) :=
 ElV.append ⟨h.1, h.2.1, fun j q hj => by obtain ⟨c0, c1, c2, c3, e0, e1, e2, e3, hr⟩ := h.2.2 j q hj; exact ⟨c0, c1, c2, c3, e0, e1, e2, e3, RatV.map hr hs⟩⟩ ⟨rfl, by simp [Rn.cs, Value.oneCell'], fun j p hj => by
  match j, hj with
  | 0, hj =>
   obtain rfl : (q, true) = p := by simpa using hj
   exact ⟨_, _, _, _, rfl, rfl, rfl, rfl, RatRep.ratv (hr.map hs) hq⟩
  | j + 1, hj => simp at hj⟩
def ElS (xs : List Value) (qs : List QV) (w : World) : Prop := ElV w xs qs
theorem ElS.stab (xs : List Value) (qs : List QV) : Stab (ElS xs qs) := fun w w' hs h => ⟨h.1, h.2.1, fun j q hj => by obtain ⟨c0, c1, c2, c3, e0, e1, e2, e3, hr⟩ := h.2.2 j q hj; exact ⟨c0, c1, c2, c3, e0, e1, e2, e3, RatV.map hr hs⟩⟩
theorem CleanN.drew {w : World} {base size : Nat} {e : TypeId} {v : Value} {n : Nat} {xs : List Value} (h : CleanN w base e size v n xs) : CleanN w.drew base e size v n xs := h.keeps (Below.drew (Below.refl _ w))
theorem CleanN.set {w : World} {base size : Nat} {e : TypeId} {v : Value} {n : Nat} {xs : List Value} (h : CleanN w base e size v n xs) {p : Addr} (hp : p.block < base) (u : Value) : CleanN (w.setCell p u) base e size v n xs :=
 h.turn ((Turn.refl w).set (T := [p.block]) (by simp) u) fun k hk hm => by
  have := (h.lt k (by simpa [blkOf] using hk)).1
  rw [List.mem_singleton.1 hm] at this
  omega
theorem CleanN.turn3 {w wr u : World} {size : Nat} {e : TypeId} {v : Value} {n : Nat} {xs : List Value} (h : CleanN wr (w.heap.size + 3) e size v n xs) (ht : Turn [w.heap.size + 2] wr u) : CleanN u (w.heap.size + 3) e size v n xs :=
 h.turn ht fun k hk hm => by
  have := (h.lt k (by simpa [blkOf] using hk)).1
  rw [List.mem_singleton.1 hm] at this
  omega
def PJ (w : World) (n0 : Nat) (bs : List Bx) (ps : List (World → Prop)) (v : Value) (k : Nat) (ys : List Value) (u : World) : Prop := St w u bs ps ∧ CleanN u (w.heap.size + 3) 31 4 v k ys ∧ n0 ≤ u.heap.size
theorem PJ.keep {w u u' : World} {n0 : Nat} {bs : List Bx} {ps : List (World → Prop)} {v : Value} {k : Nat} {ys : List Value} (h : PJ w n0 bs ps v k ys u) (hk : Keeps u u') : PJ w n0 bs ps v k ys u' := ⟨h.1.below hk, h.2.1.keeps hk, Nat.le_trans h.2.2 hk.size⟩
theorem PJ.app {w u u' : World} {n0 : Nat} {bs : List Bx} {ps : List (World → Prop)} {v : Value} {k : Nat} {ys : List Value} {vA : Value} {n : Nat} {xs : List Value} (h : PJ w n0 bs ps v k ys u) (hA : CleanN u (w.heap.size + 3) 31 4 vA n xs) (hg : u.grownBy u' vA.ownBlock) (hd : ∀ g ∈ blkOf vA, g ∉ blkOf v) (hbs : ∀ p ∈ bs, p.1 < w.heap.size + 3) : PJ w n0 bs ps v k ys u' :=
 ⟨h.1.grownC hA hg (by omega) hbs, h.2.1.turn (Turn.of_grown hg) fun k h1 h2 => hd k h2 h1, Nat.le_trans h.2.2 hg.size⟩
theorem prs_bs (w : World) {t1 t2 t3 : TypeId} {c1 c2 c3 : List Value} : ∀ p ∈ ([(w.heap.size + 2, t1, c1), (w.heap.size + 1, t2, c2), (w.heap.size, t3, c3)] : List Bx), p.1 < w.heap.size + 3 := by
 intro p hp
 simp only [List.mem_cons, List.not_mem_nil, or_false] at hp
 rcases hp with rfl | rfl | rfl <;> simp only <;> omega
abbrev Rn.val (r : Rn) : Value := r.v
def rp18Φ (A B : Option Addr) (k c d n0 b0 : Nat) (s1 s2 : List UInt8) (qx qy : Rat) (xs : List Value) (qs : List QV) (n3 : Nat) : Nat → Value → World → Prop
 | 0, v, _ => v = .pointer (some ⟨b0, 14, none⟩)
 | 1, v, _ => v = .slice A k c
 | 2, v, _ => v = .string ⟨(s1).toArray⟩
 | 3, v, w => ∃ r : Rn, v = r.val ∧ RatRep w r.val qx
 | 4, v, w => ∃ (b : Nat) (r : Rn), v = .slice (some ⟨b, 0, none⟩) 1 1 ∧ n0 ≤ b ∧ Own w b 31 r.cs ∧ RatRep w r.val qx
 | 5, v, w => ∃ (A' : Option Addr) (c' : Nat) (zs : List Value), v = .slice A' (k + 1) c' ∧ CleanN w n3 31 4 (.slice A' (k + 1) c') (k + 1) (xs ++ zs) ∧ ElV w (xs ++ zs) (qs ++ [(qx, true)]) ∧ ∀ g ∈ blkOf (.slice A' (k + 1) c'), g ∉ blkOf (.slice B k d)
 | 6, v, _ => v = .pointer (some ⟨b0, 15, none⟩)
 | 7, v, _ => v = .slice B k d
 | 8, v, _ => v = .string ⟨(s2).toArray⟩
 | 9, v, w => ∃ r : Rn, v = r.val ∧ RatRep w r.val qy
 | 10, v, w => ∃ (b : Nat) (r : Rn), v = .slice (some ⟨b, 0, none⟩) 1 1 ∧ n0 ≤ b ∧ Own w b 31 r.cs ∧ RatRep w r.val qy
 | _, _, _ => True
theorem rp18_last {A B : Option Addr} {k c d b0 n3 : Nat} {s1 s2 : List UInt8} {qx qy : Rat} {xs : List Value} {qs : List QV} {W u u' : World} (hi : CleanN u n3 31 4 (.slice A k c) k xs) (hg : u.grownBy u' (Value.slice A k c).ownBlock) (hW : CleanN W n3 31 4 (.slice A k c) k xs) :
 ∀ j v, j < 11 → j ≠ 5 → rp18Φ A B k c d W.heap.size b0 s1 s2 qx qy xs qs n3 j v u → rp18Φ A B k c d W.heap.size b0 s1 s2 qx qy xs qs n3 j v u' := fun j v hj hne h => by
 have hs := hi.same hg
 have ht := Turn.of_grown hg
 have hb : ∀ b, W.heap.size ≤ b → b ∉ blkOf (.slice A k c) := fun b hb hm => by
  have := (hW.lt b (by simpa [blkOf] using hm)).2
  omega
 match j, hj with
 | 0, _ | 1, _ | 2, _ | 6, _ | 7, _ | 8, _ => exact h
 | 3, _ | 9, _ => exact h.elim fun r ⟨h1, h2⟩ => ⟨r, h1, h2.map hs⟩
 | 4, _ | 10, _ => exact h.elim fun b ⟨r, h1, h2, h3, h4⟩ => ⟨b, r, h1, h2, h3.turn ht (hb b h2), h4.map hs⟩
 | 5, _ => exact absurd rfl hne
 | i + 11, hj => exact absurd hj (by omega)
theorem numQ_sz {l : List UInt8} (h : l.length ≤ 5000) : szR (numQ l) ≤ 600 := by
 unfold numQ
 split
 ·exact Nat.le_trans szR_null (by omega)
 ·rename_i h0
  have h1 := szR_divInt (natV (pre 47 l) : Nat) (natV (numB l) : Nat) (by omega)
  have l1 := pre_len 47 l
  have l2 := post_len 47 l
  have h2 : lenI (natV (pre 47 l) : Nat) ≤ 600 := natV_len (by omega)
  have h3 : lenI (natV (numB l) : Nat) ≤ 600 := natV_len (by unfold numB; split <;> simp <;> omega)
  omega
theorem RatRep.cap {w : World} {r : Rn} {q : Rat} (h : RatRep w r.v q) : (r.A1 = none → r.c1 = 0) ∧ (r.A2 = none → r.c2 = 0) := by
 obtain ⟨x, v, y, u, e, ⟨v1, e1, A, c, rfl, -, -, h0, -⟩, v2, e2, B, d, rfl, -, -, h0', -⟩ := h
 simp only [Rn.v, Value.agg.injEq, Array.mk.injEq, List.cons.injEq, and_true] at e e1 e2
 obtain ⟨-, rfl⟩ := e1
 obtain ⟨-, rfl⟩ := e2
 obtain ⟨-, e3, -, e4⟩ := e
 injection e3 with a1 a2 a3
 injection e4 with b1 b2 b3
 exact ⟨fun h => by rw [a3]; exact h0 (a1 ▸ h), fun h => by rw [b3]; exact h0' (b1 ▸ h)⟩
theorem prs_arg {u : World} {l : List UInt8} {base : Nat} {A B : Option Addr} {c d : Nat} {xs ys : List Value} {r1 r2 : Rn} (hl : l.length ≤ 5000) (hA : CleanN u base 31 4 (.slice A (rowsN l) c) (rowsN l) xs) (hB : CleanN u base 31 4 (.slice B (rowsN l) d) (rowsN l) ys)
 (hE : ElV u xs ((List.range (rowsN l)).map (rdQ l))) (hF : ElV u ys ((List.range (rowsN l)).map (sxQ l))) (h1 : RatRep u r1.v (numQ (fldV (rstK l 6)))) (h2 : RatRep u r2.v (numQ (fldV (rstK l 7)))) :
 SmArg u (.agg (smY (hdV l) r1 r2 (.slice A (rowsN l) c) (.slice B (rowsN l) d) (atV (fldV (rstK l (8 + rowsN l))))).toArray) (prsS l) ∧ CapOk (.agg (smY (hdV l) r1 r2 (.slice A (rowsN l) c) (.slice B (rowsN l) d) (atV (fldV (rstK l (8 + rowsN l))))).toArray) := by
 have hn := rowsN_le l
 have hl1 := rstK_len l 6
 have hl2 := fldV_len (rstK l 6)
 have hl3 := rstK_len l 7
 have hl4 := fldV_len (rstK l 7)
 have z1 := numQ_sz (l := fldV (rstK l 6)) (by omega)
 have z2 := numQ_sz (l := fldV (rstK l 7)) (by omega)
 have e1 : (prsS l).rd.length = rowsN l := by simp [prsS]
 have e2 : (prsS l).sx.length = rowsN l := by simp [prsS]
 have ho := hA.owns
 have ho' := hB.owns
 obtain ⟨A2, c2, ea, hr⟩ := own_row4 (qs := (List.range (rowsN l)).map (rdQ l)) (by rw [List.length_map, List.length_range]; exact ho) hE
 obtain ⟨B2, d2, eb, hr'⟩ := own_row4 (qs := (List.range (rowsN l)).map (sxQ l)) (by rw [List.length_map, List.length_range]; exact ho') hF
 injection ea with a1 _ a3
 injection eb with b1 _ b3
 subst a1 b1
 refine ⟨⟨r1.a, r1.b, r1.c, r1.d, r2.a, r2.b, r2.c, r2.d, A, B, c, d, by rw [smL, e1, e2]; rfl, RatRep.ratv h1 (Nat.le_trans z1 (by omega)), RatRep.ratv h2 (Nat.le_trans z2 (by omega)), hr, hr', by rw [e1]; simp only [maxLen]; omega, by rw [e2]; simp only [maxLen]; omega⟩, ?_⟩
 obtain ⟨A3, c3, ea, -, -, hA0⟩ := hA.sl
 obtain ⟨B3, d3, eb, -, -, hB0⟩ := hB.sl
 injection ea with a1 _ a3
 injection eb with b1 _ b3
 subst a1 a3 b1 b3
 obtain ⟨k1, k2⟩ := h1.cap
 obtain ⟨k3, k4⟩ := h2.cap
 intro cs e i n c' hi
 injection e with e
 subst e
 match i, hi with
 | 0, hi | 1, hi | 2, hi | 3, hi | 4, hi | 5, hi | 6, hi | 8, hi | 10, hi | 12, hi | 16, hi => simp [smY] at hi
 | 7, hi => simp [smY] at hi; rw [← hi.2.2]; exact k1 hi.1
 | 9, hi => simp [smY] at hi; rw [← hi.2.2]; exact k2 hi.1
 | 11, hi => simp [smY] at hi; rw [← hi.2.2]; exact k3 hi.1
 | 13, hi => simp [smY] at hi; rw [← hi.2.2]; exact k4 hi.1
 | 14, hi => simp [smY] at hi; rw [← hi.2.2]; exact hA0 hi.1
 | 15, hi => simp [smY] at hi; rw [← hi.2.2]; exact hB0 hi.1
 | i + 17, hi => simp [smY] at hi
theorem prs_nums (l : List UInt8) : Nums64 (prsS l) ∧ (-9223372036854775808 ≤ (prsS l).wo ∧ (prsS l).wo ≤ 9223372036854775807) ∧ (prsS l).rd.length ≤ 1100 ∧ (prsS l).rd.length ≤ (prsS l).sx.length := by
 have hn := rowsN_le l
 refine ⟨fun k hk => ?_, atV_le _, by simp [prsS]; omega, by simp [prsS]⟩
 have : k = 0 ∨ k = 1 ∨ k = 2 ∨ k = 3 ∨ k = 4 ∨ k = 5 := by omega
 rcases this with rfl | rfl | rfl | rfl | rfl | rfl <;> exact atV_le _
theorem prs_sz {l : List UInt8} (hl : l.length ≤ 5000) : szR (prsS l).ob.1 ≤ 600 ∧ szR (prsS l).sg.1 ≤ 600 ∧ (∀ x ∈ (prsS l).rd, szR x.1 ≤ 600) ∧ ∀ x ∈ (prsS l).sx, szR x.1 ≤ 600 := by
 have h6 := fun k => Nat.le_trans (fldV_len (rstK l k)) (rstK_len l k)
 refine ⟨numQ_sz (Nat.le_trans (h6 6) hl), numQ_sz (Nat.le_trans (h6 7) hl), fun x hx => ?_, fun x hx => ?_⟩
 ·obtain ⟨i, -, rfl⟩ := List.mem_map.1 hx
  exact numQ_sz (Nat.le_trans (pre_len 32 _) (Nat.le_trans (rowV_len l i) hl))
 ·obtain ⟨i, -, rfl⟩ := List.mem_map.1 hx
  exact numQ_sz (Nat.le_trans (post_len 32 _) (Nat.le_trans (rowV_len l i) hl))
theorem putL_eq (B : Nat) : ∀ (us : List Value) (j : Nat) (w : World), putL w B j us = w.setCells B j us
 | [], _, _ => rfl
 | _ :: us, j, _ => putL_eq B us (j + 1) _
theorem setL_take : ∀ (us vs : List Value) (j : Nat), j + us.length = vs.length → setL vs j us = vs.take j ++ us
 | [], vs, j, h => by
  rw [List.length_nil] at h
  rw [setL, List.append_nil, List.take_of_length_le (by omega)]
 | u :: us, vs, j, h => by
  rw [List.length_cons] at h
  have e : (vs.set j u).take (j + 1) = vs.take j ++ [u] := by
   rw [List.take_add_one, List.getElem?_set_self (by omega), List.take_set, List.set_eq_of_length_le (by rw [List.length_take]; omega)]
   rfl
  rw [setL, setL_take us _ (j + 1) (by rw [List.length_set]; omega), e, List.append_assoc]
  rfl
theorem St.put17 {w0 w : World} {ps : List (World → Prop)} {bs : List Bx} (S : St w0 w bs ps) (i : Nat) {B : Nat} {t : TypeId} {vs : List Value} (hi : bs[i]? = some (B, t, vs)) (hl : vs.length = 17) (hv : vs.all noU32 = true) (us : List Value) (hu : us.all noU32 = true) (hul : us.length = 17) :
 St w0 (w.setCells B 0 us) (bs.set i (B, t, us)) ps := by
 have h := St.putL us vs 0 S hi hv hu
 rwa [setL_take us vs 0 (by omega), putL_eq, List.take_zero, List.nil_append] at h
theorem turn_cells (B : Nat) : ∀ (us : List Value) (j : Nat) (w : World), Turn [B] w (w.setCells B j us)
 | [], _, w => Turn.refl w
 | u :: us, j, w => ((Turn.refl w).set (T := [B]) (p := ⟨B, j, none⟩) (by simp) u).trans (turn_cells B us (j + 1) _) fun k h _ => h
theorem CleanN.turn0 {w wr u : World} {size : Nat} {e : TypeId} {v : Value} {n : Nat} {xs : List Value} (h : CleanN wr (w.heap.size + 3) e size v n xs) (ht : Turn [w.heap.size] wr u) : CleanN u (w.heap.size + 3) e size v n xs :=
 h.turn ht fun k hk hm => by
  have := (h.lt k (by simpa [blkOf] using hk)).1
  rw [List.mem_singleton.1 hm] at this
  omega
theorem own_there {w : World} {b : Nat} {t : TypeId} {vs : List Value} {n : Nat} (h : Own w b t vs) (hn : n = vs.length) : w.there b 0 n := fun j hj => by
 rw [Nat.zero_add, h.cell]
 exact ⟨by rw [List.getElem?_eq_getElem (by omega)]; rfl, h.frozen j⟩
theorem results_ct {P : Program} {fn : Func} {tmps : Array Value} {w : World} {a t : Nat} {ty : TypeId} {p : Addr} {V c : Value} (hr : fn.results = #[.cell a ty, .tmp t]) (ha : tmps.getD a undef = .pointer (some p)) (hl : (loadVar ty p).run P w = .ok V w) (hc : tmps.getD t undef = c) : (results fn tmps).run P w = .ok (.tuple #[V, c]) w := by
 unfold results
 rw [hr]
 have e1 : (asAddr (tmps.getD a undef)) = pure p := by rw [ha]; rfl
 simp only [List.mapM_toArray, List.mapM_cons, List.mapM_nil, e1, hc, pure_bind]
 generalize loadVar ty p = L at *
 simp [hl, go_sem]
theorem wpList_load_midg {P : Program} {ops : Array Oper} {rest : List Oper} {op : Oper} {a : Act} {w : World} {Q : Exit → Act → World → Prop} (hw : Region.wanted op (yielded ops a.tmps) = true) (ty : TypeId) (x : Operand) (ho : op.op = .load ty x)
 (b o : Nat) (hx : a.eval x = .pointer (some ⟨b, o, none⟩)) (cs : List Value) (d : TypeDesc) (hc : w.rangeAt b o cs) (hu : P.underlying ty = some d) (hd : d.isRow = true) (hi : (P.info? ty).map (·.size) = some cs.length)
 (h : wpList P ops Q rest (a.put op.dst (.agg cs.toArray)) w) : wpList P ops Q (op :: rest) a w := by
 unfold wpList
 simp only [hw, if_true]
 exact .inl (wp_load_mid ty x ho b o hx cs d hc hu hd hi h)
def okP (l : List UInt8) : Bool := formB (prsS l) && decide (sumT (prsS l) = l)
abbrev zeroSm : Value := .agg (smY (hdF [] 0) rz0 rz0 (.slice none 0 0) (.slice none 0 0) 0).toArray
def PrsP (l : List UInt8) (w : World) (e : Ending) (w' : World) : Prop :=
 (okP l = true → ∃ V, e = .returned (.tuple #[V, .int .i64 0]) ∧ SmArg w' V (prsS l) ∧ CapOk V) ∧ (okP l = false → e = .returned (.tuple #[zeroSm, .int .i64 8])) ∧ Keeps w w'
theorem low_add : ∀ (b a m : Nat), low (a + b) m = low a (m / 10 ^ b) ++ low b m
 | 0, a, m => by simp [low]
 | b + 1, a, m => by
  rw [← Nat.add_assoc, low, low_add b a (m / 10), low, Nat.div_div_eq_div_mul, Nat.pow_succ, Nat.mul_comm (10 ^ b) 10, List.append_assoc]
theorem dch_mod (y j : Nat) : dch (y % 10 ^ (j + 1)) = dch y := by
 unfold dch
 rw [Nat.pow_succ, Nat.mul_comm, Nat.mod_mul_right_mod]
theorem low_mod : ∀ (k j y : Nat), k ≤ j → low k (y % 10 ^ j) = low k y
 | 0, _, _, _ => rfl
 | k + 1, 0, _, h => absurd h (by omega)
 | k + 1, j + 1, y, h => by
  rw [low, low, dch_mod, show y % 10 ^ (j + 1) / 10 = y / 10 % 10 ^ j by rw [Nat.pow_succ, Nat.mul_comm, Nat.mod_mul_right_div_self], low_mod k j (y / 10) (by omega)]
theorem ix_dig : ∀ (i m : Nat), ix (dig m) i = m / 1000000000 ^ i % 1000000000
 | 0, m => by
  by_cases h : m = 0
  ·subst h; simp [dig_zero, ix_nil]
  ·rw [dig_pos h, ix_zero]; simp
 | i + 1, m => by
  by_cases h : m = 0
  ·subst h; simp [dig_zero, ix_nil]
  ·rw [dig_pos h, ix_succ, ix_dig i, Nat.div_div_eq_div_mul, Nat.pow_succ, Nat.mul_comm 1000000000]
theorem low_group (m i : Nat) : low 9 (ix (dig m) i) ++ low (9 * i) m = low (9 * (i + 1)) m := by
 rw [show 9 * (i + 1) = 9 + 9 * i by omega, low_add, ix_dig]
 have h : (1000000000 : Nat) = 10 ^ 9 := rfl
 rw [h, ← Nat.pow_mul, low_mod 9 9 _ (Nat.le_refl _)]
theorem txt_last (m n : Nat) (h : m ≠ 0) (hn : (dig m).length = n + 1) : txt (ix (dig m) n) ++ low (9 * n) m = txt m := by
 have hx : 0 < ix (dig m) n := by
  have := dig_last h
  rw [hn] at this
  exact Nat.pos_of_ne_zero this
 have hlt := dig_lt m
 rw [hn, Nat.pow_succ] at hlt
 have hq : m / 1000000000 ^ n < 1000000000 := by
  rw [Nat.div_lt_iff_lt_mul (Nat.pow_pos (by omega)), Nat.mul_comm]; exact hlt
 have he : ix (dig m) n = m / 10 ^ (9 * n) := by
  rw [ix_dig, Nat.mod_eq_of_lt hq, Nat.pow_mul]
 have hm : m = m / 10 ^ (9 * n) * 10 ^ (9 * n) + m % 10 ^ (9 * n) := by
  have := Nat.div_add_mod m (10 ^ (9 * n)); rw [Nat.mul_comm] at this; omega
 rw [he] at hx ⊢
 conv => rhs; rw [hm]
 rw [txt_group _ _ _ hx (Nat.mod_lt _ (Nat.pow_pos (by omega))), low_mod _ _ _ (Nat.le_refl _)]
theorem txt_peel (x k : Nat) (h : x / 10 ^ k ≠ 0) (e : txt x = txt (x / 10 ^ k) ++ low k x) : txt x = txt (x / 10 ^ (k + 1)) ++ low (k + 1) x := by
 rw [low_cons, e, txt_step _ (Nat.pos_of_ne_zero h), Nat.div_div_eq_div_mul, ← Nat.pow_succ, List.append_assoc]; rfl
def accT (m q i : Nat) : List UInt8 := if i < q + 1 then low (9 * i) m else txt m

theorem digit_one : ∀ d, d < 10 → (ByteArray.mk #[48, 49, 50, 51, 52, 53, 54, 55, 56, 57]).extract d (d + 1) = ByteArray.mk #[UInt8.ofNat (48 + d)] := by decide +kernel
theorem dig_str (y : Nat) (S : List UInt8) : (ByteArray.mk #[48, 49, 50, 51, 52, 53, 54, 55, 56, 57]).extract (y % 10) (y % 10 + 1) ++ ByteArray.mk S.toArray = ByteArray.mk (dch y :: S).toArray := by
 rw [digit_one _ (Nat.mod_lt _ (by omega))]
 apply ByteArray.ext
 rw [ByteArray.data_append]
 simp [dch]
set_option maxRecDepth 100000 in
set_option maxHeartbeats 1000000 in
theorem rtext_any (neg : Bool) (xs : List Nat) (V : Value) (w : World) (h : IntArg w V neg xs) (hm : xs.length ≤ 900000) :
 Calls Tryz.prog 124 #[V] w fun e w' => e = .returned (.string ⟨(textL (cnt neg xs)).toArray⟩) ∧ Keeps w w' := by
 obtain ⟨v, rfl, hv⟩ := h
 have hkk := box2 w (.cells #[.bool neg, v] 29)
 have hB := Own.new w 29 [.bool neg, v]
 have hG := Lib.hid (rvalue_any neg xs (.agg #[.bool neg, v]) _ ⟨v, rfl, hv.below hkk⟩ (by omega))
 have hml := mag_length neg xs
 have ea := cnt_abs neg xs
 generalize cnt neg xs = z at *
 generalize mag neg xs = m at *
 have HE := Lib.hid ea
 clear ea
 go_enter Tryz.func124, Tryz.ntmps124
 go_wp2_with fail
 refine hG.out.mono ?_
 rintro e w1 ⟨V3, rfl, hr3, hk1⟩
 obtain ⟨A3, n3, c3, rfl, hv3⟩ := hr3.open_
 rw [HE.out] at hv3
 obtain ⟨A', n', c', e', e1, -⟩ := hv3.open_
 cases e'
 have hbz := Lib.hid (rfl : decide (z < 0) = decide (z < 0))
 have hB1 := hB.below hk1
 have f0 := hB1.frozen 0
 have f1 := hB1.frozen 1
 obtain ⟨bz, hb⟩ : ∃ bz, decide (z < 0) = bz := ⟨_, rfl⟩
 rw [hb] at hr3
 simp only [hb]
 have HBZ := Lib.hid hb
 clear hb hbz
 have hk := (hkk.trans' hk1).set (p := ⟨w.heap.size, 0, none⟩) (Nat.le_refl _) (.bool bz)
 have hk2 := hk.set (p := ⟨w.heap.size, 1, none⟩) (Nat.le_refl _) (.slice A3 n3 c3)
 have hB2 := hB1.two (.bool bz) (.slice A3 n3 c3)
 have s0 := hB2.c0
 have s1 := hB2.c1
 have hu := hv3.two (x' := .bool bz) (y' := .slice A3 n3 c3) hB1 rfl hv.noU rfl
 have r0 := hB1.c0
 have r1 := hB1.c1
 clear hr3 hG hv hB hkk hk1
 by_cases h0 : m = 0
 ·have hz : textL z = [48] := if_pos (by have := HE.out; omega)
  have HZ := Lib.hid hz
  subst h0
  obtain rfl : n3 = 0 := by rw [dig_zero] at e1; simpa using e1.symm
  clear e1 hml hm hz
  go_wp2
  go_ret
  exact ⟨by rw [HZ.out]; rfl, hk2⟩
 ·have hn : 0 < n3 := by have := dig_length_pos.2 h0; omega
  obtain ⟨q, rfl⟩ : ∃ q, n3 = q + 1 := ⟨n3 - 1, by omega⟩
  have hz : textL z = (if bz then [45] else []) ++ txt m := by
   unfold textL
   rw [if_neg (by have := HE.out; omega), txt_pos m h0, HE.out, ← HBZ.out]
   simp
  have htl := txt_last m q h0 e1
  obtain ⟨A', n', c', e', e2, -, -, -, ru⟩ := hu.open_
  cases e'
  obtain ⟨b, o, rfl, hbl, hcell⟩ := ru hn
  have hn0 : (((q + 1 : Nat) : Int) == 0) = false := by simp; omega
  have hnI : (q : Int) ≤ 900000 := by omega
  have HZ := Lib.hid hz
  have HTL := Lib.hid htl
  have HCELL := Lib.hid hcell
  clear hz htl e1 e2 hcell ru hml hm hu hv3 hn
  go_wp2
  clear s0 s1 hbl r0 r1 f0 f1 hB1 hk
  generalize (w1.setCell ⟨w.heap.size, 0, none⟩ (.bool bz)).setCell ⟨w.heap.size, 1, none⟩ (.slice (some ⟨b, o, none⟩) (q + 1) c3) = W at *
  have s0 := hB2.c0
  have s1 := hB2.c1
  go_loop [3, 4] (fun s i => ∃ j : Nat, j ≤ q + 1 ∧ i = .int .i64 (j : Nat) ∧ s = .string ⟨(accT m q j).toArray⟩) (fun _ i => q + 1 - (intOf i).toNat)
  case atStart => exact ⟨0, Nat.zero_le _, rfl, rfl⟩
  case round =>
   obtain ⟨j, hj, rfl, rfl⟩ := hrel
   have hjI : (j : Int) ≤ 900001 := by omega
   by_cases hlt : j < q + 1
   ·have hc := HCELL.out j hlt
    unfold Go.Proofs.YtgcigdahjabimaaGreatDoor.u32 at hc
    have hx := (AllB.dig m).ix j
    have hgr := low_group m j
    have hac : accT m q j = low (9 * j) m := if_pos hlt
    have hacl : (accT m q j).length ≤ 8100009 := by rw [hac, low_length]; omega
    generalize hX : ix (dig m) j = x at *
    have HGR := Lib.hid hgr
    have HAC := Lib.hid hac
    have HXX := Lib.hid hX
    generalize accT m q j = T at *
    have HT := Lib.hid hacl
    have HX := Lib.hid hx
    have hltI : (j : Int) < q + 1 := by omega
    clear hgr hac hX hacl hx
    by_cases hq : j < q
    ·have hqI : (j : Int) < q := by omega
     go_wp2
     go_loop [3, 5, 6] (fun s g i => ∃ k : Nat, k ≤ 9 ∧ i = .int .i64 (k : Nat) ∧ g = .int .u32 (x / 10 ^ k : Nat) ∧ s = .string ⟨(low k x ++ T).toArray⟩) (fun _ _ i => 9 - (intOf i).toNat)
     case atStart => exact ⟨0, by omega, rfl, by simp, rfl⟩
     case round =>
      obtain ⟨k, hk9, rfl, rfl, rfl⟩ := hrel
      have hll : (low k x ++ T).length ≤ 8100018 := by rw [List.length_append, low_length]; have := HT.out; omega
      have hlc : low (k + 1) x ++ T = dch (x / 10 ^ k) :: (low k x ++ T) := by rw [low_cons]; rfl
      have hdv : x / 10 ^ (k + 1) = x / 10 ^ k / 10 := by rw [Nat.div_div_eq_div_mul, ← Nat.pow_succ]
      have hyl : x / 10 ^ k ≤ x := Nat.div_le_self _ _
      have HLC := Lib.hid hlc
      have HDV := Lib.hid hdv
      clear hlc hdv
      by_cases h9 : k < 9
      ·generalize x / 10 ^ k = y at *
       generalize low k x ++ T = S at *
       have hyI : (y : Int) ≤ 4294967295 := by have := HX.out; omega
       clear hyl
       go_wp2
       go_round
       case rel => exact ⟨k + 1, by omega, by go_num, by rw [HDV.out]; go_num, by rw [dig_str, HLC.out]⟩
       case measure => simp [intOf]; omega
      ·obtain rfl : k = 9 := by omega
       have hS : low 9 x ++ T = accT m q (j + 1) := by rw [HAC.out, HGR.out]; exact (if_pos (by omega)).symm
       have HS := Lib.hid hS
       clear hS hyl hll
       generalize x / 10 ^ 9 = y at *
       generalize low 9 x ++ T = S at *
       go_wp2
       go_round
       case rel => exact ⟨j + 1, by omega, by go_num, by rw [HS.out]⟩
       case measure => simp [intOf]; omega
    ·obtain rfl : q = j := by omega
     have hqI : ¬ (q : Int) < q := by omega
     go_wp2
     go_loop [3, 5, 6] (fun s g i => ∃ k : Nat, k ≤ 9 ∧ i = .int .i64 (k : Nat) ∧ g = .int .u32 (x / 10 ^ k : Nat) ∧ s = .string ⟨(low k x ++ T).toArray⟩ ∧ txt x = txt (x / 10 ^ k) ++ low k x) (fun _ _ i => 9 - (intOf i).toNat)
     case atStart => exact ⟨0, by omega, rfl, by simp, rfl, by simp [low]⟩
     case round =>
      obtain ⟨k, hk9, rfl, rfl, rfl, htx⟩ := hrel
      have hll : (low k x ++ T).length ≤ 8100018 := by rw [List.length_append, low_length]; have := HT.out; omega
      have hlc : low (k + 1) x ++ T = dch (x / 10 ^ k) :: (low k x ++ T) := by rw [low_cons]; rfl
      have hdv : x / 10 ^ (k + 1) = x / 10 ^ k / 10 := by rw [Nat.div_div_eq_div_mul, ← Nat.pow_succ]
      have hyl : x / 10 ^ k ≤ x := Nat.div_le_self _ _
      have HLC := Lib.hid hlc
      have HDV := Lib.hid hdv
      clear hlc hdv
      have hend : x / 10 ^ k = 0 → low k x ++ T = accT m q (q + 1) := fun h0 => by
       rw [show accT m q (q + 1) = txt m from if_neg (by omega), ← HTL.out, ← HXX.out, HAC.out]
       rw [h0] at htx
       rw [HXX.out, htx]; rfl
      have hpeel := txt_peel x k
      have HP := Lib.hid (fun h => hpeel h htx)
      have HEND := Lib.hid hend
      have hk9z : k = 9 → x / 10 ^ k = 0 := fun h => by subst h; exact Nat.div_eq_of_lt (by have := HX.out; omega)
      have HK9 := Lib.hid hk9z
      clear htx hend hpeel hk9z
      by_cases hy0 : x / 10 ^ k = 0
      ·have hS := HEND.out hy0
       have HS := Lib.hid hS
       rw [hy0]
       clear hS hyl HEND HP HK9 HDV HLC
       generalize low k x ++ T = S at *
       by_cases h9 : k < 9
       ·go_wp2
        go_round
        case rel => exact ⟨q + 1, Nat.le_refl _, by first | rfl | go_num, by rw [HS.out]⟩
        case measure => simp [intOf]
       ·go_wp2
        go_round
        case rel => exact ⟨q + 1, Nat.le_refl _, by first | rfl | go_num, by rw [HS.out]⟩
        case measure => simp [intOf]
      ·have h9 : k < 9 := by have := HK9.out; omega
       have HY := Lib.hid (HP.out hy0)
       have hyp : (0 : Int) < (x / 10 ^ k : Nat) := Int.ofNat_lt.2 (Nat.pos_of_ne_zero hy0)
       clear HEND HP HK9
       generalize hY : x / 10 ^ k = y at *
       generalize low k x ++ T = S at *
       have HYY := Lib.hid hY
       have hyI : (y : Int) ≤ 4294967295 := by have := HX.out; omega
       clear hyl hY
       go_wp2
       go_round
       case rel => exact ⟨k + 1, by omega, by go_num, by rw [HDV.out]; go_num, by rw [dig_str, HLC.out], HY.out⟩
       case measure => simp [intOf]; omega
   ·obtain rfl : j = q + 1 := by omega
    have hf : textL z = (if bz then [45] else []) ++ accT m q (q + 1) := by rw [HZ.out]; congr 1; exact (if_neg (by omega)).symm
    have HF := Lib.hid hf
    have hal : (accT m q (q + 1)).length ≤ 8100009 := by
     rw [show accT m q (q + 1) = txt m from if_neg (by omega), ← HTL.out, List.length_append, low_length]
     have := txt_len 9 (ix (dig m) q) ((AllB.dig m).ix q)
     omega
    clear hf
    generalize accT m q (q + 1) = S at *
    cases bz with
    | true =>
     go_wp2
     go_ret
     refine ⟨?_, hk2⟩
     rw [HF.out]
     exact congrArg (fun b => Ending.returned (.string b)) (cat_str [45] S)
    | false =>
     go_wp2
     go_ret
     exact ⟨by rw [HF.out]; rfl, hk2⟩
theorem rtext_l {w : World} {V : Value} {z : Int} {T : List UInt8} (h : IntNum w V z) (e : textL z = T) : Calls Tryz.prog 124 #[V] w fun e w' => e = .returned (.string ⟨T.toArray⟩) ∧ Keeps w w' := by
 subst e
 obtain ⟨n, xs, h, rfl, l⟩ := h
 exact rtext_any n xs V w h l
theorem den_one {d : Nat} {s : Int} (h : s = 0) (e : ((d : Int) - 1).sign = s) : d = 1 := by
 rw [h] at e
 have := Int.sign_eq_zero_iff_zero.1 e
 omega
set_option maxRecDepth 100000 in
set_option maxHeartbeats 1000000 in
theorem gtext_num {w : World} {V1 : Value} {x : Rat} {T1 T2 T3 T4 : List UInt8} (h1 : RatNum w V1 x) (hx : szR x ≤ 20000) (q1 : textL x.num = T1) (q2 : textL (x.den : Int) = T2) (q3 : T1 ++ [47] = T3) (q4 : T3 ++ T2 = T4) : Calls Tryz.prog 81 #[V1] w (fun e w' => e = .returned (.string ⟨(fracT x).toArray⟩) ∧ Keeps w w') := by
 obtain ⟨b3, A3, n3, c3, d3, B3, m3, e3, rfl⟩ := h1.open_
 have z0 := h1.sz
 have HF1 := Lib.hid (show x.den = 1 → fracT x = T1 from fun h => by unfold fracT; rw [if_pos h, q1, List.append_nil])
 have HF2 := Lib.hid (show x.den ≠ 1 → fracT x = T4 from fun h => by unfold fracT; rw [if_neg h, ← q4, ← q3, q1, q2, List.append_assoc]; rfl)
 have E3 : ByteArray.mk T1.toArray ++ ByteArray.mk #[47] = ByteArray.mk T3.toArray := by rw [← q3]; exact cat_str T1 [47]
 have E4 : ByteArray.mk T3.toArray ++ ByteArray.mk T2.toArray = ByteArray.mk T4.toArray := by rw [← q4]; exact cat_str T3 T2
 have v1 := textL_le x.num
 have v2 := textL_le (x.den : Int)
 rw [q1] at v1
 rw [q2] at v2
 have v3 := szR_num hx
 have v4 := szR_den hx
 have v5 : (T1.length : Int) ≤ 200000 := by omega
 have v6 : (T2.length : Int) ≤ 200000 := by omega
 have v7 : (T3.length : Int) ≤ 200001 := by rw [← q3, List.length_append, List.length_singleton]; omega
 have v8 : ¬ 9223372036854775807 < T1.length + 1 := by omega
 have v9 := lenI_one
 have HT1 := Lib.hid q1
 have HT2 := Lib.hid q2
 clear q1 q2 q3 q4 v1 v2
 obtain ⟨s1, hs1⟩ : ∃ s, ((((x).den : Int)) - 1).sign = s := ⟨_, rfl⟩
 have HS1 := Lib.hid hs1
 clear hs1
 have S := ((St.start w).addR h1)
 clear h1
 go_enter Tryz.func81, Tryz.ntmps81
 go_upto_region 1 with fail
 replace S := (S.alloc 31 [.bool b3, .slice A3 n3 c3, .bool d3, .slice B3 m3 e3])
 obtain ⟨W1, eW, S⟩ := S.pack
 rw [eW]
 clear eW
 obtain ⟨r0_0, r0_1, r0_2, r0_3⟩ := S.cc4 0 rfl
 go_wp2_with fail
 refine ((gvalue_num (S.ri 0 rfl))).mono ?_
 rintro e W2 ⟨U2, rfl, hp, hk⟩
 obtain ⟨b4, A4, n4, c4, d4, B4, m4, e4, rfl⟩ := hp.open_
 replace S := (S.below hk).addQ hp
 clear hk hp
 clear r0_0 r0_1 r0_2 r0_3
 go_upto_region 2 with fail
 replace S := (S.alloc 31 [.bool b4, .slice A4 n4 c4, .bool d4, .slice B4 m4 e4])
 obtain ⟨W3, eW, S⟩ := S.pack
 rw [eW]
 clear eW
 generalize W2.heap.size = P1 at *
 obtain ⟨r1_0, r1_1, r1_2, r1_3⟩ := S.cc4 0 rfl
 go_wp2_with fail
 refine ((rtext_l ((S.qi 0 rfl).nn (by omega)) HT1.out)).mono ?_
 rintro e W4 ⟨rfl, hk⟩
 replace S := S.below hk
 clear hk
 clear r1_0 r1_1 r1_2 r1_3
 go_upto_region 3 with fail
 refine wp_region_steps (m := 4) rfl (by kernel_rfl) (fun iF vF wF => (List.getD [ve (.pointer (some ⟨P1, 2, none⟩)), ve (.agg #[.bool d4, .slice B4 m4 e4]), fun vF wF => IntRep wF vF (1), ve (.int .i64 s1)] iF (fun _ _ => True)) vF wF) [] ?_ ?_ ?_
 ·intro i v w w' _ h hk
  refine stabL_get ?_ i v w w' h hk
  exact stab_cons st_e (stab_cons st_e (stab_cons st_i (stab_cons st_e stab_nil)))
 ·intro i hi vs w3 hk3 hd
  have S3 := S.drew.below hk3
  obtain ⟨a0, a1, a2, a3⟩ := S3.cc4 0 rfl
  match i, hi with
  | 0, _ =>
   refine sv0 [] (ve (.pointer (some ⟨P1, 2, none⟩))) rfl fun K hK => ?_; clear hd; simp only [frD] at hK ⊢; go_simp
   exact hK _ _ bl rfl
  | 1, _ =>
   have qe0 : (vs 0) = .pointer (some ⟨P1, 2, none⟩) := hdk hd 0
   refine sv0 [(0, some 10)] (ve (.agg #[.bool d4, .slice B4 m4 e4])) rfl fun K hK => ?_; clear hd; simp only [frD, qe0] at hK ⊢; go_simp
   exact hK _ _ bl rfl
  | 2, _ =>
   refine sc (A := #[.int .i64 1]) (B := #[.int .i64 1]) [] (fun vF wF => IntRep wF vF (1)) rfl (wanted_none rfl) rfl Tryz.func68 ?_
   refine ((whole_int 1 (by omega) (by omega))).mono ?_; rintro e w4 ⟨U, rfl, hr, hk4⟩; exact ⟨_, rfl, hk4, hr⟩
  | 3, _ =>
   have qe1 : (vs 1) = .agg #[.bool d4, .slice B4 m4 e4] := hdk hd 1; have h2 : IntRep w3 (vs 2) (1) := hdk hd 2
   refine sc (A := #[(vs 1), (vs 2)]) (B := #[.agg #[.bool d4, .slice B4 m4 e4], (vs 2)]) [(1, some 11), (2, some 12)] (ve (.int .i64 s1)) rfl (wanted_none rfl) (by rw [qe1]) Tryz.func66 ?_
   refine ((rcompare_s ((S3.qi 0 rfl).dn (by omega)) (h2.num (by omega)) HS1.out)).mono ?_; rintro e w4 ⟨rfl, hk4⟩; exact ⟨_, rfl, hk4, rfl⟩
  | i + 4, hi => exact absurd hi (by omega)
 ·intro vs W5 hk3 hΦ _
  simp only [List.drop_succ_cons, List.drop_zero]
  rw [fr_frD, show (List.range 4).map _ = [(0, some 10), (1, some 11), (2, some 12), (3, some 13)] by kernel_rfl]
  have pa0 : (vs 0) = .pointer (some ⟨P1, 2, none⟩) := hΦ 0 (by decide)
  have pa1 : (vs 1) = .agg #[.bool d4, .slice B4 m4 e4] := hΦ 1 (by decide)
  have pa2 : IntRep W5 (vs 2) (1) := hΦ 2 (by decide)
  have pa3 : (vs 3) = .int .i64 s1 := hΦ 3 (by decide)
  clear hΦ
  simp only [frD, pa0, pa1, pa3]
  simp only [Act.put, List.setIfInBounds_toArray, List.set_cons_zero, List.set_cons_succ]
  clear pa0 pa1 pa3
  generalize vs 2 = Upa2 at pa2 ⊢
  replace S := S.drew.below hk3
  clear pa2
  clear hk3
  rcases Bool.eq_false_or_eq_true ((s1 == 0)) with t1 | t1
  ·skip
   go_wp2
   go_ret
   exact ⟨by rw [HF1.out (by have := beq_iff_eq.1 t1; exact den_one this HS1.out)]; rfl, S.k⟩
  ·skip
   obtain ⟨r1_0, r1_1, r1_2, r1_3⟩ := S.cc4 0 rfl
   go_wp2_with fail
   refine ((rtext_l ((S.qi 0 rfl).dn (by omega)) HT2.out)).mono ?_
   rintro e W6 ⟨rfl, hk⟩
   replace S := S.below hk
   clear hk
   clear r1_0 r1_1 r1_2 r1_3
   go_wp2
   go_ret
   exact ⟨by rw [HF2.out (fun h => by have h2 := HS1.out; rw [h] at h2; rw [← h2] at t1; exact absurd t1 (by decide))]; rfl, S.k⟩
end Go.Proofs.YtgcigdahjabimaaGreatDoor
namespace Go.Proofs.YtgcigdahjabimaaGreatDoor
open Go
theorem dd_digits (u : Nat) : (Lib.decDigits u).all isDg = true ∧ valD (Lib.decDigits u) = u ∧ Lib.decDigits u ≠ [] := by
 by_cases h : u = 0
 ·subst h
  rw [Lib.decDigits_one (by decide)]
  exact ⟨by decide, by decide, by decide⟩
 ·rw [← txt_pos u h]
  obtain ⟨h1, h2, -⟩ := txt_digits u
  exact ⟨h1, h2, fun e => h (by rw [e] at h2; exact h2.symm)⟩
theorem dg_no {l : List UInt8} {c : UInt8} (h : l.all isDg = true) (hc : isDg c = false) : c ∉ l := fun hm => by
 have := List.all_eq_true.1 h c hm
 rw [hc] at this
 cases this
theorem fold_ge : ∀ (l : List UInt8) (a : Nat), a ≤ l.foldl (fun a c => a * 10 + (c.toNat - 48)) a
 | [], _ => Nat.le_refl _
 | c :: r, a => Nat.le_trans (by omega) (fold_ge r (a * 10 + (c.toNat - 48)))
theorem pu10_digits : ∀ (l : List UInt8) (a : Nat), l.all isDg = true → l.foldl (fun a c => a * 10 + (c.toNat - 48)) a ≤ 9223372036854775808 → Lib.parseUint10 a l = .ok (l.foldl (fun a c => a * 10 + (c.toNat - 48)) a)
 | [], _, _, _ => rfl
 | c :: r, a, hd, hb => by
  rw [List.all_cons, Bool.and_eq_true] at hd
  rw [List.foldl_cons] at hb ⊢
  have hc : 48 ≤ c.toNat ∧ c.toNat ≤ 57 := by have := hd.1; unfold isDg at this; simpa using this
  have hg := fold_ge r (a * 10 + (c.toNat - 48))
  unfold Lib.parseUint10
  rw [if_pos hc, if_neg (by omega), if_neg (by omega)]
  exact pu10_digits r _ hd.2 hb
theorem mag_digits {u : Nat} (h : u ≤ 9223372036854775808) : Lib.parseMag (Lib.decDigits u) = .ok u := by
 obtain ⟨h1, h2, h3⟩ := dd_digits u
 unfold Lib.parseMag
 have h4 : (Lib.decDigits u).foldl (fun a c => a * 10 + (c.toNat - 48)) 0 = u := h2
 rw [if_neg h3, pu10_digits _ 0 h1 (by rw [h4]; exact h), h4]
theorem atV_itoa {n : Int} (h1 : -9223372036854775808 ≤ n) (h2 : n ≤ 9223372036854775807) : atV (Lib.itoa n) = n := by
 unfold Lib.itoa
 by_cases h : n < 0
 ·rw [if_pos h]
  unfold atV Lib.atoiAll
  have hm := mag_digits (u := n.natAbs) (by omega)
  simp only [show (45 : UInt8).toNat = 45 from rfl, or_true, if_true, hm]
  rw [if_neg (by simp), if_neg (by omega)]
  show -((n.natAbs : Nat) : Int) = n
  omega
 ·rw [if_neg h]
  obtain ⟨g1, g2, g3⟩ := dd_digits n.toNat
  have hm := mag_digits (u := n.toNat) (by omega)
  obtain ⟨c, r, hcr⟩ := List.exists_cons_of_ne_nil g3
  have hc : 48 ≤ c.toNat ∧ c.toNat ≤ 57 := by
   rw [hcr, List.all_cons, Bool.and_eq_true] at g1
   have := g1.1
   unfold isDg at this
   simpa using this
  unfold atV Lib.atoiAll
  rw [hcr] at hm ⊢
  simp only
  rw [if_neg (show ¬ (c.toNat = 43 ∨ c.toNat = 45) by omega), hm]
  simp only
  rw [if_neg (by omega), if_neg (by omega), if_neg (by omega)]
  show ((n.toNat : Nat) : Int) = n
  omega
theorem itoa_no {c : UInt8} (hc : isDg c = false) (h45 : c ≠ 45) (n : Int) : c ∉ Lib.itoa n := by
 unfold Lib.itoa
 split
 ·rw [List.mem_cons]
  exact fun h => h.elim h45 (dg_no (dd_digits _).1 hc)
 ·exact dg_no (dd_digits _).1 hc
theorem textL_dd {z : Int} (h : 0 ≤ z) : textL z = Lib.decDigits z.natAbs := by
 unfold textL
 by_cases h0 : z = 0
 ·subst h0
  rw [if_pos rfl, show (0 : Int).natAbs = 0 from rfl, Lib.decDigits_one (by decide)]
  rfl
 ·rw [if_neg h0, if_neg (by omega)]
  rfl
theorem natV_text {z : Int} (h : 0 ≤ z) : natV (textL z) = z.natAbs := by
 rw [textL_dd h, natV_digits (dd_digits _).1, (dd_digits _).2.1]
theorem numQ_frac {q : Rat} (h : 0 ≤ q) : numQ (fracT q) = q := by
 have hn : 0 ≤ q.num := Rat.num_nonneg.2 h
 have h47 : ∀ z : Int, 0 ≤ z → (47 : UInt8) ∉ textL z := fun z hz => by rw [textL_dd hz]; exact dg_no (dd_digits _).1 (by decide)
 unfold fracT
 by_cases hd : q.den = 1
 ·rw [if_pos hd, List.append_nil]
  have hm := h47 q.num hn
  unfold numQ numB
  rw [if_neg hm, pre_none hm, natV_text hn, natV_digits (l := [49]) (by decide), show valD [49] = 1 from rfl, if_neg (by decide)]
  have e : ((q.num.natAbs : Nat) : Int) = q.num := by omega
  rw [e]
  have := Rat.num_divInt_den q
  rw [hd] at this
  exact this
 ·rw [if_neg hd]
  obtain ⟨p1, p2⟩ := pre_app (c := 47) (a := textL q.num) (b := textL (q.den : Int)) (h47 q.num hn)
  have hB : numB (textL q.num ++ 47 :: textL (q.den : Int)) = textL (q.den : Int) := by
   unfold numB
   rw [if_pos (List.mem_append_right _ List.mem_cons_self), p2]
  unfold numQ
  rw [hB, p1, natV_text hn, natV_text (by omega)]
  rw [if_neg (by have := q.den_pos; omega)]
  have e : ((q.num.natAbs : Nat) : Int) = q.num := by omega
  rw [e, Int.natAbs_natCast]
  exact Rat.num_divInt_den q
theorem fracT_no {c : UInt8} (hc : isDg c = false) (h45 : c ≠ 45) (h47 : c ≠ 47) (q : Rat) : c ∉ fracT q := by
 unfold fracT
 rw [List.mem_append]
 rintro (h | h)
 ·exact textL_no hc h45 _ h
 ·split at h
  ·cases h
  ·rcases List.mem_cons.1 h with h | h
   ·exact h47 h
   ·exact textL_no hc h45 _ h
def lnT (p : List UInt8 × List UInt8) : List UInt8 := p.1 ++ 32 :: (p.2 ++ [10])
structure LnOk (p : List UInt8 × List UInt8) : Prop where
 a : 10 ∉ p.1
 b : 32 ∉ p.1
 c : 10 ∉ p.2
theorem lnok {a v : List UInt8} (h : (a.contains 10 || a.contains 32) = false) (hv : (10 : UInt8) ∉ v) : LnOk (a, v) := by
 rw [Bool.or_eq_false_iff] at h
 obtain ⟨h1, h2⟩ := h
 exact LnOk.mk (p := (a, v)) (fun hm => by rw [List.contains_iff_mem.2 hm] at h1; cases h1) (fun hm => by rw [List.contains_iff_mem.2 hm] at h2; cases h2) hv
theorem ln_fld {p : List UInt8 × List UInt8} (h : LnOk p) (r : List UInt8) : fldV (lnT p ++ r) = p.2 ∧ fldR (lnT p ++ r) = r := by
 have e : lnT p ++ r = (p.1 ++ 32 :: p.2) ++ 10 :: r := by unfold lnT; simp
 have hn : 10 ∉ p.1 ++ 32 :: p.2 := by
  rw [List.mem_append, List.mem_cons]
  rintro (h1 | h1 | h1)
  ·exact h.a h1
  ·exact absurd h1 (by decide)
  ·exact h.c h1
 obtain ⟨e1, e2⟩ := pre_app (c := 10) (a := p.1 ++ 32 :: p.2) (b := r) hn
 unfold fldV fldR
 rw [e, e1, e2]
 exact ⟨(pre_app (c := 32) (a := p.1) (b := p.2) h.b).2, rfl⟩
theorem rst_lines {L : List (List UInt8 × List UInt8)} (h : ∀ p ∈ L, LnOk p) : ∀ k, k ≤ L.length → rstK (L.map lnT).flatten k = ((L.drop k).map lnT).flatten
 | 0, _ => by rw [rstK, List.drop_zero]
 | k + 1, hk => by
  have hd : L.drop k = L[k] :: L.drop (k + 1) := List.drop_eq_getElem_cons (by omega)
  rw [rstK, rst_lines h k (by omega), hd, List.map_cons, List.flatten_cons]
  exact (ln_fld (h _ (List.getElem_mem _)) _).2
theorem fld_lines {L : List (List UInt8 × List UInt8)} (h : ∀ p ∈ L, LnOk p) {k : Nat} {p : List UInt8 × List UInt8} (hp : L[k]? = some p) : fldV (rstK (L.map lnT).flatten k) = p.2 := by
 obtain ⟨hk, rfl⟩ := List.getElem?_eq_some_iff.1 hp
 have hd : L.drop k = L[k] :: L.drop (k + 1) := List.drop_eq_getElem_cons hk
 rw [rst_lines h k (by omega), hd, List.map_cons, List.flatten_cons]
 exact (ln_fld (h _ (List.getElem_mem _)) _).1
def hdLn (s : Sm) (i : Nat) : List UInt8 × List UInt8 := (wordsL.getD i [], Lib.itoa ((numsL s).getD i 0))
def rwLn (s : Sm) (i : Nat) : List UInt8 × List UInt8 := ([114, 111, 119], Lib.itoa (i : Int) ++ 32 :: (fracT (s.rd.getD i (0, false)).1 ++ 32 :: fracT (s.sx.getD i (0, false)).1))
def smLn (s : Sm) : List (List UInt8 × List UInt8) :=
 (List.range 6).map (hdLn s) ++ ([([111, 98, 106, 101, 99, 116, 105, 118, 101], fracT s.ob.1), ([115, 105, 103, 109, 97, 50], fracT s.sg.1)] ++ ((List.range s.rd.length).map (rwLn s) ++ [([119, 111, 114, 115, 116], Lib.itoa s.wo)]))
theorem lineT_ln (a b : List UInt8) : lineT [a, b] = lnT (a, b) := by simp [lineT, lnT, Lib.join]
theorem rowLn_ln (s : Sm) (i : Nat) : rowLn s i = lnT (rwLn s i) := by simp [rowLn, lineT, lnT, rwLn, Lib.join, List.intercalate, List.intersperse]
theorem sumT_ln (s : Sm) : sumT s = ((smLn s).map lnT).flatten := by
 have h1 : headT s 6 = (((List.range 6).map (hdLn s)).map lnT).flatten := by
  unfold headT
  rw [List.map_map]
  congr 1
  exact List.map_congr_left fun i _ => lineT_ln _ _
 have h2 : rowsT s s.rd.length = (((List.range s.rd.length).map (rwLn s)).map lnT).flatten := by
  unfold rowsT
  rw [List.map_map]
  congr 1
  exact List.map_congr_left fun i _ => rowLn_ln s i
 unfold sumT topT smLn
 rw [h1, h2, lineT_ln, lineT_ln, lineT_ln]
 simp only [List.map_append, List.flatten_append, List.map_cons, List.map_nil, List.flatten_cons, List.flatten_nil, List.append_nil, List.append_assoc]
theorem smLn_ok (s : Sm) : ∀ p ∈ smLn s, LnOk p := by
 have n10 : ∀ n : Int, (10 : UInt8) ∉ Lib.itoa n := fun n => itoa_no (by decide) (by decide) n
 have f10 : ∀ q : Rat, (10 : UInt8) ∉ fracT q := fun q => fracT_no (by decide) (by decide) (by decide) q
 intro p hp
 unfold smLn at hp
 simp only [List.mem_append, List.mem_map, List.mem_range, List.mem_cons, List.not_mem_nil, or_false] at hp
 rcases hp with ⟨i, hi, rfl⟩ | (rfl | rfl) | ⟨i, -, rfl⟩ | rfl
 ·have : i = 0 ∨ i = 1 ∨ i = 2 ∨ i = 3 ∨ i = 4 ∨ i = 5 := by omega
  rcases this with rfl | rfl | rfl | rfl | rfl | rfl <;> exact lnok (by decide) (n10 _)
 ·exact lnok (by decide) (f10 _)
 ·exact lnok (by decide) (f10 _)
 ·refine lnok (by decide) ?_
  show (10 : UInt8) ∉ Lib.itoa (i : Int) ++ 32 :: (fracT (s.rd.getD i (0, false)).1 ++ 32 :: fracT (s.sx.getD i (0, false)).1)
  simp only [List.mem_append, List.mem_cons]
  rintro (h | h | h | h | h)
  ·exact n10 _ h
  ·exact absurd h (by decide)
  ·exact f10 _ h
  ·exact absurd h (by decide)
  ·exact f10 _ h
 ·exact lnok (by decide) (n10 _)
theorem Sm.eq {s t : Sm} (h0 : s.dim = t.dim) (h1 : s.st = t.st) (h2 : s.pt = t.pt) (h3 : s.rw_ = t.rw_) (h4 : s.fr = t.fr) (h5 : s.rk = t.rk) (h6 : s.ob = t.ob) (h7 : s.sg = t.sg) (h8 : s.rd = t.rd) (h9 : s.sx = t.sx) (h10 : s.wo = t.wo) : s = t := by
 cases s; cases t
 simp only at h0 h1 h2 h3 h4 h5 h6 h7 h8 h9 h10
 subst h0 h1 h2 h3 h4 h5 h6 h7 h8 h9 h10
 rfl
theorem prs_sum {s : Sm} (h : formB s = true) : prsS (sumT s) = s := by
 obtain ⟨f0, f1, f2, f3, f4, f5, f6, f7, f8, f9, f10, f11, f12⟩ := form_ok h
 have hok := smLn_ok s
 have hhd : ∀ k, k < 6 → hdV (sumT s) k = (numsL s).getD k 0 := fun k hk => by
  have hp : (smLn s)[k]? = some (hdLn s k) := by
   unfold smLn
   rw [List.getElem?_append_left (by simpa using hk), List.getElem?_map, List.getElem?_range hk]
   rfl
  unfold hdV
  rw [sumT_ln, fld_lines hok hp]
  obtain ⟨a, b⟩ := (form_nums h).1 k hk
  exact atV_itoa a b
 have hrw : hdV (sumT s) 3 = s.rw_ := hhd 3 (by decide)
 have hn : rowsN (sumT s) = s.rd.length := by
  unfold rowsN
  rw [hrw]
  omega
 have hat : ∀ j, (smLn s)[6 + j]? = ([([111, 98, 106, 101, 99, 116, 105, 118, 101], fracT s.ob.1), ([115, 105, 103, 109, 97, 50], fracT s.sg.1)] ++ ((List.range s.rd.length).map (rwLn s) ++ [([119, 111, 114, 115, 116], Lib.itoa s.wo)]))[j]? := fun j => by
  unfold smLn
  rw [List.getElem?_append_right (by simp), List.length_map, List.length_range, show 6 + j - 6 = j by omega]
 have hob : numQ (fldV (rstK (sumT s) 6)) = s.ob.1 := by
  rw [sumT_ln, fld_lines hok (hat 0)]
  exact numQ_frac f11.2
 have hsg : numQ (fldV (rstK (sumT s) 7)) = s.sg.1 := by
  rw [sumT_ln, fld_lines hok (hat 1)]
  exact numQ_frac f12.2
 have hat2 : ∀ j, (smLn s)[8 + j]? = ((List.range s.rd.length).map (rwLn s) ++ [([119, 111, 114, 115, 116], Lib.itoa s.wo)])[j]? := fun j => by
  rw [show 8 + j = 6 + (j + 2) by omega, hat, List.cons_append, List.cons_append, List.nil_append, List.getElem?_cons_succ, List.getElem?_cons_succ]
 have hrow : ∀ i, i < s.rd.length → rowV (sumT s) i = fracT (s.rd.getD i (0, false)).1 ++ 32 :: fracT (s.sx.getD i (0, false)).1 := fun i hi => by
  have hp : (smLn s)[8 + i]? = some (rwLn s i) := by
   rw [hat2, List.getElem?_append_left (by simpa using hi), List.getElem?_map, List.getElem?_range hi]
   rfl
  unfold rowV
  rw [sumT_ln, fld_lines hok hp]
  exact (pre_app (c := 32) (itoa_no (by decide) (by decide) _)).2
 have hwo : atV (fldV (rstK (sumT s) (8 + s.rd.length))) = s.wo := by
  have hp : (smLn s)[8 + s.rd.length]? = some ([119, 111, 114, 115, 116], Lib.itoa s.wo) := by
   rw [hat2, List.getElem?_append_right (by simp)]
   simp
  rw [sumT_ln, fld_lines hok hp]
  obtain ⟨a, b⟩ := (form_nums h).2.1
  exact atV_itoa a b
 have hls : ∀ i, i < s.rd.length → s.rd[i]? = some (s.rd.getD i (0, false)) ∧ s.sx[i]? = some (s.sx.getD i (0, false)) := fun i hi => by
  constructor
  ·rw [List.getD, List.getElem?_eq_getElem hi]; rfl
  ·rw [List.getD, List.getElem?_eq_getElem (by omega)]; rfl
 have h32 : ∀ q : Rat, (32 : UInt8) ∉ fracT q := fun q => fracT_no (by decide) (by decide) (by decide) q
 have k0 : hdV (sumT s) 0 = s.dim := hhd 0 (by decide)
 have k1 : hdV (sumT s) 1 = s.st := hhd 1 (by decide)
 have k2 : hdV (sumT s) 2 = s.pt := hhd 2 (by decide)
 have k4 : hdV (sumT s) 4 = s.fr := hhd 4 (by decide)
 have k5 : hdV (sumT s) 5 = s.rk := hhd 5 (by decide)
 have kwo : atV (fldV (rstK (sumT s) (8 + rowsN (sumT s)))) = s.wo := by rw [hn]; exact hwo
 have kob : (numQ (fldV (rstK (sumT s) 6)), true) = s.ob := by rw [hob, ← f11.1]
 have ksg : (numQ (fldV (rstK (sumT s) 7)), true) = s.sg := by rw [hsg, ← f12.1]
 clear hhd hob hsg hwo hat hat2
 generalize sumT s = T at *
 refine Sm.eq k0 k1 k2 hrw k4 k5 kob ksg ?_ ?_ kwo
 ·show (List.range (rowsN T)).map (rdQ T) = s.rd
  rw [hn]
  refine List.ext_getElem? fun i => ?_
  by_cases hi : i < s.rd.length
  ·obtain ⟨e1, -⟩ := hls i hi
   obtain ⟨m1, m2, -⟩ := f9 _ (List.mem_of_getElem? e1)
   rw [List.getElem?_map, List.getElem?_range hi, e1]
   show some (rdQ T i) = _
   unfold rdQ
   rw [hrow i hi, (pre_app (c := 32) (h32 _)).1, numQ_frac m2, ← m1]
  ·rw [List.getElem?_eq_none (by simpa using hi), List.getElem?_eq_none (by omega)]
 ·show (List.range (rowsN T)).map (sxQ T) = s.sx
  rw [hn]
  refine List.ext_getElem? fun i => ?_
  by_cases hi : i < s.rd.length
  ·obtain ⟨-, e1⟩ := hls i hi
   obtain ⟨m1, m2⟩ := f10 _ (List.mem_of_getElem? e1)
   rw [List.getElem?_map, List.getElem?_range hi, e1]
   show some (sxQ T i) = _
   unfold sxQ
   rw [hrow i hi, (pre_app (c := 32) (h32 _)).2, numQ_frac m2, ← m1]
  ·rw [List.getElem?_eq_none (by simpa using hi), List.getElem?_eq_none (by omega)]
end Go.Proofs.YtgcigdahjabimaaGreatDoor
