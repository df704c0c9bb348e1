/- The walk of the law IntegerTexts. -/
import Derived.Test.YthgbgoidnnfapaaDoorBox
import Derived.Test.YthgbgoidnnfapaaDoorParse
import Derived.Test.YthgbgoidnnfapaaDoorRText
import Derived.Test.YthgbgoidnnfapaaDoorSame
namespace Go.Proofs.YthgbgoidnnfapaaDoor
open Go.RowKit Go.Shelf

/-- what Parse hands back -/
def ParseGives (z c : Int) (w : World) (e : Ending) (w' : World) : Prop := ∃ Q, e = .returned (.tuple #[Q, .int .i64 c]) ∧ IntRep w' Q z ∧ Keeps w w'
theorem parse_s {s : ByteArray} {z c : Int} (w : World) (hs : s.size ≤ 9223372036854775807) (hz : parseZ s.data.toList = z) (hc : parseC s.data.toList = c) : Calls Tryd.prog 47 #[.string s] w (ParseGives z c w) := by
  subst hz hc; exact parse_any s w hs
theorem rparse_s {s : ByteArray} {z c : Int} (w : World) (hs : s.size ≤ 9223372036854775807) (hz : parseZ s.data.toList = z) (hc : parseC s.data.toList = c) : Calls Tryd.prog 49 #[.string s] w (ParseGives z c w) := by
  subst hz hc; exact rparse_any s w hs
theorem text_s {w : World} {V : Value} {z : Int} {tb : ByteArray} (h : IntNum w V z) (ht : PowTab w) (e : ByteArray.mk (textL z).toArray = tb) : Calls Tryd.prog 35 #[V] w fun e w' => e = .returned (.string tb) ∧ Keeps w w' := by
  subst e; exact text_num h ht
theorem rtext_s {w : World} {V : Value} {z : Int} {tb : ByteArray} (h : IntNum w V z) (e : ByteArray.mk (textL z).toArray = tb) : Calls Tryd.prog 48 #[V] w fun e w' => e = .returned (.string tb) ∧ Keeps w w' := by
  subst e
  obtain ⟨n, xs, h, rfl, l⟩ := h
  exact rtext_any n xs V w h l
theorem textL_parse (l : List UInt8) (h : parseC l = 0) : textL (parseZ l) = l := by
  have hz : parseZ l = (if negOf l then -(valD (bodyOf l) : Int) else (valD (bodyOf l) : Int)) := if_pos h
  unfold parseC at h
  split at h
  · omega
  · split at h
    · omega
    · rename_i hb
      split at h
      · omega
      · rename_i hall
        have hall : (bodyOf l).all isDg = true := by simpa using hall
        have hl : l = (if negOf l then [45] else []) ++ bodyOf l := by
          unfold negOf bodyOf
          cases l with
          | nil => rfl
          | cons a r =>
            by_cases ha : a = 45
            · subst ha; simp
            · simp [ha]
        unfold badHead at hb
        simp only [Bool.or_eq_true, Bool.and_eq_true, not_or, not_and, decide_eq_true_eq, Bool.not_eq_true, List.isEmpty_eq_false_iff] at hb
        obtain ⟨hne, hz0⟩ := hb
        by_cases h48 : (bodyOf l).head? = some 48
        · have h1 := hz0 h48
          have hlen : (bodyOf l).length = 1 := by
            have := List.length_pos_iff.2 hne
            omega
          have hb1 : bodyOf l = [48] := by
            match hbo : bodyOf l, hlen with
            | [c], _ => rw [hbo] at h48; simp at h48; rw [h48]
          rw [hz, h1.2, hb1]
          rw [h1.2, hb1] at hl
          rw [hl]
          rfl
        · have hc : ∀ c r, bodyOf l = c :: r → c ≠ 48 := fun c r e ec => h48 (by rw [e, ec]; rfl)
          have ht := txt_valD (bodyOf l) hall hc
          have hp : valD (bodyOf l) ≠ 0 := fun e => hne (by rw [← ht, e]; rfl)
          rw [txt_pos _ hp] at ht
          have hz' : parseZ l ≠ 0 := by rw [hz]; split <;> omega
          have hneg : (parseZ l < 0) ↔ negOf l = true := by
            rw [hz]
            cases negOf l <;> simp <;> omega
          have habs : (parseZ l).natAbs = valD (bodyOf l) := by rw [hz]; split <;> omega
          unfold textL
          rw [if_neg hz', habs, ht]
          conv => rhs; rw [hl]
          cases hn : negOf l with
          | true => rw [if_pos (hneg.2 hn)]; rfl
          | false => rw [if_neg (fun h => by have := hneg.1 h; rw [hn] at this; cases this)]; rfl
theorem parse_textL (z : Int) (hl : (textL z).length ≤ 2000) : parseC (textL z) = 0 ∧ parseZ (textL z) = z := by
  by_cases h0 : z = 0
  · subst h0; exact ⟨by decide, by decide⟩
  · have ht : textL z = (if z < 0 then [45] else []) ++ txt z.natAbs := by unfold textL; rw [if_neg h0, txt_pos _ (by omega)]
    obtain ⟨h1, h2, h3⟩ := txt_digits z.natAbs
    have hne : txt z.natAbs ≠ [] := fun e => by rw [e] at h2; simp [valD] at h2; omega
    obtain ⟨c, r, hcr⟩ := List.exists_cons_of_ne_nil hne
    have hc48 := h3 c r hcr
    have hdc : isDg c = true := by rw [hcr, List.all_cons, Bool.and_eq_true] at h1; exact h1.1
    have hc45 : c ≠ 45 := fun e => by subst e; exact absurd hdc (by decide)
    have hb : bodyOf (textL z) = txt z.natAbs := by
      rw [ht]; unfold bodyOf
      by_cases hz : z < 0
      · rw [if_pos hz]; simp
      · rw [if_neg hz, hcr]; simp [hc45]
    have hn : negOf (textL z) = decide (z < 0) := by
      rw [ht]; unfold negOf
      by_cases hz : z < 0
      · simp [hz]
      · simp [hz, hcr, hc45]
    have hbl : (txt z.natAbs).length ≤ 2000 := by rw [ht, List.length_append] at hl; omega
    have hpc : parseC (textL z) = 0 := by
      unfold parseC
      rw [if_neg (by omega), if_neg, if_neg (by rw [hb, h1]; decide), if_neg (by rw [hb]; omega)]
      unfold badHead
      rw [hb, hcr]
      simp [hc48]
    refine ⟨hpc, ?_⟩
    unfold parseZ
    rw [if_pos hpc, hn, hb, h2]
    by_cases hz : z < 0
    · simp [hz]; omega
    · simp [hz]; omega
theorem pow_230 (n : Nat) (h : n ≤ 2000) : 10 ^ n ≤ 1000000000 ^ 230 := by
  obtain ⟨k, hk⟩ : ∃ k, k = 230 := ⟨_, rfl⟩
  rw [← hk, show (1000000000 : Nat) = 10 ^ 9 from rfl, ← Nat.pow_mul]
  exact Nat.pow_le_pow_right (by omega) (by omega)
theorem parse_len (l : List UInt8) : lenI (parseZ l) ≤ 230 := by
  by_cases h : parseC l = 0
  · have hz : parseZ l = (if negOf l then -(valD (bodyOf l) : Int) else (valD (bodyOf l) : Int)) := if_pos h
    unfold parseC at h
    split at h
    · omega
    · split at h
      · omega
      · split at h
        · omega
        · rename_i hall
          split at h
          · omega
          · rename_i hlen
            have hv := valD_lt (bodyOf l) (by simpa using hall)
            unfold lenI
            have ha : (parseZ l).natAbs = valD (bodyOf l) := by rw [hz]; split <;> omega
            rw [ha]
            refine dig_length_le (Nat.lt_of_lt_of_le hv ?_)
            exact pow_230 _ (by omega)
  · rw [parseZ_err rfl h]; simp [lenI, dig_zero]
theorem textL_len (z : Int) (h : lenI z ≤ 12) : (textL z).length ≤ 120 := by
  unfold textL
  split
  · simp
  · rename_i h0
    rw [← txt_pos _ (show z.natAbs ≠ 0 by omega), List.length_append]
    have h1 := dig_lt z.natAbs
    have h2 : (txt z.natAbs).length ≤ 9 * (dig z.natAbs).length := txt_len _ _ (by rw [Nat.pow_mul]; exact h1)
    unfold lenI at h
    have : (if z < 0 then ([45] : List UInt8) else []).length ≤ 1 := by split <;> simp
    omega

def tx7Φ (x : Int) (tb : ByteArray) (Vx Vy : Value) : Nat → Value → World → Prop
  | 0, v, _ => v = .string tb
  | 1, v, _ => v = Vx
  | 2, v, _ => v = .string tb
  | 3, v, _ => v = .bool false
  | 4, v, _ => v = .bool false
  | 5, v, _ => v = .int .i64 0
  | 6, v, _ => v = .bool false
  | 7, v, _ => v = .bool false
  | 8, v, _ => v = .bool false
  | 9, v, _ => v = Vy
  | 10, v, _ => v = Vx
  | 11, v, w => IntRep w v (x)
  | 12, v, _ => v = .bool true
  | 13, v, _ => v = .bool false
  | 14, v, _ => v = .bool false
  | _, _, _ => True
set_option maxRecDepth 100000 in
set_option maxHeartbeats 2000000 in
theorem texts_walk (s : ByteArray) (n1 : Bool) (xs : List Nat) (V1 : Value) (w : World) (hkn : ∀ W, Keeps w W → KnownAt W) (ht : PowTab w) (h1 : IntArg w V1 n1 xs) (hsz : s.size ≤ 9223372036854775807) (hm1 : xs.length ≤ 9223372036854775807) :
    Calls Tryd.prog 10 #[V1, .string s] w fun e w' => e = .returned (.bool true) ∧ Keeps w w' := by
  obtain ⟨v1, rfl, hv1⟩ := h1
  have hkk := box2 w (.cells #[.bool n1, v1] 24)
  have hA := Own.new w 24 [.bool n1, v1]
  have hkn0 := Lib.hid (hkn _ hkk)
  clear hkn
  go_enter Tryd.func10, Tryd.ntmps10
  go_wp2_with fail
  have g1 := hv1.below hkk
  generalize w.alloc (.cells #[.bool n1, v1] 24) = W at *
  refine (hkn0.out).mono ?_
  rintro e w1 ⟨rfl, hk1⟩
  have hA1 := hA.below hk1
  have a0 := hA1.c0
  have a1 := hA1.c1
  have k1 := hkk.trans' hk1
  have g1 := g1.below hk1
  obtain ⟨A1, p1, q1, rfl, e1, -⟩ := g1.open_
  have hsh := Lib.hid (short1 n1 A1 p1 q1 _ _ (Own.new w1 24 [.bool n1, .slice A1 p1 q1]) (by omega))
  cases hS : shortB [p1] with
  | false =>
    rw [hS] at hsh
    clear hS e1
    go_wp2_with fail
    refine hsh.out.mono ?_
    rintro e w2 ⟨rfl, hk2⟩
    go_wp2
    go_ret
    exact ⟨rfl, (k1.trans' (box2 _ _)).trans' hk2⟩
  | true =>
    rw [hS] at hsh
    have hl1 : xs.length ≤ 12 := by simp [shortB] at hS; omega
    clear hS e1
    go_wp2_with fail
    refine hsh.out.mono ?_
    rintro e w2 ⟨rfl, hk2⟩
    have hk2' : Keeps w1 w2 := (box2 _ _).trans' hk2
    have hA2 := hA1.below hk2'
    have f1 := g1.below hk2'
    have k2 := k1.trans' hk2'
    clear a0 a1
    have a0 := hA2.c0
    have a1 := hA2.c1
    by_cases hsl : 2100 < s.size
    · have d1 : decide ((2100 : Int) < s.size) = true := decide_eq_true (by omega)
      go_wp2
      go_ret
      exact ⟨rfl, k2⟩
    · have d1 : decide ((2100 : Int) < s.size) = false := decide_eq_false (by omega)
      have hia : IntArg w2 (.agg #[.bool n1, .slice A1 p1 q1]) n1 xs := ⟨_, rfl, f1⟩
      have hvx : IntNum w2 (.agg #[.bool n1, .slice A1 p1 q1]) (cnt n1 xs) := ⟨_, _, hia, rfl, by omega⟩
      have ln1 := lenI_cnt n1 xs
      have htx := Lib.hid (ht.keep k2)
      clear f1 hsh hA1 k1 hk1 hkk hkn0 hA g1 hv1 hk2 hk2' hia ht hm1 hsl
      generalize cnt n1 xs = x at *
      have lx : lenI x ≤ 12 := by omega
      have htl := textL_len x lx
      obtain ⟨hp1, hp2⟩ := parse_textL x (by omega)
      obtain ⟨tb, htb⟩ : ∃ tb, ByteArray.mk (textL x).toArray = tb := ⟨_, rfl⟩
      have htd : tb.data.toList = textL x := by rw [← htb]
      have htz : tb.size ≤ 9223372036854775807 := by
        have : tb.data.toList.length = tb.size := by simp
        rw [htd] at this
        omega
      rw [← htd] at hp1 hp2
      have HTB := Lib.hid htb
      have hT := Lib.hid (text_s hvx htx.out HTB.out)
      have hP := Lib.hid (fun W => parse_s W htz hp2 hp1)
      clear ln1 hl1 htl htb htd htz hp1 hp2
      go_wp2_with fail
      refine hT.out.mono ?_
      rintro e w3 ⟨rfl, hk3⟩
      have hA3 := hA2.below hk3
      have k3 := k2.trans' hk3
      have hvx3 := hvx.below hk3
      clear a0 a1 hT
      have a0 := hA3.c0
      have a1 := hA3.c1
      go_wp2_with fail
      refine (hP.out _).mono ?_
      rintro e w4 ⟨Q, rfl, hr4, hk⟩
      clear hP
      obtain ⟨A3, n3, c3, rfl, -⟩ := hr4.open_
      generalize decide (x < 0) = b3 at *
      have kb := box2 w4 (.cells #[.bool b3, .slice A3 n3 c3] 24)
      have kb4 := hk.trans' kb
      have hs4 : Boxes (w4.alloc (.cells #[.bool b3, .slice A3 n3 c3] 24)) 24 [(w.heap.size, .bool n1, .slice A1 p1 q1), (w4.heap.size, .bool b3, .slice A3 n3 c3)] := ⟨hA3.below kb4, Own.new w4 24 [.bool b3, .slice A3 n3 c3], trivial⟩
      have hr := hr4.below kb
      have hv : Ints (w4.alloc (.cells #[.bool b3, .slice A3 n3 c3] 24)) [(.agg #[.bool n1, .slice A1 p1 q1], x)] := ⟨hvx3.below kb4, trivial⟩
      have k4 := k3.trans' kb4
      have kw := hk3.trans' kb4
      have hlt : w.heap.size < w4.heap.size := by have := (hA3.below hk).lt; omega
      have k2s : w2.heap.size ≤ w4.heap.size := (hk3.trans' hk).size
      clear a0 a1 hvx hvx3 hr4 hk kb kb4 hA2 hA3 hk3 k3 k2
      go_wp2_with fail
      obtain ⟨W, hW⟩ : ∃ W, w4.alloc (.cells #[.bool b3, .slice A3 n3 c3] 24) = W := ⟨_, rfl⟩
      rw [hW] at hs4 hr hv k4 kw ⊢
      clear hW
      have hs := hs4.drew
      replace hv := hv.drew
      replace hr := hr.drew
      replace k4 : Keeps w _ := Below.drew k4
      replace kw : Keeps w2 _ := Below.drew kw
      refine wp_region_steps (m := 15) rfl (by kernel_rfl) (tx7Φ x tb (.agg #[.bool n1, .slice A1 p1 q1]) (.agg #[.bool b3, .slice A3 n3 c3])) [] ?_ ?_ ?_
      · intro i v w w' hi h hk
        match i, hi with
        | 0, _ | 1, _ | 2, _ | 3, _ | 4, _ | 5, _ | 6, _ | 7, _ | 8, _ | 9, _ | 10, _ | 12, _ | 13, _ | 14, _ => exact h
        | 11, _ => exact IntRep.below h hk
        | i + 15, hi => exact absurd hi (by omega)
      · intro i hi vs wph3 hk3 hd
        have hs3 := hs.below hk3
        have hv3 := hv.below hk3
        have a0 := hs3.c0
        have a1 := hs3.c1
        have b0 := hs3.tl.c0
        have b1 := hs3.tl.c1
        match i, hi with
        | 0, _ =>
          refine step_yes (o := ⟨some 28, Op.move (Operand.tmp 5), 9, "law.go:139", #[], none⟩) [] (by kernel_rfl) (by kernel_rfl) fun K hK => ?_
          simp only [frD] at hK ⊢
          refine ⟨by rfl, ?_⟩
          go_simp
          exact hK _ _ ⟨Below.refl _ _, rfl, by simp⟩
        | 1, _ =>
          refine step_yes (o := ⟨some 29, Op.load 24 (Operand.tmp 2), 24, "law.go:139", #[], none⟩) [] (by kernel_rfl) (by kernel_rfl) fun K hK => ?_
          simp only [frD] at hK ⊢
          refine ⟨by rfl, ?_⟩
          go_simp
          exact hK _ _ ⟨Below.refl _ _, rfl, by simp⟩
        | 2, _ =>
          have e1 : vs 1 = (.agg #[.bool n1, .slice A1 p1 q1]) := hd 1 (List.contains_iff_mem.1 (by kernel_rfl))
          refine step_yes (o := ⟨some 30, Op.call { callee := Callee.value (Operand.func 48), args := #[Operand.tmp 29], argTypes := #[24] }, 9, "law.go:139", #[{ on := 1, ground := Ground.data }], none⟩) [(1, some 29)] (by kernel_rfl) (by kernel_rfl) fun K hK => ?_
          simp only [frD, e1] at hK ⊢
          refine ⟨by rfl, ?_⟩
          go_simp
          refine (rtext_s hv3.h HTB.out).mono ?_
          rintro e wph4 ⟨rfl, hk4⟩
          exact hK _ _ ⟨hk4, rfl, by simp⟩
        | 3, _ =>
          have e0 : vs 0 = .string tb := hd 0 (List.contains_iff_mem.1 (by kernel_rfl))
          have e2 : vs 2 = .string tb := hd 2 (List.contains_iff_mem.1 (by kernel_rfl))
          refine step_yes (o := ⟨some 31, Op.binOp BinOp.neq 9 (Operand.tmp 28) (Operand.tmp 30) 9, 4, "law.go:139", #[{ on := 0, ground := Ground.data }, { on := 2, ground := Ground.data }], none⟩) [(0, some 28), (2, some 30)] (by kernel_rfl) (by kernel_rfl) fun K hK => ?_
          simp only [frD, e0, e2] at hK ⊢
          refine ⟨by rfl, ?_⟩
          go_simp
          exact hK _ _ ⟨Below.refl _ _, rfl, by simp⟩
        | 4, _ =>
          have e2 : vs 2 = .string tb := hd 2 (List.contains_iff_mem.1 (by kernel_rfl))
          have e3 : vs 3 = .bool false := hd 3 (List.contains_iff_mem.1 (by kernel_rfl))
          refine step_yes (o := ⟨some 32, Op.move (Operand.tmp 31), 4, "law.go:139", #[{ on := 3, ground := Ground.data }, { on := 2, ground := Ground.chain }], none⟩) [(2, some 30), (3, some 31)] (by kernel_rfl) (by kernel_rfl) fun K hK => ?_
          simp only [frD, e2, e3] at hK ⊢
          refine ⟨by rfl, ?_⟩
          go_simp
          exact hK _ _ ⟨Below.refl _ _, rfl, by simp⟩
        | 5, _ =>
          have e4 : vs 4 = .bool false := hd 4 (List.contains_iff_mem.1 (by kernel_rfl))
          refine step_yes (o := ⟨some 33, Op.move (Operand.tmp 7), 39, "law.go:139", #[{ on := 4, ground := Ground.guard }], some (4, false)⟩) [(4, some 32)] (by kernel_rfl) (by kernel_rfl) fun K hK => ?_
          simp only [frD, e4] at hK ⊢
          refine ⟨by rfl, ?_⟩
          go_simp
          exact hK _ _ ⟨Below.refl _ _, rfl, by simp⟩
        | 6, _ =>
          have e4 : vs 4 = .bool false := hd 4 (List.contains_iff_mem.1 (by kernel_rfl))
          have e5 : vs 5 = .int .i64 0 := hd 5 (List.contains_iff_mem.1 (by kernel_rfl))
          refine step_yes (o := ⟨some 34, Op.binOp BinOp.neq 39 (Operand.tmp 33) (Operand.const (Value.int IntKind.i64 0)) 39, 4, "law.go:139", #[{ on := 5, ground := Ground.data }, { on := 4, ground := Ground.guard }], some (4, false)⟩) [(4, some 32), (5, some 33)] (by kernel_rfl) (by kernel_rfl) fun K hK => ?_
          simp only [frD, e4, e5] at hK ⊢
          refine ⟨by rfl, ?_⟩
          go_simp
          exact hK _ _ ⟨Below.refl _ _, rfl, by simp⟩
        | 7, _ =>
          have e4 : vs 4 = .bool false := hd 4 (List.contains_iff_mem.1 (by kernel_rfl))
          have e6 : vs 6 = .bool false := hd 6 (List.contains_iff_mem.1 (by kernel_rfl))
          refine step_yes (o := ⟨some 35, Op.pick (Operand.tmp 32) (Operand.const (Value.bool true)) (Operand.tmp 34), 4, "law.go:139", #[{ on := 4, ground := Ground.data }, { on := 6, ground := Ground.data }], none⟩) [(4, some 32), (6, some 34)] (by kernel_rfl) (by kernel_rfl) fun K hK => ?_
          simp only [frD, e4, e6] at hK ⊢
          refine ⟨by rfl, ?_⟩
          go_simp
          exact hK _ _ ⟨Below.refl _ _, rfl, by simp⟩
        | 8, _ =>
          have e4 : vs 4 = .bool false := hd 4 (List.contains_iff_mem.1 (by kernel_rfl))
          have e7 : vs 7 = .bool false := hd 7 (List.contains_iff_mem.1 (by kernel_rfl))
          refine step_yes (o := ⟨some 36, Op.move (Operand.tmp 35), 4, "law.go:139", #[{ on := 7, ground := Ground.data }, { on := 4, ground := Ground.chain }], none⟩) [(4, some 32), (7, some 35)] (by kernel_rfl) (by kernel_rfl) fun K hK => ?_
          simp only [frD, e4, e7] at hK ⊢
          refine ⟨by rfl, ?_⟩
          go_simp
          exact hK _ _ ⟨Below.refl _ _, rfl, by simp⟩
        | 9, _ =>
          have e8 : vs 8 = .bool false := hd 8 (List.contains_iff_mem.1 (by kernel_rfl))
          refine step_yes (o := ⟨some 37, Op.load 24 (Operand.tmp 6), 24, "law.go:139", #[{ on := 8, ground := Ground.guard }], some (8, false)⟩) [(8, some 36)] (by kernel_rfl) (by kernel_rfl) fun K hK => ?_
          simp only [frD, e8] at hK ⊢
          refine ⟨by rfl, ?_⟩
          go_simp
          exact hK _ _ ⟨Below.refl _ _, rfl, by simp⟩
        | 10, _ =>
          have e8 : vs 8 = .bool false := hd 8 (List.contains_iff_mem.1 (by kernel_rfl))
          refine step_yes (o := ⟨some 38, Op.load 24 (Operand.tmp 2), 24, "law.go:139", #[{ on := 8, ground := Ground.guard }], some (8, false)⟩) [(8, some 36)] (by kernel_rfl) (by kernel_rfl) fun K hK => ?_
          simp only [frD, e8] at hK ⊢
          refine ⟨by rfl, ?_⟩
          go_simp
          exact hK _ _ ⟨Below.refl _ _, rfl, by simp⟩
        | 11, _ =>
          have e8 : vs 8 = .bool false := hd 8 (List.contains_iff_mem.1 (by kernel_rfl))
          have e10 : vs 10 = (.agg #[.bool n1, .slice A1 p1 q1]) := hd 10 (List.contains_iff_mem.1 (by kernel_rfl))
          refine step_yes (o := ⟨some 39, Op.call { callee := Callee.value (Operand.func 24), args := #[Operand.tmp 38], argTypes := #[24] }, 24, "law.go:139", #[{ on := 10, ground := Ground.data }, { on := 8, ground := Ground.chain }, { on := 8, ground := Ground.guard }], some (8, false)⟩) [(8, some 36), (10, some 38)] (by kernel_rfl) (by kernel_rfl) fun K hK => ?_
          simp only [frD, e8, e10] at hK ⊢
          refine ⟨by rfl, ?_⟩
          go_simp
          refine (rvalue_num hv3.h).mono ?_
          rintro e wph4 ⟨U, rfl, hr, hk4⟩
          exact hK _ _ ⟨hk4, hr, by simp⟩
        | 12, _ =>
          have e8 : vs 8 = .bool false := hd 8 (List.contains_iff_mem.1 (by kernel_rfl))
          have e9 : vs 9 = (.agg #[.bool b3, .slice A3 n3 c3]) := hd 9 (List.contains_iff_mem.1 (by kernel_rfl))
          have h11 : IntRep wph3 (vs 11) (x) := hd 11 (List.contains_iff_mem.1 (by kernel_rfl))
          refine step_yes (o := ⟨some 40, Op.call { callee := Callee.value (Operand.func 15), args := #[Operand.tmp 37, Operand.tmp 39], argTypes := #[24, 24] }, 4, "law.go:139", #[{ on := 9, ground := Ground.data }, { on := 11, ground := Ground.data }, { on := 11, ground := Ground.chain }, { on := 8, ground := Ground.guard }], some (8, false)⟩) [(8, some 36), (9, some 37), (11, some 39)] (by kernel_rfl) (by kernel_rfl) fun K hK => ?_
          simp only [frD, e8, e9] at hK ⊢
          refine ⟨by rfl, ?_⟩
          go_simp
          refine (same_num (hr.below hk3) h11 rfl (by omega)).mono ?_
          rintro e wph4 ⟨rfl, hk4⟩
          exact hK _ _ ⟨hk4, rfl, by simp⟩
        | 13, _ =>
          have e8 : vs 8 = .bool false := hd 8 (List.contains_iff_mem.1 (by kernel_rfl))
          have e12 : vs 12 = .bool true := hd 12 (List.contains_iff_mem.1 (by kernel_rfl))
          refine step_yes (o := ⟨some 41, Op.unOp UnOp.not 4 (Operand.tmp 40), 4, "law.go:139", #[{ on := 12, ground := Ground.data }, { on := 8, ground := Ground.guard }], some (8, false)⟩) [(8, some 36), (12, some 40)] (by kernel_rfl) (by kernel_rfl) fun K hK => ?_
          simp only [frD, e8, e12] at hK ⊢
          refine ⟨by rfl, ?_⟩
          go_simp
          exact hK _ _ ⟨Below.refl _ _, rfl, by simp⟩
        | 14, _ =>
          have e8 : vs 8 = .bool false := hd 8 (List.contains_iff_mem.1 (by kernel_rfl))
          have e13 : vs 13 = .bool false := hd 13 (List.contains_iff_mem.1 (by kernel_rfl))
          refine step_yes (o := ⟨some 42, Op.pick (Operand.tmp 36) (Operand.const (Value.bool true)) (Operand.tmp 41), 4, "law.go:139", #[{ on := 8, ground := Ground.data }, { on := 13, ground := Ground.data }], none⟩) [(8, some 36), (13, some 41)] (by kernel_rfl) (by kernel_rfl) fun K hK => ?_
          simp only [frD, e8, e13] at hK ⊢
          refine ⟨by rfl, ?_⟩
          go_simp
          exact hK _ _ ⟨Below.refl _ _, rfl, by simp⟩
        | i + 15, hi => exact absurd hi (by omega)
      · intro vs wph3 hk3 hΦ _
        simp only [List.drop_succ_cons, List.drop_zero]
        rw [fr_frD, show (List.range 15).map _ = [(0, some 28), (1, some 29), (2, some 30), (3, some 31), (4, some 32), (5, some 33), (6, some 34), (7, some 35), (8, some 36), (9, some 37), (10, some 38), (11, some 39), (12, some 40), (13, some 41), (14, some 42)] by kernel_rfl]
        have ph0 := hΦ 0 (by omega)
        have ph1 := hΦ 1 (by omega)
        have ph2 := hΦ 2 (by omega)
        have ph3 := hΦ 3 (by omega)
        have ph4 := hΦ 4 (by omega)
        have ph5 := hΦ 5 (by omega)
        have ph6 := hΦ 6 (by omega)
        have ph7 := hΦ 7 (by omega)
        have ph8 := hΦ 8 (by omega)
        have ph9 := hΦ 9 (by omega)
        have ph10 := hΦ 10 (by omega)
        have ph11 := hΦ 11 (by omega)
        have ph12 := hΦ 12 (by omega)
        have ph13 := hΦ 13 (by omega)
        have ph14 := hΦ 14 (by omega)
        simp only [tx7Φ] at ph0 ph1 ph2 ph3 ph4 ph5 ph6 ph7 ph8 ph9 ph10 ph11 ph12 ph13 ph14
        clear hΦ
        simp only [frD, ph0, ph1, ph2, ph3, ph4, ph5, ph6, ph7, ph8, ph9, ph10, ph12, ph13, ph14]
        simp only [Act.put, List.setIfInBounds_toArray, List.set_cons_zero, List.set_cons_succ]
        clear ph0
        clear ph1
        clear ph2
        clear ph3
        clear ph4
        clear ph5
        clear ph6
        clear ph7
        clear ph8
        clear ph9
        clear ph10
        generalize vs 11 = U11 at ph11 ⊢
        clear ph12
        clear ph13
        clear ph14
        replace hs := hs.below hk3
        replace k4 := k4.trans' hk3
        replace kw := kw.trans' hk3
        obtain ⟨c, hc⟩ : ∃ c, parseC s.data.toList = c := ⟨_, rfl⟩
        obtain ⟨z, hz⟩ : ∃ z, parseZ s.data.toList = z := ⟨_, rfl⟩
        have hzl := parse_len s.data.toList
        rw [hz] at hzl
        have hPs := Lib.hid (fun W => parse_s W hsz hz hc)
        have hRs := Lib.hid (fun W => rparse_s W hsz hz hc)
        have HC := Lib.hid hc
        have HZ := Lib.hid hz
        clear hc hz hr hv ph11 HTB
        have b0 := hs.tl.c0
        have b1 := hs.tl.c1
        have f0 := hs.tl.o.frozen 0
        have f1 := hs.tl.o.frozen 1
        go_wp2_with fail
        refine (hPs.out _).mono ?_
        rintro e w6 ⟨Q6, rfl, hr6, hk⟩
        obtain ⟨A6, n6, c6, rfl, -⟩ := hr6.open_
        generalize decide (z < 0) = b6 at *
        replace hs := hs.below hk
        replace k4 := k4.trans' hk
        replace kw := kw.trans' hk
        clear b0 b1 f0 f1 hPs
        have b0 := hs.tl.c0
        have b1 := hs.tl.c1
        have f0 := hs.tl.o.frozen 0
        have f1 := hs.tl.o.frozen 1
        go_wp2_with fail
        obtain ⟨W7, hW7⟩ : ∃ W7, W7 = (w6.setCell ⟨w4.heap.size, 0, none⟩ (.bool b6)).setCell ⟨w4.heap.size, 1, none⟩ (.slice A6 n6 c6) := ⟨_, rfl⟩
        rw [← hW7]
        obtain ⟨gP, gO, gS, gK⟩ := one_box hs.tl.o rfl rfl rfl hW7
        replace hr6 := hr6.map gS
        have ltk := kw.size
        have ltw := k4.size
        replace k4 := gK w (by omega) k4
        replace kw := gK w2 (by have := k2s; omega) kw
        clear hW7 gO gS gK hs b0 b1 f0 f1 hk
        refine (hRs.out _).mono ?_
        rintro e w8 ⟨Q8, rfl, hr8, hk⟩
        obtain ⟨A8, n8, c8, rfl, -⟩ := hr8.open_
        generalize decide (z < 0) = b8 at *
        have kb := box2 w8 (.cells #[.bool b8, .slice A8 n8 c8] 24)
        have kb8 := hk.trans' kb
        have hs : Boxes (w8.alloc (.cells #[.bool b8, .slice A8 n8 c8] 24)) 24 [(w4.heap.size, .bool b6, .slice A6 n6 c6), (w8.heap.size, .bool b8, .slice A8 n8 c8)] := ⟨gP.below kb8, Own.new w8 24 [.bool b8, .slice A8 n8 c8], trivial⟩
        replace hr6 := hr6.below kb8
        replace hr8 := hr8.below kb
        replace k4 := k4.trans' kb8
        replace kw := kw.trans' kb8
        clear gP hk kb kb8 hRs
        go_upto_region 11 with fail
        obtain ⟨W9, hW9⟩ : ∃ W9, w8.alloc (.cells #[.bool b8, .slice A8 n8 c8] 24) = W9 := ⟨_, rfl⟩
        rw [hW9] at hs hr6 hr8 k4 kw ⊢
        clear hW9
        have b0 := hs.c0
        have b1 := hs.c1
        have d0 := hs.tl.c0
        have d1' := hs.tl.c1
        by_cases hc0 : c = 0
        · have hback := textL_parse s.data.toList (by rw [HC.out, hc0])
          rw [HZ.out] at hback
          have hst : ByteArray.mk (textL z).toArray = s := by rw [hback]
          have HST := Lib.hid hst
          subst hc0
          clear hback hst HC HZ
          have hM := Lib.hid (same_num hr6 hr8 rfl (by omega))
          have hN := Lib.hid (fun W (k : Keeps _ W) => text_s ((hr6.num (by omega)).below k) ((htx.out.keep kw).keep k) HST.out)
          go_wp2_with fail
          refine hM.out.mono ?_
          rintro e w10 ⟨rfl, hk⟩
          replace hs := hs.below hk
          have hT2 := Lib.hid (hN.out _ hk)
          replace k4 := k4.trans' hk
          clear b0 b1 d0 d1' hM hN hk
          have b0 := hs.c0
          have b1 := hs.c1
          go_wp2_with fail
          refine hT2.out.mono ?_
          rintro e w11 ⟨rfl, hk⟩
          replace k4 := k4.trans' hk
          go_wp2
          go_ret
          exact ⟨rfl, k4⟩
        · have hcb : (c != 0) = true := by simpa using hc0
          have hM := Lib.hid (same_num hr6 hr8 rfl (by omega))
          clear HC HZ hc0
          go_wp2_with fail
          refine hM.out.mono ?_
          rintro e w10 ⟨rfl, hk⟩
          replace k4 := k4.trans' hk
          go_wp2
          go_ret
          exact ⟨rfl, k4⟩
end Go.Proofs.YthgbgoidnnfapaaDoor
