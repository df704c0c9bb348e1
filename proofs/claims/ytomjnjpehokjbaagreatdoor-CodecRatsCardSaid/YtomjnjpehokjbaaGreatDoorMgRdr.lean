/- codec.reader: what it holds; until: the walk. Reading values, plainly. No program in sight. What Decode reads, plainly. No program in sight. Encoding and decoding undo each other, plainly. No program in sight. -/
import Derived.Test.YtomjnjpehokjbaaGreatDoorMgBytes
import Derived.Test.YtomjnjpehokjbaaGreatDoorMgIntA
import Derived.Laws.BytesArg
import Derived.Test.YtomjnjpehokjbaaGreatDoorMgNum
import Derived.Test.YtomjnjpehokjbaaGreatDoorMgWrtA
import Derived.Test.YtomjnjpehokjbaaGreatDoorMgText
namespace Go.Proofs.YtomjnjpehokjbaaGreatDoor
open Go.RowKit Go.Shelf

/-- the bytes ahead of the first mark, and those behind it -/
def cutM (m : UInt8) : List UInt8 → Option (List UInt8 × List UInt8)
  | [] => none
  | c :: r => if c = m then some ([], r) else (cutM m r).map fun p => (c :: p.1, p.2)
theorem cutM_some {m : UInt8} : ∀ {l a b : List UInt8}, cutM m l = some (a, b) → l = a ++ m :: b ∧ Lib.indexByte l m = (a.length : Int)
  | [], a, b, h => by cases h
  | c :: r, a, b, h => by
    unfold cutM at h
    split at h
    · rename_i hc
      subst hc
      cases h
      exact ⟨rfl, by simp [Lib.indexByte]⟩
    · rename_i hc
      obtain ⟨⟨p, q⟩, hp, he⟩ := Option.map_eq_some_iff.1 h
      cases he
      obtain ⟨h1, h2⟩ := cutM_some hp
      refine ⟨congrArg (c :: ·) h1, ?_⟩
      have hb : (c == m) = false := by simpa using hc
      have h3 : ((p.length : Int) == -1) = false := by simp
      unfold Lib.indexByte
      rw [hb, h2, h3]
      simp
theorem cutM_none {m : UInt8} : ∀ {l : List UInt8}, cutM m l = none → Lib.indexByte l m = -1 ∧ m ∉ l
  | [], _ => ⟨rfl, by simp⟩
  | c :: r, h => by
    unfold cutM at h
    split at h
    · cases h
    · rename_i hc
      obtain ⟨h1, h2⟩ := cutM_none (Option.map_eq_none_iff.1 h)
      have hb : (c == m) = false := by simpa using hc
      refine ⟨by unfold Lib.indexByte; rw [hb, h1]; first | done | rfl, ?_⟩
      simp only [List.mem_cons, not_or]
      exact ⟨fun e => hc e.symm, h2⟩
theorem cutM_mk {m : UInt8} : ∀ {a b : List UInt8}, m ∉ a → cutM m (a ++ m :: b) = some (a, b)
  | [], b, _ => by simp [cutM]
  | c :: r, b, h => by
    simp only [List.mem_cons, not_or] at h
    have hc : c ≠ m := fun e => h.1 e.symm
    rw [List.cons_append, cutM, if_neg hc, cutM_mk h.2]
    rfl
/-- a reader: its block r holds the slice of what is still to be read; the bytes lie below B -/
def Rd (w : World) (B r : Nat) (xs : List UInt8) : Prop := B ≤ r ∧ ∃ b o c, Own w r 58 [.slice (some ⟨b, o, none⟩) xs.length c] ∧ SlK (fun k => k < B) w (.slice (some ⟨b, o, none⟩) xs.length c) xs.length (b8 xs)
theorem Rd.keep {w w' : World} {B r : Nat} {xs : List UInt8} (h : Rd w B r xs) (hk : Keeps w w') : Rd w' B r xs := by
  obtain ⟨hB, b, o, c, h1, h2⟩ := h
  exact ⟨hB, b, o, c, h1.below hk, h2.below hk⟩
theorem Rd.put {w : World} {B r : Nat} {xs ys : List UInt8} {b o c : Nat} (h : Rd w B r xs) (hs : SlK (fun k => k < B) w (.slice (some ⟨b, o, none⟩) ys.length c) ys.length (b8 ys)) : Rd (w.setCell ⟨r, 0, none⟩ (.slice (some ⟨b, o, none⟩) ys.length c)) B r ys := by
  obtain ⟨hB, b0, o0, c0, h1, h2⟩ := h
  refine ⟨hB, b, o, c, h1.set 0 _, hs.map (fun k hk _ => ?_) (fun _ h _ => h)⟩
  exact Below.heap_setCell w ⟨r, 0, none⟩ _ k (by simp; omega)
/-- nothing that lay has turned but the block r, and no row of uint32 -/
def Trn (r : Nat) (w w' : World) : Prop := Turn [r] w w' ∧ Same32 w w'
theorem same32_set {w : World} {b : Nat} {t : TypeId} {vs : List Value} (h : Own w b t vs) (hv : vs.all noU32 = true) (i : Nat) (u : Value) : Same32 w (w.setCell ⟨b, i, none⟩ u) := fun _ _ hu => hu.put h hv i u
theorem Trn.refl (r : Nat) (w : World) : Trn r w w := ⟨Turn.refl w, same32_refl w⟩
theorem Trn.keeps {r : Nat} {w w' : World} (hk : Keeps w w') : Trn r w w' := ⟨Turn.of_keeps hk, keeps32 hk⟩
theorem Trn.trans {r : Nat} {w w1 w2 : World} (h : Trn r w w1) (h2 : Trn r w1 w2) : Trn r w w2 := ⟨h.1.trans h2.1 (fun _ hk _ => hk), h.2.trans h2.2⟩
theorem Trn.thenk {r : Nat} {w w1 w2 : World} (h : Trn r w w1) (h2 : Keeps w1 w2) : Trn r w w2 := h.trans (Trn.keeps h2)
theorem Trn.below {r B : Nat} {w w' : World} (h : Trn r w w') (hr : B ≤ r) (hB : B ≤ w.heap.size) : Below B w w' := h.1.below (fun k hk => by simp at hk; omega) hB
theorem Trn.own {r b : Nat} {w w' : World} {t : TypeId} {vs : List Value} (h : Trn r w w') (ho : Own w b t vs) (hb : b ≠ r) : Own w' b t vs := ho.turn h.1 (by simpa using hb)
theorem Rd.trn_set {w : World} {B r : Nat} {xs : List UInt8} {V : Value} (h : Rd w B r xs) : Trn r w (w.setCell ⟨r, 0, none⟩ V) := by
  obtain ⟨-, b, o, c, h1, -⟩ := h
  exact ⟨(Turn.refl w).set (p := ⟨r, 0, none⟩) (by simp) V, same32_set h1 rfl 0 V⟩
theorem Rd.lt {w : World} {B r : Nat} {xs : List UInt8} (h : Rd w B r xs) : r < w.heap.size := by
  obtain ⟨-, b, o, c, h1, -⟩ := h
  exact h1.lt
theorem drop_addr (b o c k : Nat) : ∃ o', (if c = k then some ⟨b, o, none⟩ else some ⟨b, o + k, none⟩ : Option Addr) = some ⟨b, o', none⟩ := by
  split
  · exact ⟨_, rfl⟩
  · exact ⟨_, rfl⟩
/-- a slice's bytes from a place on -/
theorem SlK.drop8 {ok : Nat → Prop} {w : World} {b o n c : Nat} {xs : List UInt8} (h : SlK ok w (.slice (some ⟨b, o, none⟩) n c) xs.length (b8 xs)) {k : Nat} (hk : k ≤ n) : SlK ok w (.slice (if c = k then some ⟨b, o, none⟩ else some ⟨b, o + k, none⟩) (n - k) (c - k)) (xs.drop k).length (b8 (xs.drop k)) := by
  obtain ⟨A, c', e, h1, h2, h0, hr, hok⟩ := h
  cases e
  have hl : (xs.drop k).length = xs.length - k := List.length_drop
  refine ⟨_, c - k, by rw [hl], by rw [hl]; omega, by omega, (fun e => by split at e <;> cases e), ?_, fun b' o' hp e => ?_⟩
  · rw [hl]
    split
    · intro hp
      omega
    · exact hr.drop8
  · rw [hl] at hp
    refine hok b' o (by omega) ?_
    split at e
    · omega
    · cases e; rfl
theorem SlK.take8 {ok : Nat → Prop} {w : World} {A : Option Addr} {n c : Nat} {xs : List UInt8} (h : SlK ok w (.slice A n c) xs.length (b8 xs)) {k : Nat} (hk : k ≤ n) : SlK ok w (.slice A k c) (xs.take k).length (b8 (xs.take k)) := by
  obtain ⟨A', c', e, h1, h2, h0, hr, hok⟩ := h
  cases e
  have hl : (xs.take k).length = k := by rw [List.length_take, Nat.min_eq_left hk]
  exact ⟨A, c, by rw [hl], by rw [hl]; omega, h2, h0, by rw [hl]; exact hr.take8 hk, fun b o hp e => hok b o (by rw [hl] at hp; omega) e⟩
theorem idx8_any {ok : Nat → Prop} {w : World} {V : Value} {xs : List UInt8} (h : SlK ok w V xs.length (b8 xs)) (m : Nat) (_ : m < 256) :
    Calls Tryz.prog 91 #[V, .int .u8 (m : Nat)] w fun e w' => e = .returned (.int .i64 (Lib.indexByte xs (UInt8.ofNat m))) ∧ w = w' := by
  obtain ⟨A, c, rfl, h1, h2, h0, hr, -⟩ := h
  cases A with
  | none =>
    obtain rfl := h0 rfl
    have : xs = [] := List.eq_nil_of_length_eq_zero (by omega)
    subst this
    refine (Tryz.bytes_IndexByte_nil (m : Nat) w).mono ?_
    rintro e w' ⟨rfl, rfl⟩
    exact ⟨rfl, rfl⟩
  | some a =>
    refine (Tryz.bytes_IndexByte_at a xs.length c (n8 xs) (m : Nat) w (n8_length xs) (fun i hi => ?_)).mono ?_
    · obtain ⟨b, o, e, -, hc⟩ := hr (by omega)
      cases e
      rw [Lib.addr_add, hc i hi, b8_n8 xs i hi]
    · rintro e w' ⟨rfl, rfl⟩
      refine ⟨?_, rfl⟩
      rw [bytesOf_n8]
      congr 3
set_option maxRecDepth 100000 in
set_option maxHeartbeats 1000000 in
theorem until_no {w : World} {B r : Nat} {xs : List UInt8} (h : Rd w B r xs) (m : Nat) (hm : m < 256) (hc : cutM (UInt8.ofNat m) xs = none) :
    Calls Tryz.prog 54 #[.pointer (some ⟨r, 0, none⟩), .int .u8 (m : Nat)] w fun e w' => e = .returned (.tuple #[.string ⟨#[]⟩, .bool false]) ∧ w = w' := by
  obtain ⟨hB, b, o, c, h1, h2⟩ := h
  have HI := Lib.hid (idx8_any h2 m hm)
  rw [(cutM_none hc).1] at HI
  have x0 := h1.cell 0
  simp only [List.getElem?_cons_zero] at x0
  have hmI : (m : Int) < 256 := by omega
  clear h1 h2 hc
  go_enter Tryz.func54, Tryz.ntmps54
  go_wp2_with fail
  refine HI.out.mono ?_
  rintro e w1 ⟨rfl, rfl⟩
  go_wp2
  go_ret2
  exact ⟨rfl, rfl⟩
set_option maxRecDepth 100000 in
set_option maxHeartbeats 1000000 in
theorem until_yes {w : World} {B r : Nat} {xs a t : List UInt8} (h : Rd w B r xs) (m : Nat) (hm : m < 256) (hc : cutM (UInt8.ofNat m) xs = some (a, t)) :
    Calls Tryz.prog 54 #[.pointer (some ⟨r, 0, none⟩), .int .u8 (m : Nat)] w fun e w' => e = .returned (.tuple #[.string ⟨a.toArray⟩, .bool true]) ∧ Rd w' B r t ∧ Trn r w w' := by
  obtain ⟨hB, b, o, c, h1, h2⟩ := id h
  have HI := Lib.hid (idx8_any h2 m hm)
  obtain ⟨hx, hi⟩ := cutM_some hc
  rw [hi] at HI
  obtain ⟨A', c', e, hnc, hcm, -, hr, -⟩ := id h2
  cases e
  have hlen : xs.length = a.length + 1 + t.length := by rw [hx]; simp; omega
  obtain ⟨b', o', e, hb, hcell⟩ := id hr (by omega)
  cases e
  have ha : xs.take a.length = a := by rw [hx]; simp
  have hd : xs.drop (a.length + 1) = t := by rw [hx]; simp
  have hdrop := h2.drop8 (k := a.length + 1) (by omega)
  rw [hd] at hdrop
  obtain ⟨o2, hX⟩ := drop_addr b o c (a.length + 1)
  rw [hX, show xs.length - (a.length + 1) = t.length by omega] at hdrop
  have hsub : xs.length - (a.length + 1) = t.length := by omega
  have hcv := run_convert_bytes_arg (P := Tryz.prog) w 22 5 Tryz.underlying22 Tryz.underlying5 b o a.length c (n8 a) (n8_length a) (fun i hi => by rw [hcell i (by omega), b8_n8 xs i (by omega), ← ha, ← n8_take]; simp [List.getD, show i < a.length by omega]) 9 Tryz.underlying9
  rw [str_n8] at hcv
  have hnI : (a.length : Int) + 1 ≤ xs.length := by omega
  have hcI : (xs.length : Int) ≤ c := by omega
  have hcm2 : (c : Int) ≤ 9223372036854775807 := by unfold maxLen at hcm; omega
  have HD := Lib.hid hdrop
  have HR := Lib.hid h
  have x0 := h1.cell 0
  have f0 := h1.frozen 0
  simp only [List.getElem?_cons_zero] at x0
  have hmI : (m : Int) < 256 := by omega
  have HL := Lib.hid hlen
  clear h h1 h2 hc hx hi hlen ha hd hdrop hr hcell
  go_enter Tryz.func54, Tryz.ntmps54
  go_wp2_with fail
  refine HI.out.mono ?_
  rintro e w1 ⟨rfl, rfl⟩
  go_wp2
  go_ret2
  exact ⟨rfl, HR.out.put HD.out, HR.out.trn_set⟩
end Go.Proofs.YtomjnjpehokjbaaGreatDoor

namespace Go.Proofs.YtomjnjpehokjbaaGreatDoor

/-- n values, one behind the other -/
def repP (f : List UInt8 → Option (Tr × List UInt8)) : Nat → List UInt8 → Option (List Tr × List UInt8)
  | 0, t => some ([], t)
  | n + 1, t => match f t with
    | none => none
    | some (x, u) => (repP f n u).map fun p => (x :: p.1, p.2)
def hdP (t : List UInt8) : Option (Nat × List UInt8) :=
  match cutM 58 t with
  | none => none
  | some (s, u) => (cntP s).map fun n => (n, u)
/-- what the reader reads -/
def valP : Nat → List UInt8 → Option (Tr × List UInt8)
  | _, [] => none
  | 0, c :: r =>
    if c = 105 then (match cutM 59 r with | none => none | some (s, t) => if parseC s = 0 then some (intT (parseZ s), t) else none)
    else if c = 116 then (match hdP r with | none => none | some (n, t) => if n ≤ t.length then some (txtT (t.take n), t.drop n) else none)
    else none
  | d + 1, c :: r =>
    if c = 105 then (match cutM 59 r with | none => none | some (s, t) => if parseC s = 0 then some (intT (parseZ s), t) else none)
    else if c = 116 then (match hdP r with | none => none | some (n, t) => if n ≤ t.length then some (txtT (t.take n), t.drop n) else none)
    else if c = 108 then (match hdP r with | none => none | some (n, t) => (repP (valP d) n t).map fun p => (lstT p.1, p.2))
    else none
theorem valP_nil (d : Nat) : valP d [] = none := by cases d <;> rfl
theorem valP_int (d : Nat) (r : List UInt8) : valP d (105 :: r) = match cutM 59 r with | none => none | some (s, t) => if parseC s = 0 then some (intT (parseZ s), t) else none := by cases d <;> rfl
theorem valP_txt (d : Nat) (r : List UInt8) : valP d (116 :: r) = match hdP r with | none => none | some (n, t) => if n ≤ t.length then some (txtT (t.take n), t.drop n) else none := by cases d <;> rfl
theorem valP_lst (d : Nat) (r : List UInt8) : valP (d + 1) (108 :: r) = match hdP r with | none => none | some (n, t) => (repP (valP d) n t).map fun p => (lstT p.1, p.2) := rfl
theorem valP_lst0 (r : List UInt8) : valP 0 (108 :: r) = none := rfl
theorem valP_else (d : Nat) {c : UInt8} (r : List UInt8) (h1 : c ≠ 105) (h2 : c ≠ 116) (h3 : c ≠ 108) : valP d (c :: r) = none := by cases d <;> simp [valP, h1, h2, h3]
theorem hdP_iff {t : List UInt8} {n : Nat} {u : List UInt8} : hdP t = some (n, u) ↔ n ≤ 65536 ∧ t = Lib.decDigits n ++ 58 :: u := by
  unfold hdP
  constructor
  · intro h
    split at h
    · cases h
    · rename_i s u' hc
      obtain ⟨m, hm, he⟩ := Option.map_eq_some_iff.1 h
      cases he
      obtain ⟨h1, rfl⟩ := cntP_iff.1 hm
      exact ⟨h1, (cutM_some hc).1⟩
  · rintro ⟨h, rfl⟩
    rw [cutM_mk (fun hm => by have := dec_digit n 58 hm; simp at this)]
    simp only
    rw [cntP_iff.2 ⟨h, rfl⟩]
    rfl
theorem hdP_none {t : List UInt8} (h : cutM 58 t = none) : hdP t = none := by unfold hdP; rw [h]
theorem hdP_some {t s u : List UInt8} (h : cutM 58 t = some (s, u)) : hdP t = (cntP s).map fun n => (n, u) := by unfold hdP; rw [h]
theorem hdP_len {t : List UInt8} {n : Nat} {u : List UInt8} (h : hdP t = some (n, u)) : u.length < t.length := by
  obtain ⟨-, rfl⟩ := hdP_iff.1 h
  simp
  omega
theorem repP_step (f : List UInt8 → Option (Tr × List UInt8)) (n : Nat) {t u : List UInt8} {x : Tr} (h : f t = some (x, u)) : repP f (n + 1) t = (repP f n u).map fun p => (x :: p.1, p.2) := by rw [repP, h]
theorem repP_fail (f : List UInt8 → Option (Tr × List UInt8)) (n : Nat) {t : List UInt8} (h : f t = none) : repP f (n + 1) t = none := by rw [repP, h]
/-- no mark in a number's text -/
theorem textL_mark (z : Int) : (59 : UInt8) ∉ textL z := by
  have hd : ∀ n : Nat, (59 : UInt8) ∉ Lib.decDigits n := fun n hm => by have := dec_digit n 59 hm; simp at this
  unfold textL
  split
  · decide
  · simp only [List.mem_append, not_or]
    refine ⟨?_, hd _⟩
    split <;> decide
theorem repP_len {f : List UInt8 → Option (Tr × List UInt8)} (hf : ∀ t x u, f t = some (x, u) → u.length ≤ t.length) : ∀ (n : Nat) (t : List UInt8) (l : List Tr) (u : List UInt8), repP f n t = some (l, u) → u.length ≤ t.length ∧ l.length = n
  | 0, t, l, u, h => by
    simp only [repP, Option.some.injEq, Prod.mk.injEq] at h
    obtain ⟨rfl, rfl⟩ := h
    exact ⟨Nat.le_refl _, rfl⟩
  | n + 1, t, l, u, h => by
    unfold repP at h
    split at h
    · cases h
    · rename_i x v hx
      obtain ⟨⟨l2, u2⟩, h2, he⟩ := Option.map_eq_some_iff.1 h
      cases he
      obtain ⟨h3, h4⟩ := repP_len hf n v _ _ h2
      exact ⟨Nat.le_trans h3 (hf t x v hx), by simp [h4]⟩
/-- what is read ends with what was there -/
theorem valP_cases {d : Nat} {t : List UInt8} {v : Tr} {u : List UInt8} (h : valP d t = some (v, u)) :
    (∃ s, t = 105 :: (s ++ 59 :: u) ∧ parseC s = 0 ∧ v = intT (parseZ s)) ∨ (∃ x, x.length ≤ 65536 ∧ t = 116 :: (Lib.decDigits x.length ++ 58 :: (x ++ u)) ∧ v = txtT x) ∨
    (∃ e n t' l, d = e + 1 ∧ n ≤ 65536 ∧ t = 108 :: (Lib.decDigits n ++ 58 :: t') ∧ repP (valP e) n t' = some (l, u) ∧ v = lstT l) := by
  cases t with
  | nil => rw [valP_nil] at h; cases h
  | cons c r =>
    by_cases h1 : c = 105
    · subst h1
      rw [valP_int] at h
      split at h
      · cases h
      · rename_i s t' hc
        split at h
        · rename_i hp
          cases h
          exact .inl ⟨s, by rw [(cutM_some hc).1], hp, rfl⟩
        · cases h
    · by_cases h2 : c = 116
      · subst h2
        rw [valP_txt] at h
        split at h
        · cases h
        · rename_i n t' hc
          split at h
          · rename_i hn
            cases h
            obtain ⟨h3, h4⟩ := hdP_iff.1 hc
            refine .inr (.inl ⟨t'.take n, ?_, ?_, rfl⟩)
            · rw [List.length_take]; omega
            · rw [List.length_take, Nat.min_eq_left hn, List.take_append_drop, h4]
          · cases h
      · by_cases h3 : c = 108
        · subst h3
          cases d with
          | zero => rw [valP_lst0] at h; cases h
          | succ e =>
            rw [valP_lst] at h
            split at h
            · cases h
            · rename_i n t' hc
              obtain ⟨⟨l, u'⟩, hr, he⟩ := Option.map_eq_some_iff.1 h
              cases he
              obtain ⟨h4, h5⟩ := hdP_iff.1 hc
              exact .inr (.inr ⟨e, n, t', l, rfl, h4, by rw [h5], hr, rfl⟩)
        · rw [valP_else d r h1 h2 h3] at h
          cases h
theorem valP_len : ∀ {d : Nat} {t : List UInt8} {v : Tr} {u : List UInt8}, valP d t = some (v, u) → u.length ≤ t.length
  | d, t, v, u, h => by
    rcases valP_cases h with ⟨s, rfl, -, -⟩ | ⟨x, -, rfl, -⟩ | ⟨e, n, t', l, rfl, -, rfl, hr, -⟩
    · simp; omega
    · simp; omega
    · have := (repP_len (fun t x u h => valP_len (d := e) h) n t' l u hr).1
      simp
      omega
termination_by d => d
end Go.Proofs.YtomjnjpehokjbaaGreatDoor

namespace Go.Proofs.YtomjnjpehokjbaaGreatDoor

/-- what Decode reads -/
def decT (xs : List UInt8) : Option Tr := match valP 8 xs with | some (v, []) => if chkC v = 0 then some v else none | _ => none
theorem decT_none {xs : List UInt8} (h : valP 8 xs = none) : decT xs = none := by unfold decT; rw [h]
theorem decT_rest {xs : List UInt8} {v : Tr} {c : UInt8} {r : List UInt8} (h : valP 8 xs = some (v, c :: r)) : decT xs = none := by unfold decT; rw [h]
theorem decT_chk {xs : List UInt8} {v : Tr} (h : valP 8 xs = some (v, [])) (hc : chkC v ≠ 0) : decT xs = none := by unfold decT; rw [h]; simp [hc]
theorem decT_ok {xs : List UInt8} {v : Tr} (h : valP 8 xs = some (v, [])) (hc : chkC v = 0) : decT xs = some v := by unfold decT; rw [h]; simp [hc]
theorem valP_int_no {d : Nat} {t : List UInt8} (h : cutM 59 t = none) : valP d (105 :: t) = none := by rw [valP_int, h]
theorem valP_int_ok {d : Nat} {t s u : List UInt8} (h : cutM 59 t = some (s, u)) (hc : parseC s = 0) : valP d (105 :: t) = some (intT (parseZ s), u) := by rw [valP_int, h]; simp [hc]
theorem valP_int_bad {d : Nat} {t s u : List UInt8} (h : cutM 59 t = some (s, u)) (hc : parseC s ≠ 0) : valP d (105 :: t) = none := by rw [valP_int, h]; simp [hc]
theorem valP_txt_no {d : Nat} {t : List UInt8} (h : hdP t = none) : valP d (116 :: t) = none := by rw [valP_txt, h]
theorem valP_txt_ok {d : Nat} {t u : List UInt8} {n : Nat} (h : hdP t = some (n, u)) (hn : n ≤ u.length) : valP d (116 :: t) = some (txtT (u.take n), u.drop n) := by rw [valP_txt, h]; simp [hn]
theorem valP_txt_bad {d : Nat} {t u : List UInt8} {n : Nat} (h : hdP t = some (n, u)) (hn : ¬ n ≤ u.length) : valP d (116 :: t) = none := by rw [valP_txt, h]; simp [hn]
theorem valP_lst_no {d : Nat} {t : List UInt8} (h : hdP t = none) : valP d (108 :: t) = none := by
  cases d with
  | zero => rfl
  | succ d => rw [valP_lst, h]
theorem valP_lst_ok {d : Nat} {t u : List UInt8} {n : Nat} (h : hdP t = some (n, u)) : valP (d + 1) (108 :: t) = (repP (valP d) n u).map fun p => (lstT p.1, p.2) := by rw [valP_lst, h]
end Go.Proofs.YtomjnjpehokjbaaGreatDoor

namespace Go.Proofs.YtomjnjpehokjbaaGreatDoor

theorem parse_textS (z : Int) (hs : shortZ z = true) : parseC (textL z) = 0 ∧ parseZ (textL z) = z := by
  have hl := (shortZ_iff z).1 hs
  by_cases h0 : z = 0
  · subst h0; exact ⟨by decide, by decide⟩
  · have ht : textL z = (if z < 0 then [45] else []) ++ txt z.natAbs := by unfold textL; rw [if_neg h0, txt_pos _ (by omega)]
    obtain ⟨h1, h2, h3⟩ := txt_digits z.natAbs
    have hne : txt z.natAbs ≠ [] := fun e => by rw [e] at h2; simp [valD] at h2; omega
    obtain ⟨c, r, hcr⟩ := List.exists_cons_of_ne_nil hne
    have hc48 := h3 c r hcr
    have hdc : isDg c = true := by rw [hcr, List.all_cons, Bool.and_eq_true] at h1; exact h1.1
    have hc45 : c ≠ 45 := fun e => by subst e; exact absurd hdc (by decide)
    have hb : bodyOf (textL z) = txt z.natAbs := by
      rw [ht]; unfold bodyOf
      by_cases hz : z < 0
      · rw [if_pos hz]; simp
      · rw [if_neg hz, hcr]; simp [hc45]
    have hn : negOf (textL z) = decide (z < 0) := by
      rw [ht]; unfold negOf
      by_cases hz : z < 0
      · simp [hz]
      · simp [hz, hcr, hc45]
    have hbl : (txt z.natAbs).length ≤ 2000 ∧ (textL z).length ≤ 2001 := by
      rw [ht, List.length_append] at hl
      rw [ht, List.length_append]
      split at hl
      · rename_i hz; rw [if_pos hz]; simp at hl ⊢; omega
      · rename_i hz; rw [if_neg hz]; simp at hl ⊢; omega
    have hpc : parseC (textL z) = 0 := by
      unfold parseC
      rw [if_neg (by omega), if_neg, if_neg (by rw [hb, h1]; decide), if_neg (by rw [hb]; omega)]
      unfold badHead
      rw [hb, hcr]
      simp [hc48]
    refine ⟨hpc, ?_⟩
    unfold parseZ
    rw [if_pos hpc, hn, hb, h2]
    by_cases hz : z < 0
    · simp [hz]; omega
    · simp [hz]; omega
theorem enD_pos : ∀ (d : Nat) (v : Tr), 0 < (enD d v).length
  | 0, .mk k n g t l => by
    unfold enD
    split
    · simp
    · split <;> simp
  | d + 1, .mk k n g t l => by
    unfold enD
    split
    · simp
    · split <;> simp
theorem flat_len (d : Nat) : ∀ (l : List Tr), l.length ≤ ((l.map (enD d)).flatten).length
  | [] => by simp
  | x :: r => by
    have h1 := enD_pos d x
    have h2 := flat_len d r
    simp only [List.map_cons, List.flatten_cons, List.length_append, List.length_cons]
    omega
/-- what is encoded is read again -/
theorem valP_enc : ∀ (d : Nat) (v : Tr) (r : List UInt8), vldD d v = true → shD d v = true → (enD d v).length ≤ 65536 → valP d (enD d v ++ r) = some (v, r) := by
  intro d
  induction d with
  | zero =>
    intro v r hv hs hl
    rcases vld_cases hv with ⟨z, rfl⟩ | ⟨x, rfl⟩ | ⟨e, l, h, -⟩
    · rw [enD_int, List.cons_append, List.append_assoc]
      rw [shD_int] at hs
      obtain ⟨h1, h2⟩ := parse_textS z hs
      have hc : cutM 59 (textL z ++ ([59] ++ r)) = some (textL z, r) := cutM_mk (textL_mark z)
      rw [valP_int_ok hc h1, h2]
    · rw [enD_txt] at hl ⊢
      simp only [List.length_cons, List.length_append] at hl
      rw [List.cons_append, List.append_assoc, List.cons_append]
      have hh : hdP (Lib.decDigits x.length ++ 58 :: (x ++ r)) = some (x.length, x ++ r) := hdP_iff.2 ⟨by omega, rfl⟩
      rw [valP_txt_ok hh (by simp)]
      simp
    · cases h
  | succ d ih =>
    intro v r hv hs hl
    rcases vld_cases hv with ⟨z, rfl⟩ | ⟨x, rfl⟩ | ⟨e, l, h, rfl, hvl⟩
    · rw [enD_int, List.cons_append, List.append_assoc]
      rw [shD_int] at hs
      obtain ⟨h1, h2⟩ := parse_textS z hs
      have hc : cutM 59 (textL z ++ ([59] ++ r)) = some (textL z, r) := cutM_mk (textL_mark z)
      rw [valP_int_ok hc h1, h2]
    · rw [enD_txt] at hl ⊢
      simp only [List.length_cons, List.length_append] at hl
      rw [List.cons_append, List.append_assoc, List.cons_append]
      have hh : hdP (Lib.decDigits x.length ++ 58 :: (x ++ r)) = some (x.length, x ++ r) := hdP_iff.2 ⟨by omega, rfl⟩
      rw [valP_txt_ok hh (by simp)]
      simp
    · obtain rfl : e = d := by omega
      rw [enD_lst] at hl ⊢
      rw [shD_lst, List.all_eq_true] at hs
      simp only [List.length_cons, List.length_append] at hl
      rw [List.cons_append, List.append_assoc, List.cons_append]
      have hn := flat_len e l
      have hh : hdP (Lib.decDigits l.length ++ 58 :: ((l.map (enD e)).flatten ++ r)) = some (l.length, (l.map (enD e)).flatten ++ r) := hdP_iff.2 ⟨by omega, rfl⟩
      rw [valP_lst_ok hh]
      have hrep : ∀ (l : List Tr), (∀ x ∈ l, vldD e x = true) → (∀ x ∈ l, shD e x = true) → ((l.map (enD e)).flatten).length ≤ 65536 → repP (valP e) l.length ((l.map (enD e)).flatten ++ r) = some (l, r) := by
        intro l
        induction l with
        | nil => intro _ _ _; rfl
        | cons x m ihm =>
          intro h1 h2 h3
          simp only [List.map_cons, List.flatten_cons, List.length_append] at h3
          have h4 := ih x ((m.map (enD e)).flatten ++ r) (h1 x List.mem_cons_self) (h2 x List.mem_cons_self) (by omega)
          rw [List.length_cons, List.map_cons, List.flatten_cons, List.append_assoc, repP_step _ _ h4, ihm (fun y hy => h1 y (List.mem_cons_of_mem _ hy)) (fun y hy => h2 y (List.mem_cons_of_mem _ hy)) (by omega)]
          rfl
      rw [hrep l hvl hs (by omega)]
      rfl
/-- what is read is what is encoded -/
theorem valP_sound : ∀ (d : Nat) (b : List UInt8) (v : Tr) (r : List UInt8), valP d b = some (v, r) → b = enD d v ++ r ∧ vldD d v = true := by
  intro d
  induction d with
  | zero =>
    intro b v r h
    rcases valP_cases h with ⟨s, rfl, hp, rfl⟩ | ⟨x, hx, rfl, rfl⟩ | ⟨e, n, t', l, he, -⟩
    · refine ⟨?_, ?_⟩
      · rw [enD_int, textL_parse s hp]; simp
      · have := validB_rep (parseZ s)
        simp [vldD, intT, this]
    · refine ⟨by rw [enD_txt]; simp, by simp [vldD, txtT, noInt]⟩
    · cases he
  | succ d ih =>
    intro b v r h
    rcases valP_cases h with ⟨s, rfl, hp, rfl⟩ | ⟨x, hx, rfl, rfl⟩ | ⟨e, n, t', l, he, hn, rfl, hr, rfl⟩
    · refine ⟨?_, ?_⟩
      · rw [enD_int, textL_parse s hp]; simp
      · have := validB_rep (parseZ s)
        simp [vldD, intT, this]
    · refine ⟨by rw [enD_txt]; simp, by simp [vldD, txtT, noInt]⟩
    · obtain rfl : e = d := by omega
      have hrep : ∀ (n : Nat) (t : List UInt8) (l : List Tr) (u : List UInt8), repP (valP e) n t = some (l, u) → t = (l.map (enD e)).flatten ++ u ∧ l.length = n ∧ ∀ x ∈ l, vldD e x = true := by
        intro n
        induction n with
        | zero =>
          intro t l u h
          simp only [repP, Option.some.injEq, Prod.mk.injEq] at h
          obtain ⟨rfl, rfl⟩ := h
          exact ⟨rfl, rfl, fun x hx => by cases hx⟩
        | succ n ihn =>
          intro t l u h
          unfold repP at h
          split at h
          · cases h
          · rename_i x w hx
            obtain ⟨⟨l2, u2⟩, h2, he⟩ := Option.map_eq_some_iff.1 h
            cases he
            obtain ⟨h3, h4, h5⟩ := ihn _ _ _ h2
            obtain ⟨h6, h7⟩ := ih _ _ _ hx
            refine ⟨by rw [h6, h3]; simp, by simp [h4], fun y hy => ?_⟩
            rcases List.mem_cons.1 hy with rfl | hy
            · exact h7
            · exact h5 y hy
      obtain ⟨h1, h2, h3⟩ := hrep n t' l r hr
      refine ⟨by rw [enD_lst, h1, h2]; simp, ?_⟩
      simp [vldD, lstT, noInt]
      exact h3
theorem chkC_iff {v : Tr} : chkC v = 0 ↔ vldD 8 v = true ∧ shD 8 v = true ∧ (enD 8 v).length ≤ 65536 := by
  unfold chkC
  cases h1 : vldD 8 v
  · simp
  · cases h2 : shD 8 v
    · simp
    · by_cases h3 : (enD 8 v).length ≤ 65536 <;> simp [h3]
theorem decT_iff {b : List UInt8} {v : Tr} : decT b = some v ↔ chkC v = 0 ∧ enD 8 v = b := by
  constructor
  · intro h
    unfold decT at h
    split at h
    · rename_i u hu
      split at h
      · rename_i hc
        cases h
        have := (valP_sound 8 _ _ _ hu).1
        exact ⟨hc, by rw [this, List.append_nil]⟩
      · cases h
    · cases h
  · rintro ⟨h, rfl⟩
    obtain ⟨h1, h2, h3⟩ := chkC_iff.1 h
    have := valP_enc 8 v [] h1 h2 h3
    rw [List.append_nil] at this
    exact decT_ok this h
end Go.Proofs.YtomjnjpehokjbaaGreatDoor
