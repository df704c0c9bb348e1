/- Frames in memory by their data; Put by its code. -/
import Derived.Test.YtbkcnhbdjllojaaPutN
namespace Go.Proofs.Ytbkcnhbdjllojaa
open Go.RowKit Go.Shelf

structure FD where
  es : List Ent
  W : Int
  H : Int
  m : Int
  px : List Int
def zf : FD := ⟨[], 0, 0, 0, []⟩
/-- V is the frame with the data F -/
def FrIs (w : World) (A : Option Addr) (n _c : Nat) (W H m : Int) (B : Option Addr) (k _d : Nat) (F : FD) : Prop :=
  n = F.es.length ∧ W = F.W ∧ H = F.H ∧ m = F.m ∧ k = F.px.length ∧ EntR w A F.es ∧ IRow w B F.px
theorem FrIs.below {w w' : World} {A B : Option Addr} {n c k d : Nat} {W H m : Int} {F : FD} (h : FrIs w A n c W H m B k d F) (hk : Keeps w w') : FrIs w' A n c W H m B k d F := by
  obtain ⟨h1, h2, h3, h4, h5, h6, h7⟩ := h
  exact ⟨h1, h2, h3, h4, h5, h6.below hk, h7.below hk⟩
theorem frIs_zero (w : World) : FrIs w none 0 0 0 0 0 none 0 0 zf := ⟨rfl, rfl, rfl, rfl, rfl, fun j k v hj => by simp [zf] at hj, Row.zero⟩
theorem frIs_mk {w : World} {A B : Option Addr} {n c k d : Nat} {W H m : Int} {es : List Ent} {px : List Int} (hn : n = es.length) (hk : k = px.length) (hE : EntR w A es) (hI : IRow w B px) : FrIs w A n c W H m B k d ⟨es, W, H, m, px⟩ := ⟨hn, rfl, rfl, rfl, hk, hE, hI⟩
theorem sameF_yes {w : World} {A B A' B' : Option Addr} {n c k d n' c' k' d' : Nat} {W H m W' H' m' : Int} {F : FD} (h : FrIs w A n c W H m B k d F) (h' : FrIs w A' n' c' W' H' m' B' k' d' F) (hl : F.px.length ≤ 100000) (hel : F.es.length ≤ 100000) :
    Calls Try.prog 21 #[frmV A n c W H m B k d, frmV A' n' c' W' H' m' B' k' d'] w fun e w' => e = .returned (.bool true) ∧ Keeps w w' := by
  obtain ⟨rfl, rfl, rfl, rfl, rfl, h6, h7⟩ := h
  obtain ⟨rfl, rfl, rfl, rfl, rfl, g6, g7⟩ := h'
  exact same_yes h6 g6 h7 g7 rfl rfl rfl rfl hl hel _ _ _
/-- the code of Put for a frame that is right -/
def putC (key value : ByteArray) (full : Bool) : Int := if keyB key = false then 10 else if valC value ≠ 0 then valC value else if full then 3 else 0
def putF (key value : ByteArray) (full : Bool) (F : FD) : FD := if putC key value full = 0 then F else zf
theorem putC_key {key value : ByteArray} {f : Bool} (h : keyB key = false) : putC key value f = 10 := if_pos h
theorem putC_val {key value : ByteArray} {f : Bool} (h : keyB key = true) (h2 : valC value ≠ 0) : putC key value f = valC value := by rw [putC, if_neg (by simp [h]), if_pos h2]
theorem putC_full {key value : ByteArray} (h : keyB key = true) (h2 : valC value = 0) : putC key value true = 3 := by rw [putC, if_neg (by simp [h]), if_neg (by simp [h2])]; rfl
theorem putC_ok {key value : ByteArray} (h : keyB key = true) (h2 : valC value = 0) : putC key value false = 0 := by rw [putC, if_neg (by simp [h]), if_neg (by simp [h2])]; rfl
def PutOut (w : World) (pc : Int) (F : FD) (e : Ending) (w' : World) : Prop :=
  ∃ A n c W H m B k d, e = .returned (.tuple #[frmV A n c W H m B k d, .int .i64 pc]) ∧ FrIs w' A n c W H m B k d F ∧ Keeps w w'
section
variable {w : World} {A B : Option Addr} {c d : Nat} {es : List Ent} {px : List Int}
theorem put_f (hE : EntR w A es) (hI : IRow w B px) (hs : EntS es) (W H m : Int) (hl : px.length ≤ maxLen) (hel : es.length ≤ maxLen) (key value : ByteArray) (hk : key.size ≤ 1000000) (hv : value.size ≤ 1000000) (hc : frmC es W H m px = 0)
    (h32 : es.length ≤ 1000) (hp1 : 1 ≤ px.length) (hp2 : px.length ≤ 4096) {l r : List Ent} {v : ByteArray} (he : es = l ++ (key, v) :: r) (hal : AllL l key) (har : AllG r key) :
    Calls Try.prog 38 #[frmV A es.length c W H m B px.length d, .string key, .string value] w (PutOut w (putC key value false) (putF key value false ⟨l ++ (key, value) :: r, W, H, m, px⟩)) := by
  cases hkb : keyB key with
  | false =>
    refine (put_key (c := c) (d := d) hE hI hs W H m hl hel key value hk hc hkb).mono ?_
    rintro e w' ⟨rfl, hk'⟩
    rw [putF, putC_key hkb, if_neg (by decide)]
    exact ⟨_, _, _, _, _, _, _, _, _, rfl, frIs_zero _, hk'⟩
  | true =>
    by_cases hvc : valC value = 0
    · refine (put_found (c := c) (d := d) hE hI hs W H m hl hel key value hk hv hc hkb hvc h32 hp1 hp2 he hal har).mono ?_
      rintro e w' ⟨A', c', P, cp, rfl, h1, h2, h3⟩
      rw [putF, putC_ok hkb hvc, if_pos rfl]
      exact ⟨_, _, _, _, _, _, _, _, _, rfl, frIs_mk (by rw [he]; simp) rfl h1 h2, h3⟩
    · refine (put_val (c := c) (d := d) hE hI hs W H m hl hel key value hk hv hc hkb hvc).mono ?_
      rintro e w' ⟨rfl, hk'⟩
      rw [putF, putC_val hkb hvc, if_neg hvc]
      exact ⟨_, _, _, _, _, _, _, _, _, rfl, frIs_zero _, hk'⟩
theorem put_m (hE : EntR w A es) (hI : IRow w B px) (hs : EntS es) (W H m : Int) (hl : px.length ≤ maxLen) (hel : es.length ≤ maxLen) (key value : ByteArray) (hk : key.size ≤ 1000000) (hv : value.size ≤ 1000000) (hc : frmC es W H m px = 0)
    (h32 : es.length ≤ 1000) (hp1 : 1 ≤ px.length) (hp2 : px.length ≤ 4096) {l r : List Ent} (he : es = l ++ r) (hal : AllL l key) (har : AllG r key) :
    Calls Try.prog 38 #[frmV A es.length c W H m B px.length d, .string key, .string value] w (PutOut w (putC key value (decide (es.length = 32))) (putF key value (decide (es.length = 32)) ⟨l ++ (key, value) :: r, W, H, m, px⟩)) := by
  cases hkb : keyB key with
  | false =>
    refine (put_key (c := c) (d := d) hE hI hs W H m hl hel key value hk hc hkb).mono ?_
    rintro e w' ⟨rfl, hk'⟩
    rw [putF, putC_key hkb, if_neg (by decide)]
    exact ⟨_, _, _, _, _, _, _, _, _, rfl, frIs_zero _, hk'⟩
  | true =>
    by_cases hvc : valC value = 0
    · by_cases hf : es.length = 32
      · refine (put_full (c := c) (d := d) hE hI hs W H m hl hel key value hk hv hc hkb hvc h32 hf he hal har).mono ?_
        rintro e w' ⟨rfl, hk'⟩
        rw [putF, decide_eq_true hf, putC_full hkb hvc, if_neg (by decide)]
        exact ⟨_, _, _, _, _, _, _, _, _, rfl, frIs_zero _, hk'⟩
      · refine (put_new (c := c) (d := d) hE hI hs W H m hl hel key value hk hv hc hkb hvc h32 hf hp1 hp2 he hal har).mono ?_
        rintro e w' ⟨A', c', P, cp, rfl, h1, h2, h3⟩
        rw [putF, decide_eq_false hf, putC_ok hkb hvc, if_pos rfl]
        exact ⟨_, _, _, _, _, _, _, _, _, rfl, frIs_mk (by simp; omega) rfl h1 h2, h3⟩
    · refine (put_val (c := c) (d := d) hE hI hs W H m hl hel key value hk hv hc hkb hvc).mono ?_
      rintro e w' ⟨rfl, hk'⟩
      rw [putF, putC_val hkb hvc, if_neg hvc]
      exact ⟨_, _, _, _, _, _, _, _, _, rfl, frIs_zero _, hk'⟩
end
theorem entL1 : ∀ args w, (callFunc 41 args).run Try.prog w = .ok (.enter 41 args) w := fun args w => by
  have h1 : ¬ (Try.f41.name = "runtime.NumGoroutine") := by decide +kernel
  have h2 : ¬ (Try.f41.body = none) := fun h => by
    have h3 : Try.f41.body.isSome = true := by kernel_rfl
    rw [h] at h3
    cases h3
  simp [callFunc, go_sem, Try.func41, h1, h2]
theorem entL2 : ∀ args w, (callFunc 44 args).run Try.prog w = .ok (.enter 44 args) w := fun args w => by
  have h1 : ¬ (Try.f44.name = "runtime.NumGoroutine") := by decide +kernel
  have h2 : ¬ (Try.f44.body = none) := fun h => by
    have h3 : Try.f44.body.isSome = true := by kernel_rfl
    rw [h] at h3
    cases h3
  simp [callFunc, go_sem, Try.func44, h1, h2]
theorem deleteF_n {w : World} {base g cap : Nat} {es l r : List Ent} {key x : ByteArray} {n : Nat} (h : OE w base g cap es) (he : es = l ++ (key, x) :: r) (hN : n = l.length + r.length + 1) (hn : l.length + r.length + 1 ≤ 1000) (f : Nat) (lb : Array Value) (hf : ∀ args w, (callFunc f args).run Try.prog w = .ok (.enter f args) w)
    (hb : base ≤ w.heap.size) (hp : SaysE Try.prog f lb (isK key) base w) (hl : ∀ e ∈ l, e.1 ≠ key) (hr : ∀ e ∈ r, e.1 ≠ key) :
    Calls Try.prog 42 #[.slice (some ⟨g, 0, none⟩) n cap, .func (.func f) #[] lb] w fun e' w' => e' = .returned (.slice (some ⟨g, 0, none⟩) (l.length + r.length) cap) ∧ OE w' base g cap (l ++ r) ∧ Below base w w' := by
  subst he hN
  exact deleteF_yes h hn f lb hf hb hp hl hr
theorem cloneE_n {w : World} {A : Option Addr} {c n : Nat} {es : List Ent} (hE : EntR w A es) (hl : es.length ≤ 1000) (hn : n = es.length) :
    Calls Try.prog 43 #[.slice A n c] w fun e w' => ∃ V, e = .returned V ∧ w'.ownsRow w.heap.size 57 2 V es.length (entVs es) ∧ Keeps w w' := by
  subst hn
  exact cloneE_any hE hl
theorem putF_len (key value : ByteArray) (f : Bool) (F : FD) (h1 : F.es.length ≤ 100000) (h2 : F.px.length ≤ 100000) : (putF key value f F).es.length ≤ 100000 ∧ (putF key value f F).px.length ≤ 100000 := by
  unfold putF
  split
  · exact ⟨h1, h2⟩
  · exact ⟨by decide, by decide⟩
end Go.Proofs.Ytbkcnhbdjllojaa
