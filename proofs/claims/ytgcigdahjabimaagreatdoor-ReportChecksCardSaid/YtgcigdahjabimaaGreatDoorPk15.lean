/- The walk of short. -/
import Derived.Test.YtgcigdahjabimaaGreatDoorPk14
import Derived.Test.YtgcigdahjabimaaGreatDoorPk4
namespace Go.Proofs.YtgcigdahjabimaaGreatDoor
open Go.RowKit Go.Shelf
attribute [local go_sem] Oper.semAt_some

def shortV (bo n q N d : Nat) : Nat → Value
 | 0 => .slice (some ⟨bo, 0, none⟩) n n
 | 1 => .int .i64 (q : Nat)
 | 2 => .int .u64 (N : Nat)
 | 3 => .int .u32 (d : Nat)
 | 4 => .int .u64 (d : Nat)
 | 5 => .int .u64 ((N : Int) / (d : Int))
 | 6 => .int .u32 ((N : Int) / (d : Int))
 | 7 => .int .u64 (N : Nat)
 | 8 => .int .u32 (d : Nat)
 | 9 => .int .u64 (d : Nat)
 | 10 => .int .u64 ((N : Int) % (d : Int))
 | 11 => .pointer (some ⟨bo, q, none⟩)
 | _ => undef
def shortE (bo n l rr : Nat) : Nat → Value
 | 0 => .slice (some ⟨bo, 0, none⟩) n n
 | 1 => .slice (some ⟨bo, 0, none⟩) l n
 | 2 => .int .u64 (rr : Nat)
 | 3 => .int .u32 (rr : Nat)
 | 5 => .int .u32 (rr : Nat)
 | _ => undef
set_option maxRecDepth 100000 in
set_option maxHeartbeats 2000000 in
theorem mshort_any (v : Value) (m d : Nat) (w : World) (h : U32 w v (dig m)) (hl : (dig m).length ≤ 1000000) (hd : 0 < d) (hdb : d < 1000000000) :
 Calls Tryz.prog 169 #[v, .int .u32 (d : Nat)] w fun e w' => ∃ v', e = .returned (.tuple #[v', .int .u32 ((m % d : Nat) : Int)]) ∧ U32 w' v' (dig (m / d)) ∧ Keeps w w' := by
 obtain ⟨A, n, c, rfl, e1, hc, -, h0, hr⟩ := h.open_
 have hn : n ≤ 1000000 := by omega
 have hmk := make_u32 n n rfl (by omega)
 have hdI : (0 : Int) < (d : Int) := by omega
 have hdB : (d : Int) < 1000000000 := by omega
 have HE := Lib.hid e1
 clear e1 h
 refine (callsIn_wide (n := 4)).1 ?_
 refine callsIn_of_wp_marks Tryz.func169 rfl trivial ?_ rfl
 simp only [Tryz.ntmps169, List.size_toArray, List.length_cons, List.length_nil, Nat.reduceAdd, Nat.reduceSub, Array.replicate_succ, Array.replicate_zero, List.push_toArray, List.append_toArray, List.nil_append, List.cons_append]
 refine wpIn_wide.2 ?_
 go_wp2_with fail
 refine (back_any A n c _).mono ?_
 rintro e w' ⟨rfl, rfl⟩
 go_wp2_with fail
 have o0 := ((((Own.new w 109 [.int .u32 (d : Nat)]).alloc (.cells #[.slice (some ⟨w.heap.size + 1 + 1, 0, none⟩) n n] 27)).alloc (.cells (u32s (List.replicate n 0)).toArray 109)).alloc (.cells #[.int .u64 0] 111)).alloc (.cells #[.slice A n c] 27)
 have o1 := (((own2 w (.cells #[.int .u32 (d : Nat)] 109) 27 [.slice (some ⟨w.heap.size + 1 + 1, 0, none⟩) n n]).alloc (.cells (u32s (List.replicate n 0)).toArray 109)).alloc (.cells #[.int .u64 0] 111)).alloc (.cells #[.slice A n c] 27)
 have o2 := ((own3 w (.cells #[.int .u32 (d : Nat)] 109) (.cells #[.slice (some ⟨w.heap.size + 1 + 1, 0, none⟩) n n] 27) 109 (u32s (List.replicate n 0))).alloc (.cells #[.int .u64 0] 111)).alloc (.cells #[.slice A n c] 27)
 have o3 := (Own.new (((w.alloc (.cells #[.int .u32 (d : Nat)] 109)).alloc (.cells #[.slice (some ⟨w.heap.size + 1 + 1, 0, none⟩) n n] 27)).alloc (.cells (u32s (List.replicate n 0)).toArray 109)) 111 [.int .u64 0]).alloc (.cells #[.slice A n c] 27)
 have o4 := Own.new ((((w.alloc (.cells #[.int .u32 (d : Nat)] 109)).alloc (.cells #[.slice (some ⟨w.heap.size + 1 + 1, 0, none⟩) n n] 27)).alloc (.cells (u32s (List.replicate n 0)).toArray 109)).alloc (.cells #[.int .u64 0] 111)) 27 [.slice A n c]
 simp only [World.size_alloc] at o3 o4
 have hK : Keeps w (((((w.alloc (.cells #[.int .u32 (d : Nat)] 109)).alloc (.cells #[.slice (some ⟨w.heap.size + 1 + 1, 0, none⟩) n n] 27)).alloc (.cells (u32s (List.replicate n 0)).toArray 109)).alloc (.cells #[.int .u64 0] 111)).alloc (.cells #[.slice A n c] 27)) := ((keep3 w (.cells #[.int .u32 (d : Nat)] 109) (.cells #[.slice (some ⟨w.heap.size + 1 + 1, 0, none⟩) n n] 27) (.cells (u32s (List.replicate n 0)).toArray 109)).alloc (by simp; omega) _).alloc (by simp; omega) _
 have hlt : ∀ b o, A = some ⟨b, o, none⟩ → 0 < n → b < w.heap.size := fun b o e hp => hr.lt e hp
 refine (wpIn_wide (n := 4)).1 ?_
 apply wpIn_range_idx (N := n) rfl (by omega) (gf := 194) (lb := #[.pointer (some ⟨w.heap.size + 1 + 1 + 1 + 1, 0, none⟩)]) rfl trivial (enters_of Tryz.func194 (by kernel_rfl) rfl)
  (back_seq Fence.wide _ trivial rfl (by omega) (w.heap.size + 1 + 1 + 1 + 1) w.heap.size n c A (dig m) (by omega) _ o4 (hr.below hK) hlt) BackKp.t (BackKp.b (by simp; omega) (by simp)) bl (fun _ => rfl)
  (fun k W => ∃ (rr : Nat) (out : List Nat), rr = val ((dig m).drop (n - k)) % d ∧ out.length = n ∧ AllB out ∧ val (out.drop (n - k)) = val ((dig m).drop (n - k)) / d ∧ Own W w.heap.size 109 [.int .u32 (d : Nat)] ∧ Own W (w.heap.size + 1) 27 [.slice (some ⟨w.heap.size + 1 + 1, 0, none⟩) n n] ∧
   Own W (w.heap.size + 1 + 1) 109 (u32s out) ∧ Own W (w.heap.size + 1 + 1 + 1) 111 [.int .u64 (rr : Nat)] ∧ Own W (w.heap.size + 1 + 1 + 1 + 1) 27 [.slice A n c] ∧ Keeps w W) (fun _ _ _ => False)
  (fun k A B row hs hg hr => by
   obtain ⟨rr, out, i1, i2, i3, i4, i5, i6, i7, i8, i9, i10⟩ := hs
   exact ⟨rr, out, i1, i2, i3, i4, i5.nc hg (fun r e => (hr r e).2), i6.nc hg (fun r e => (hr r e).2), i7.nc hg (fun r e => (hr r e).2), i8.nc hg (fun r e => (hr r e).2), i9.nc hg (fun r e => (hr r e).2), ownFrom_below (β := Nat) (Nat.le_refl _) (by simp; omega) k A B row i10 hg hr⟩)
  (fun _ _ _ _ _ hs _ _ => hs)
  ⟨0, List.replicate n 0, by rw [List.drop_of_length_le (by rw [HE.out]; omega)]; simp [val], by simp, AllB.replicate n, by rw [List.drop_of_length_le (by simp), List.drop_of_length_le (by rw [HE.out]; omega)]; simp [val], o0, o1, o2, o3, o4, hK⟩
 case hassign =>
  intro l x W K hK
  unfold backEnc
  gi_wp2
  exact hK
 case hbody =>
  rintro l k W ⟨rr, out, hrr, hol, hob, hval, i5, i6, i7, i8, i9, i10⟩ hk
  obtain ⟨q, hq⟩ : ∃ q, n - 1 - k = q := ⟨_, rfl⟩
  rw [show n - k = q + 1 by omega] at hrr hval
  have hqn : q < n := by omega
  have h00 : (0 : Int) ≤ (q : Int) := by omega
  have h01 : (q : Int) < (n : Int) := by omega
  have hsv := short_val hd HE.out hol hqn hrr hval
  have hrd : rr < d := by rw [hrr]; exact Nat.mod_lt _ hd
  have hxb := (AllB.dig m).ix q
  have hsl := short_lt rr d (ix (dig m) q) hrd hxb
  have c3 := i8.c0
  rw [hq]
  generalize ix (dig m) q = x at *
  have hI1 : (rr : Int) < 999999999 := by omega
  have hI2 : (x : Int) < 1000000000 := by omega
  have HQ := Lib.hid hq
  have HL := Lib.hid hol
  have HS := Lib.hid hsv
  have HB := Lib.hid hsl
  clear hq hrr hval hol hsv hsl hrd hxb
  gi_wp2_with fail
  obtain ⟨N, hN⟩ : ∃ N, rr * 1000000000 + x = N := ⟨_, rfl⟩
  rw [hN] at HS HB
  rw [show (rr : Int) * 1000000000 + (x : Int) = (N : Int) by omega]
  have hN1 : (N : Int) < 1000000000000000000 := by omega
  clear hN hI1 hI2
  have hb1 : (N : Int) / (d : Int) < 1000000000 := by rw [← Int.natCast_ediv]; exact Int.ofNat_lt.2 HB.out
  have hb2 : 0 ≤ (N : Int) / (d : Int) := by rw [← Int.natCast_ediv]; exact Int.natCast_nonneg _
  obtain ⟨W1, hW1⟩ : ∃ W1, W.drew.setCell ⟨w.heap.size + 1 + 1, q, none⟩ (.int .u32 ((N : Int) / (d : Int))) = W1 := ⟨_, rfl⟩
  obtain ⟨W2, hW2⟩ : ∃ W2, W1.setCell ⟨w.heap.size + 1 + 1 + 1, 0, none⟩ (.int .u64 ((N : Int) % (d : Int))) = W2 := ⟨_, rfl⟩
  have j5 := (i5.drew.far (p := ⟨w.heap.size + 1 + 1, q, none⟩) (by simp only [ne_eq]; omega) (.int .u32 ((N : Int) / (d : Int))))
  have j6 := (i6.drew.far (p := ⟨w.heap.size + 1 + 1, q, none⟩) (by simp only [ne_eq]; omega) (.int .u32 ((N : Int) / (d : Int))))
  have j7 := i7.drew.put q (N / d) (z := (N : Int) / (d : Int)) (by rw [Int.natCast_ediv])
  have j8 := (i8.drew.far (p := ⟨w.heap.size + 1 + 1, q, none⟩) (by simp only [ne_eq]; omega) (.int .u32 ((N : Int) / (d : Int))))
  have j9 := (i9.drew.far (p := ⟨w.heap.size + 1 + 1, q, none⟩) (by simp only [ne_eq]; omega) (.int .u32 ((N : Int) / (d : Int))))
  rw [hW1] at j5 j6 j7 j8 j9
  have k5 := (j5.far (p := ⟨w.heap.size + 1 + 1 + 1, 0, none⟩) (by simp only [ne_eq]; omega) (.int .u64 ((N : Int) % (d : Int))))
  have k6 := (j6.far (p := ⟨w.heap.size + 1 + 1 + 1, 0, none⟩) (by simp only [ne_eq]; omega) (.int .u64 ((N : Int) % (d : Int))))
  have k7 := (j7.far (p := ⟨w.heap.size + 1 + 1 + 1, 0, none⟩) (by simp only [ne_eq]; omega) (.int .u64 ((N : Int) % (d : Int))))
  have k8 := (j8.set 0 (.int .u64 ((N : Int) % (d : Int))))
  have k9 := (j9.far (p := ⟨w.heap.size + 1 + 1 + 1, 0, none⟩) (by simp only [ne_eq]; omega) (.int .u64 ((N : Int) % (d : Int))))
  rw [hW2] at k5 k6 k7 k8 k9
  have C0 : ∀ p, (two W.drew W1 W2 12 13 p).cell? ⟨w.heap.size + 1, 0, none⟩ = some (.slice (some ⟨w.heap.size + 1 + 1, 0, none⟩) n n) := fun p => two_all (X := fun w' => w'.cell? ⟨w.heap.size + 1, 0, none⟩ = some (.slice (some ⟨w.heap.size + 1 + 1, 0, none⟩) n n)) i6.drew.c0 j6.c0 k6.c0 p
  have C1 : ∀ p, (two W.drew W1 W2 12 13 p).cell? ⟨w.heap.size, 0, none⟩ = some (.int .u32 (d : Nat)) := fun p => two_all (X := fun w' => w'.cell? ⟨w.heap.size, 0, none⟩ = some (.int .u32 (d : Nat))) i5.drew.c0 j5.c0 k5.c0 p
  have t0 : ¬ d = 0 := by omega
  have t1 : ((N : Int).tdiv (d : Int)) = (N : Int) / (d : Int) := Int.tdiv_eq_ediv_of_nonneg (by omega)
  have t2 : ((N : Int).tmod (d : Int)) = (N : Int) % (d : Int) := IntWalk.rem_in _ _ (by omega)
  have t3 : IntKind.u64.wrap (d : Int) = (d : Int) := IntWalk.u64_in _ (by omega)
  have t4 : IntKind.u64.wrap ((N : Int) / (d : Int)) = (N : Int) / (d : Int) := IntWalk.u64_in _ (by omega)
  have t5 : IntKind.u32.wrap ((N : Int) / (d : Int)) = (N : Int) / (d : Int) := IntWalk.u32_in _ (by omega)
  have t6 : IntKind.u64.wrap ((N : Int) % (d : Int)) = (N : Int) % (d : Int) := IntWalk.u64_in _ (by rw [← Int.natCast_emod]; have := Nat.mod_lt N hd; omega)
  have hst0 := i7.drew.u32cell (i := q) (by rw [HL.out]; exact hqn)
  have hst1 := i7.drew.frozen q
  have hst2 := j8.c0
  have hst3 := j8.frozen 0
  refine wpIn_region_det rfl (by kernel_rfl) (by kernel_rfl) (shortV (w.heap.size + 1 + 1) n q N d) (two W.drew W1 W2 12 13) rfl (two_cong (by decide) (by decide)) ?_ ?_
  ·intro i hi
   have hi' : i < 14 := hi
   match i, hi' with
   | 0, _ =>
    refine stepDet_at [] (some 22) rfl (by kernel_rfl) rfl (by kernel_rfl) fun p h1 h2 h3 K hK => ?_
    rw [two_other (by decide) (by decide)] at hK
    have c0 := C0 p; have c1 := C1 p
    simp only [frD, Act.put, List.setIfInBounds_toArray, List.set_cons_zero, List.set_cons_succ, (show (shortV (w.heap.size + 1 + 1) n q N d) 0 = .slice (some ⟨w.heap.size + 1 + 1, 0, none⟩) n n from rfl)] at hK ⊢
    clear h2 h3
    go_simp
    with_reducible exact hK
   | 1, _ =>
    refine stepDet_at [] (some 23) rfl (by kernel_rfl) rfl (by kernel_rfl) fun p h1 h2 h3 K hK => ?_
    rw [two_other (by decide) (by decide)] at hK
    have c0 := C0 p; have c1 := C1 p
    simp only [frD, Act.put, List.setIfInBounds_toArray, List.set_cons_zero, List.set_cons_succ, (show (shortV (w.heap.size + 1 + 1) n q N d) 1 = .int .i64 (q : Nat) from rfl)] at hK ⊢
    clear h2 h3
    go_simp
    with_reducible exact hK
   | 2, _ =>
    refine stepDet_at [] (some 24) rfl (by kernel_rfl) rfl (by kernel_rfl) fun p h1 h2 h3 K hK => ?_
    rw [two_other (by decide) (by decide)] at hK
    have c0 := C0 p; have c1 := C1 p
    simp only [frD, Act.put, List.setIfInBounds_toArray, List.set_cons_zero, List.set_cons_succ, (show (shortV (w.heap.size + 1 + 1) n q N d) 2 = .int .u64 (N : Nat) from rfl)] at hK ⊢
    clear h2 h3
    go_simp
    with_reducible exact hK
   | 3, _ =>
    refine stepDet_at [] (some 25) rfl (by kernel_rfl) rfl (by kernel_rfl) fun p h1 h2 h3 K hK => ?_
    rw [two_other (by decide) (by decide)] at hK
    have c0 := C0 p; have c1 := C1 p
    simp only [frD, Act.put, List.setIfInBounds_toArray, List.set_cons_zero, List.set_cons_succ, (show (shortV (w.heap.size + 1 + 1) n q N d) 3 = .int .u32 (d : Nat) from rfl)] at hK ⊢
    clear h2 h3
    go_simp
    with_reducible exact hK
   | 4, _ =>
    refine stepDet_at [(3, some 25)] (some 26) rfl (by kernel_rfl) rfl (by kernel_rfl) fun p h1 h2 h3 K hK => ?_
    rw [two_other (by decide) (by decide)] at hK
    have c0 := C0 p; have c1 := C1 p
    simp only [frD, Act.put, List.setIfInBounds_toArray, List.set_cons_zero, List.set_cons_succ, (show (shortV (w.heap.size + 1 + 1) n q N d) 3 = .int .u32 (d : Nat) from rfl), (show (shortV (w.heap.size + 1 + 1) n q N d) 4 = .int .u64 (d : Nat) from rfl)] at hK ⊢
    clear h2 h3
    go_simp
    with_reducible exact hK
   | 5, _ =>
    refine stepDet_at [(2, some 24), (4, some 26)] (some 27) rfl (by kernel_rfl) rfl (by kernel_rfl) fun p h1 h2 h3 K hK => ?_
    rw [two_other (by decide) (by decide)] at hK
    have c0 := C0 p; have c1 := C1 p
    simp only [frD, Act.put, List.setIfInBounds_toArray, List.set_cons_zero, List.set_cons_succ, (show (shortV (w.heap.size + 1 + 1) n q N d) 2 = .int .u64 (N : Nat) from rfl), (show (shortV (w.heap.size + 1 + 1) n q N d) 4 = .int .u64 (d : Nat) from rfl), (show (shortV (w.heap.size + 1 + 1) n q N d) 5 = .int .u64 ((N : Int) / (d : Int)) from rfl)] at hK ⊢
    clear h2 h3
    go_simp
    with_reducible exact hK
   | 6, _ =>
    refine stepDet_at [(5, some 27)] (some 28) rfl (by kernel_rfl) rfl (by kernel_rfl) fun p h1 h2 h3 K hK => ?_
    rw [two_other (by decide) (by decide)] at hK
    have c0 := C0 p; have c1 := C1 p
    simp only [frD, Act.put, List.setIfInBounds_toArray, List.set_cons_zero, List.set_cons_succ, (show (shortV (w.heap.size + 1 + 1) n q N d) 5 = .int .u64 ((N : Int) / (d : Int)) from rfl), (show (shortV (w.heap.size + 1 + 1) n q N d) 6 = .int .u32 ((N : Int) / (d : Int)) from rfl)] at hK ⊢
    clear h2 h3
    go_simp
    with_reducible exact hK
   | 7, _ =>
    refine stepDet_at [] (some 29) rfl (by kernel_rfl) rfl (by kernel_rfl) fun p h1 h2 h3 K hK => ?_
    rw [two_other (by decide) (by decide)] at hK
    have c0 := C0 p; have c1 := C1 p
    simp only [frD, Act.put, List.setIfInBounds_toArray, List.set_cons_zero, List.set_cons_succ, (show (shortV (w.heap.size + 1 + 1) n q N d) 7 = .int .u64 (N : Nat) from rfl)] at hK ⊢
    clear h2 h3
    go_simp
    with_reducible exact hK
   | 8, _ =>
    refine stepDet_at [] (some 30) rfl (by kernel_rfl) rfl (by kernel_rfl) fun p h1 h2 h3 K hK => ?_
    rw [two_other (by decide) (by decide)] at hK
    have c0 := C0 p; have c1 := C1 p
    simp only [frD, Act.put, List.setIfInBounds_toArray, List.set_cons_zero, List.set_cons_succ, (show (shortV (w.heap.size + 1 + 1) n q N d) 8 = .int .u32 (d : Nat) from rfl)] at hK ⊢
    clear h2 h3
    go_simp
    with_reducible exact hK
   | 9, _ =>
    refine stepDet_at [(8, some 30)] (some 31) rfl (by kernel_rfl) rfl (by kernel_rfl) fun p h1 h2 h3 K hK => ?_
    rw [two_other (by decide) (by decide)] at hK
    have c0 := C0 p; have c1 := C1 p
    simp only [frD, Act.put, List.setIfInBounds_toArray, List.set_cons_zero, List.set_cons_succ, (show (shortV (w.heap.size + 1 + 1) n q N d) 8 = .int .u32 (d : Nat) from rfl), (show (shortV (w.heap.size + 1 + 1) n q N d) 9 = .int .u64 (d : Nat) from rfl)] at hK ⊢
    clear h2 h3
    go_simp
    with_reducible exact hK
   | 10, _ =>
    refine stepDet_at [(7, some 29), (9, some 31)] (some 32) rfl (by kernel_rfl) rfl (by kernel_rfl) fun p h1 h2 h3 K hK => ?_
    rw [two_other (by decide) (by decide)] at hK
    have c0 := C0 p; have c1 := C1 p
    simp only [frD, Act.put, List.setIfInBounds_toArray, List.set_cons_zero, List.set_cons_succ, (show (shortV (w.heap.size + 1 + 1) n q N d) 7 = .int .u64 (N : Nat) from rfl), (show (shortV (w.heap.size + 1 + 1) n q N d) 9 = .int .u64 (d : Nat) from rfl), (show (shortV (w.heap.size + 1 + 1) n q N d) 10 = .int .u64 ((N : Int) % (d : Int)) from rfl)] at hK ⊢
    clear h2 h3
    go_simp
    with_reducible exact hK
   | 11, _ =>
    refine stepDet_at [(0, some 22), (1, some 23), (2, some 24), (3, some 25), (4, some 26), (5, some 27), (6, some 28)] (some 33) rfl (by kernel_rfl) rfl (by kernel_rfl) fun p h1 h2 h3 K hK => ?_
    rw [two_other (by decide) (by decide)] at hK
    have c0 := C0 p; have c1 := C1 p
    simp only [frD, Act.put, List.setIfInBounds_toArray, List.set_cons_zero, List.set_cons_succ, (show (shortV (w.heap.size + 1 + 1) n q N d) 0 = .slice (some ⟨w.heap.size + 1 + 1, 0, none⟩) n n from rfl), (show (shortV (w.heap.size + 1 + 1) n q N d) 1 = .int .i64 (q : Nat) from rfl), (show (shortV (w.heap.size + 1 + 1) n q N d) 2 = .int .u64 (N : Nat) from rfl), (show (shortV (w.heap.size + 1 + 1) n q N d) 3 = .int .u32 (d : Nat) from rfl), (show (shortV (w.heap.size + 1 + 1) n q N d) 4 = .int .u64 (d : Nat) from rfl), (show (shortV (w.heap.size + 1 + 1) n q N d) 5 = .int .u64 ((N : Int) / (d : Int)) from rfl), (show (shortV (w.heap.size + 1 + 1) n q N d) 6 = .int .u32 ((N : Int) / (d : Int)) from rfl), (show (shortV (w.heap.size + 1 + 1) n q N d) 11 = .pointer (some ⟨w.heap.size + 1 + 1, q, none⟩) from rfl)] at hK ⊢
    clear h2 h3
    go_simp
    with_reducible exact hK
   | 12, _ =>
    refine stepDet_at [(0, some 22), (1, some 23), (2, some 24), (3, some 25), (4, some 26), (5, some 27), (6, some 28), (11, some 33)] (none) rfl (by kernel_rfl) rfl (by kernel_rfl) fun p h1 h2 h3 K hK => ?_
    have pb : p 13 = false := by
     cases hc : p 13 with
     | false => rfl
     | true => exact absurd (h3 13 12 hc (List.contains_iff_mem.1 (by kernel_rfl))) (by simp [h1])
    have x := two_a (w0 := W.drew) (w1 := W1) (w2 := W2) (a := 12) (b := 13) (by decide) h1 pb
    rw [x.1]
    rw [x.2] at hK
    clear x
    simp only [frD, Act.put, List.setIfInBounds_toArray, List.set_cons_zero, List.set_cons_succ, (show (shortV (w.heap.size + 1 + 1) n q N d) 0 = .slice (some ⟨w.heap.size + 1 + 1, 0, none⟩) n n from rfl), (show (shortV (w.heap.size + 1 + 1) n q N d) 1 = .int .i64 (q : Nat) from rfl), (show (shortV (w.heap.size + 1 + 1) n q N d) 2 = .int .u64 (N : Nat) from rfl), (show (shortV (w.heap.size + 1 + 1) n q N d) 3 = .int .u32 (d : Nat) from rfl), (show (shortV (w.heap.size + 1 + 1) n q N d) 4 = .int .u64 (d : Nat) from rfl), (show (shortV (w.heap.size + 1 + 1) n q N d) 5 = .int .u64 ((N : Int) / (d : Int)) from rfl), (show (shortV (w.heap.size + 1 + 1) n q N d) 6 = .int .u32 ((N : Int) / (d : Int)) from rfl), (show (shortV (w.heap.size + 1 + 1) n q N d) 11 = .pointer (some ⟨w.heap.size + 1 + 1, q, none⟩) from rfl)] at hK ⊢
    clear h2 h3
    go_simp
    with_reducible exact hK
   | 13, _ =>
    refine stepDet_at [(0, some 22), (1, some 23), (2, some 24), (3, some 25), (4, some 26), (5, some 27), (6, some 28), (7, some 29), (8, some 30), (9, some 31), (10, some 32), (11, some 33), (12, none)] (none) rfl (by kernel_rfl) rfl (by kernel_rfl) fun p h1 h2 h3 K hK => ?_
    have pa : p 12 = true := h2 12 (List.contains_iff_mem.1 (by kernel_rfl))
    have x := two_b (w0 := W.drew) (w1 := W1) (w2 := W2) (a := 12) (b := 13) pa h1
    rw [x.1]
    rw [x.2] at hK
    clear x
    simp only [frD, Act.put, List.setIfInBounds_toArray, List.set_cons_zero, List.set_cons_succ, (show (shortV (w.heap.size + 1 + 1) n q N d) 0 = .slice (some ⟨w.heap.size + 1 + 1, 0, none⟩) n n from rfl), (show (shortV (w.heap.size + 1 + 1) n q N d) 1 = .int .i64 (q : Nat) from rfl), (show (shortV (w.heap.size + 1 + 1) n q N d) 2 = .int .u64 (N : Nat) from rfl), (show (shortV (w.heap.size + 1 + 1) n q N d) 3 = .int .u32 (d : Nat) from rfl), (show (shortV (w.heap.size + 1 + 1) n q N d) 4 = .int .u64 (d : Nat) from rfl), (show (shortV (w.heap.size + 1 + 1) n q N d) 5 = .int .u64 ((N : Int) / (d : Int)) from rfl), (show (shortV (w.heap.size + 1 + 1) n q N d) 6 = .int .u32 ((N : Int) / (d : Int)) from rfl), (show (shortV (w.heap.size + 1 + 1) n q N d) 7 = .int .u64 (N : Nat) from rfl), (show (shortV (w.heap.size + 1 + 1) n q N d) 8 = .int .u32 (d : Nat) from rfl), (show (shortV (w.heap.size + 1 + 1) n q N d) 9 = .int .u64 (d : Nat) from rfl), (show (shortV (w.heap.size + 1 + 1) n q N d) 10 = .int .u64 ((N : Int) % (d : Int)) from rfl), (show (shortV (w.heap.size + 1 + 1) n q N d) 11 = .pointer (some ⟨w.heap.size + 1 + 1, q, none⟩) from rfl)] at hK ⊢
    clear h2 h3
    go_simp
    with_reducible exact hK
  ·rw [show two W.drew W1 W2 12 13 (fun _ => true) = W2 from rfl]
   refine ⟨?_, ⟨?_, ?_⟩, (N % d), out.set q (N / d), ?_, by rw [List.length_set]; exact HL.out, hob.set _ _ HB.out, ?_, k5, k6, k7, ?_, k9, ?_⟩
   ·rw [← hW2, ← hW1]; exact (((KeepsOthers.drew _).trans (KeepsOthers.setCell _ _ _)).trans (KeepsOthers.setCell _ _ _)).from _
   ·rw [← hW2, ← hW1]; exact ((Below.drew bl).setCell (p := ⟨w.heap.size + 1 + 1, q, none⟩) (by simp only; omega) _).setCell (p := ⟨w.heap.size + 1 + 1 + 1, 0, none⟩) (by simp only; omega) _
   ·exact k9.trans i9.symm
   ·rw [show n - (k + 1) = q by have := HQ.out; omega]; exact HS.out.1
   ·rw [show n - (k + 1) = q by have := HQ.out; omega]; exact HS.out.2
   ·rw [Int.natCast_emod]; exact k8
   ·rw [← hW2, ← hW1]; exact ((Below.drew i10).setCell (p := ⟨w.heap.size + 1 + 1, q, none⟩) (by simp only; omega) _).setCell (p := ⟨w.heap.size + 1 + 1 + 1, 0, none⟩) (by simp only; omega) _
 case hdone =>
  rintro D W hD ⟨rr, out, hrr, hol, hob, hval, i5, i6, i7, i8, i9, i10⟩ hDf
  simp only [World.size_alloc] at hD
  simp only [Nat.sub_self, List.drop_zero, val_dig] at hrr hval
  have hrb : (rr : Int) < 1000000000 := by have := Nat.mod_lt m hd; omega
  have HR := Lib.hid hrr
  have HL := Lib.hid hol
  have HV := Lib.hid hval
  clear hrr hol hval
  have t1 : IntKind.u32.wrap (rr : Int) = (rr : Int) := IntWalk.u32_in _ (by omega)
  have f1 := i6.frozen 0
  obtain ⟨W1, hW1⟩ : ∃ W1, W.drew.setCell ⟨w.heap.size + 1, 0, none⟩ (.slice (some ⟨w.heap.size + 1 + 1, 0, none⟩) (trimL out).length n) = W1 := ⟨_, rfl⟩
  have j6 := i6.drew.set 0 (.slice (some ⟨w.heap.size + 1 + 1, 0, none⟩) (trimL out).length n)
  have j7 := i7.drew.far (p := ⟨w.heap.size + 1, 0, none⟩) (by simp only [ne_eq]; omega) (.slice (some ⟨w.heap.size + 1 + 1, 0, none⟩) (trimL out).length n)
  have j8 := i8.drew.far (p := ⟨w.heap.size + 1, 0, none⟩) (by simp only [ne_eq]; omega) (.slice (some ⟨w.heap.size + 1 + 1, 0, none⟩) (trimL out).length n)
  rw [hW1] at j6 j7 j8
  have C1 : ∀ p, (one W.drew W1 4 p).cell? ⟨w.heap.size + 1 + 1 + 1, 0, none⟩ = some (.int .u64 (rr : Nat)) := fun p => one_all (X := fun w' => w'.cell? ⟨w.heap.size + 1 + 1 + 1, 0, none⟩ = some (.int .u64 (rr : Nat))) i8.drew.c0 j8.c0 p
  have Cr : ∀ p, Own (one W.drew W1 4 p) (w.heap.size + 1 + 1) 109 (u32s out) := fun p => one_all (X := fun w' => Own w' (w.heap.size + 1 + 1) 109 (u32s out)) i7.drew j7 p
  have CR := Lib.hid Cr
  have hst0 := i6.drew.c0
  have hst1 := i6.drew.frozen 0
  clear Cr
  go_wp2_with fail
  refine wp_region_det rfl (by kernel_rfl) (shortE (w.heap.size + 1 + 1) n (trimL out).length rr) (one W.drew W1 4) rfl (one_cong (by decide)) ?_ ?_
  ·intro i hi
   have hi' : i < 6 := hi
   match i, hi' with
   | 0, _ =>
    refine stepDet_at [] (some 34) rfl (by kernel_rfl) rfl (by kernel_rfl) fun p h1 h2 h3 K hK => ?_
    rw [one_other (by decide)] at hK
    have pb : p 4 = false := by
     cases hc : p 4 with
     | false => rfl
     | true => exact absurd (h3 4 0 hc (List.contains_iff_mem.1 (by kernel_rfl))) (by simp [h1])
    rw [(one_a (w0 := W.drew) (w1 := W1) (a := 4) pb).1] at hK ⊢
    have c0 := i6.drew.c0
    simp only [frD, Act.put, List.setIfInBounds_toArray, List.set_cons_zero, List.set_cons_succ, (show (shortE (w.heap.size + 1 + 1) n (trimL out).length rr) 0 = .slice (some ⟨w.heap.size + 1 + 1, 0, none⟩) n n from rfl)] at hK ⊢
    clear h2 h3
    go_simp
    with_reducible exact hK
   | 1, _ =>
    refine stepDet_at [(0, some 34)] (some 35) rfl (by kernel_rfl) rfl (by kernel_rfl) fun p h1 h2 h3 K hK => ?_
    rw [one_other (by decide)] at hK
    have c1 := C1 p
    simp only [frD, Act.put, List.setIfInBounds_toArray, List.set_cons_zero, List.set_cons_succ, (show (shortE (w.heap.size + 1 + 1) n (trimL out).length rr) 0 = .slice (some ⟨w.heap.size + 1 + 1, 0, none⟩) n n from rfl), (show (shortE (w.heap.size + 1 + 1) n (trimL out).length rr) 1 = .slice (some ⟨w.heap.size + 1 + 1, 0, none⟩) (trimL out).length n from rfl)] at hK ⊢
    clear h2 h3
    go_simp
    refine (trim_n (some ⟨w.heap.size + 1 + 1, 0, none⟩) n n out _ HL.out (by have := (CR.out p).row; rwa [HL.out] at this) (Nat.le_refl _) (by simp only [maxLen]; omega)).mono ?_
    rintro e W5 ⟨rfl, rfl⟩
    with_reducible exact hK
   | 2, _ =>
    refine stepDet_at [] (some 36) rfl (by kernel_rfl) rfl (by kernel_rfl) fun p h1 h2 h3 K hK => ?_
    rw [one_other (by decide)] at hK
    have c1 := C1 p
    simp only [frD, Act.put, List.setIfInBounds_toArray, List.set_cons_zero, List.set_cons_succ, (show (shortE (w.heap.size + 1 + 1) n (trimL out).length rr) 2 = .int .u64 (rr : Nat) from rfl)] at hK ⊢
    clear h2 h3
    go_simp
    with_reducible exact hK
   | 3, _ =>
    refine stepDet_at [(2, some 36)] (some 37) rfl (by kernel_rfl) rfl (by kernel_rfl) fun p h1 h2 h3 K hK => ?_
    rw [one_other (by decide)] at hK
    have c1 := C1 p
    simp only [frD, Act.put, List.setIfInBounds_toArray, List.set_cons_zero, List.set_cons_succ, (show (shortE (w.heap.size + 1 + 1) n (trimL out).length rr) 2 = .int .u64 (rr : Nat) from rfl), (show (shortE (w.heap.size + 1 + 1) n (trimL out).length rr) 3 = .int .u32 (rr : Nat) from rfl)] at hK ⊢
    clear h2 h3
    go_simp
    with_reducible exact hK
   | 4, _ =>
    refine stepDet_at [(0, some 34), (1, some 35)] (none) rfl (by kernel_rfl) rfl (by kernel_rfl) fun p h1 h2 h3 K hK => ?_
    have x := one_a (w0 := W.drew) (w1 := W1) (a := 4) h1
    rw [x.1]
    rw [x.2] at hK
    clear x
    simp only [frD, Act.put, List.setIfInBounds_toArray, List.set_cons_zero, List.set_cons_succ, (show (shortE (w.heap.size + 1 + 1) n (trimL out).length rr) 0 = .slice (some ⟨w.heap.size + 1 + 1, 0, none⟩) n n from rfl), (show (shortE (w.heap.size + 1 + 1) n (trimL out).length rr) 1 = .slice (some ⟨w.heap.size + 1 + 1, 0, none⟩) (trimL out).length n from rfl)] at hK ⊢
    clear h2 h3
    go_simp
    with_reducible exact hK
   | 5, _ =>
    refine stepDet_at [(0, some 34), (1, some 35), (2, some 36), (3, some 37), (4, none)] (some 5) rfl (by kernel_rfl) rfl (by kernel_rfl) fun p h1 h2 h3 K hK => ?_
    rw [one_other (by decide)] at hK
    have c1 := C1 p
    simp only [frD, Act.put, List.setIfInBounds_toArray, List.set_cons_zero, List.set_cons_succ, (show (shortE (w.heap.size + 1 + 1) n (trimL out).length rr) 0 = .slice (some ⟨w.heap.size + 1 + 1, 0, none⟩) n n from rfl), (show (shortE (w.heap.size + 1 + 1) n (trimL out).length rr) 1 = .slice (some ⟨w.heap.size + 1 + 1, 0, none⟩) (trimL out).length n from rfl), (show (shortE (w.heap.size + 1 + 1) n (trimL out).length rr) 2 = .int .u64 (rr : Nat) from rfl), (show (shortE (w.heap.size + 1 + 1) n (trimL out).length rr) 3 = .int .u32 (rr : Nat) from rfl), (show (shortE (w.heap.size + 1 + 1) n (trimL out).length rr) 5 = .int .u32 (rr : Nat) from rfl)] at hK ⊢
    clear h2 h3
    go_simp
    with_reducible exact hK
  ·rw [show one W.drew W1 4 (fun _ => true) = W1 from rfl, fr_frD, show (List.range _).map _ = [(0, some 34), (1, some 35), (2, some 36), (3, some 37), (4, none), (5, some 5)] by kernel_rfl]
   simp only [frD, Act.put, List.setIfInBounds_toArray, List.set_cons_zero, List.set_cons_succ, (show shortE (w.heap.size + 1 + 1) n (trimL out).length rr 5 = .int .u32 (rr : Nat) from rfl)]
   clear C1 CR hst0 hst1
   have hDf' : W1.heap[D]? = some (.deferred (some [])) := by rw [← hW1]; exact (Below.heap_setCell _ _ _ _ (by simp only [ne_eq]; omega)).trans hDf
   have hkf : Keeps w W1 := by rw [← hW1]; exact (Below.drew i10).setCell (p := ⟨w.heap.size + 1, 0, none⟩) (by simp only; omega) _
   have hrow := j7.row
   clear hW1
   go_wp2
   refine ⟨by simp, .inl ⟨_, _, rfl, run_takeDeferred hDf', ?_⟩⟩
   have j6n := j6.nc (grownBy_putObj' _ D (.deferred none)) (fun r e => by cases e; exact ⟨_, hDf', rfl⟩)
   refine ⟨.tuple #[.slice (some ⟨w.heap.size + 1 + 1, 0, none⟩) (trimL out).length n, .int .u32 (rr : Nat)], by simp [results, Tryz.results169, go_sem, j6n.c0], ⟨.slice (some ⟨w.heap.size + 1 + 1, 0, none⟩) (trimL out).length n, ?_, ?_, hkf.trans (belowK_b (w := w) (Nat.le_refl _) _ D _ _ (by omega) hDf' rfl rfl)⟩⟩
   ·rw [← HR.out]
   ·have hu : U32 W1 (.slice (some ⟨w.heap.size + 1 + 1, 0, none⟩) (trimL out).length n) (dig (m / d)) := by
     rw [← HV.out, ← trimL_eq hob]
     exact U32.trim hrow (by rw [HL.out]; exact Nat.le_refl _) (by simp only [maxLen]; omega) (by intro h; cases h)
    exact hu.nc (grownBy_putObj' _ D (.deferred none)) (fun r e => by cases e; exact ⟨_, hDf', rfl⟩)
 case hstop =>
  rintro D c k W _ _ h _
  exact h.elim
end Go.Proofs.YtgcigdahjabimaaGreatDoor
