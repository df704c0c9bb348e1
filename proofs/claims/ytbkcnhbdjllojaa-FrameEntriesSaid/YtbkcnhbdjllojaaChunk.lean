/- slices.Chunk of a row of ints: the iterator's contract. -/
import Derived.Test.YtbkcnhbdjllojaaRange
import Derived.Test.YtbkcnhbdjllojaaConc
import Derived.Sort.QuietIn
namespace Go.Proofs.Ytbkcnhbdjllojaa
open Go.RowKit Go.Shelf
attribute [local go_sem] Oper.semAt_some

/-- what round number k hands over -/
def chunkEnc (b o W k : Nat) : Array Value := #[.slice (some ⟨b, o + k * W, none⟩) W W]
/-- what a round keeps: the iterator's two boxes -/
def ChunkKp (Bs : Nat) (W W' : World) : Prop := W.heap.size ≤ W'.heap.size ∧ W'.heap[Bs]? = W.heap[Bs]? ∧ W'.heap[Bs + 1]? = W.heap[Bs + 1]?
theorem chunk_any (A : Option Addr) (n c W : Nat) (w : World) (hW : 1 ≤ W ∧ W ≤ 64) :
    Calls Try.prog 53 #[.slice A n c, .int .i64 (W : Nat)] w fun e w' => e = .returned (.func (.func 72) #[] #[.pointer (some ⟨w.heap.size, 0, none⟩), .pointer (some ⟨w.heap.size + 1, 0, none⟩)]) ∧ w' = (w.alloc (.cells #[.slice A n c] 23)).alloc (.cells #[.int .i64 (W : Nat)] 3) := by
  have hWI : (1 : Int) ≤ W ∧ (W : Int) ≤ 64 := by omega
  have d0 : decide ((W : Int) < 1) = false := by simp; omega
  go_enter Try.func53, Try.ntmps53
  go_wp2
  go_ret
  exact ⟨by simp, rfl⟩
set_option maxRecDepth 100000 in
set_option maxHeartbeats 1000000 in
theorem chunk_seq (m : Nat) (Bs b o n c W H : Nat) (hW : 1 ≤ W) (hn : n = H * W) (hnc : n ≤ c) (hl : n ≤ 4096) (w : World)
    (h1 : Own w Bs 23 [.slice (some ⟨b, o, none⟩) n c]) (h2 : Own w (Bs + 1) 3 [.int .i64 (W : Nat)]) :
    SeqIdx Fence.wide m Try.prog 72 #[.pointer (some ⟨Bs, 0, none⟩), .pointer (some ⟨Bs + 1, 0, none⟩)] (chunkEnc b o W) (ChunkKp Bs) H w := by
  intro l J Jx WW hW0 hJ hJx hY h0
  have hB1 := h1.below hW0
  have hB2 := h2.below hW0
  have b0 := hB1.cell 0
  have b1 := hB2.cell 0
  simp only [List.getElem?_cons_zero] at b0 b1
  have HN := Lib.hid hn
  have hlI : (n : Int) ≤ 4096 := by omega
  clear hn
  refine callsIn_of_wp Try.func72 rfl trivial ?_ rfl
  simp only [Try.ntmps72, List.size_toArray, List.length_cons, List.length_nil, Nat.reduceAdd, Nat.reduceSub, Array.replicate_succ, Array.replicate_zero, List.push_toArray, List.append_toArray, List.nil_append, List.cons_append]
  gi_wp2
  gi_loopw [4] (fun i wr => ∃ k : Nat, k ≤ H ∧ i = .int .i64 ((k * W : Nat) : Int) ∧ J k wr ∧ ChunkKp Bs WW wr) (fun i _ => n + W - (intOf i).toNat)
  case atStart => exact ⟨0, Nat.zero_le _, by simp, h0, Nat.le_refl _, rfl, rfl⟩
  case round =>
    obtain ⟨k, hk, rfl, hJs, hkp⟩ := hrel
    have hO1 : Own wr Bs 23 [.slice (some ⟨b, o, none⟩) n c] := hkp.2.1.trans hB1
    have hO2 : Own wr (Bs + 1) 3 [.int .i64 (W : Nat)] := hkp.2.2.trans hB2
    have c0 := hO1.cell 0
    have c1 := hO2.cell 0
    simp only [List.getElem?_cons_zero] at c0 c1
    by_cases hlt : k < H
    · have hkw : k * W + W ≤ n := by rw [HN.out, ← Nat.succ_mul]; exact Nat.mul_le_mul_right _ hlt
      have hyy := hY k
      unfold chunkEnc at hyy
      have HKQ : Hid (k * W = k * W) := Lib.hid rfl
      obtain ⟨q, hq⟩ : ∃ q, k * W = q := ⟨_, rfl⟩
      rw [hq] at hkw hyy ⊢
      have hqI : (q : Int) + W ≤ n := by omega
      have hcI : (n : Int) ≤ c := by omega
      have HQ := Lib.hid hq
      clear hq HKQ
      have HY := Lib.hid hyy
      clear hyy hY
      gi_wp2
      gi_quiet (fail)
      have hJ2 : J k (wr.drewN nq) := hJ k wr (wr.drewN nq) none hJs ⟨rfl, rfl, rfl, Nat.le_refl _, fun _ _ _ => rfl⟩ (fun r e => by cases e)
      have hkp2 : ChunkKp Bs WW (wr.drewN nq) := hkp
      have hP1 : Own (wr.drewN nq) Bs 23 [.slice (some ⟨b, o, none⟩) n c] := hO1
      have hP2 : Own (wr.drewN nq) (Bs + 1) 3 [.int .i64 (W : Nat)] := hO2
      clear c0 c1 hO1 hO2 hkp hJs
      generalize wr.drewN nq = w4 at *
      have c0 := hP1.cell 0
      have c1 := hP2.cell 0
      simp only [List.getElem?_cons_zero] at c0 c1
      obtain ⟨fn, tmps, assign, body, hy, hR⟩ := HY.out w4 hJ2 hlt
      have HR := Lib.hid hR
      clear hR
      gi_wp2
      refine ⟨(fun h => by cases h), HR.out.mono ?_⟩
      rintro e W3 (⟨rfl, hJ3, hk3⟩ | ⟨rfl, hJx3⟩)
      · have hkp4 : ChunkKp Bs WW W3 := ⟨Nat.le_trans hkp2.1 hk3.1, hk3.2.1.trans hkp2.2.1, hk3.2.2.trans hkp2.2.2⟩
        have d1 : W3.cell? ⟨Bs + 1, 0, none⟩ = some (.int .i64 (W : Nat)) := Own.cell (hk3.2.2.trans hP2) 0
        gi_wp2
        go_roundw
        case rel => exact ⟨k + 1, hlt, by have := HQ.out; rw [Nat.succ_mul, this]; go_num, hJ3, hkp4⟩
        case measure => simp [intOf]; omega
      · gi_wp2
        refine bodyPost_ret (results_none rfl _ _ _) rfl ?_
        exact ⟨⟨_, rfl⟩, .inr ⟨k + 1, by omega, hJx3⟩⟩
    · obtain rfl : k = H := by omega
      have hq : k * W = n := HN.out.symm
      rw [hq]
      clear hq
      gi_wp2
      go_end0
      exact ⟨⟨_, rfl⟩, .inl hJs⟩
end Go.Proofs.Ytbkcnhbdjllojaa
