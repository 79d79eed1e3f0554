/-
  The walks of slices.Chunk, slices.Collect and disk.cut, for a slice of 20480 bytes: a range over a function.
-/
import Derived.RangeFuncNested
import Derived.RangeFuncBound
import Derived.RangeFuncCalls
import Derived.RangeFuncLeaves
import Derived.RangeFuncBox
import Derived.Maps.AppendAt
import Derived.Shelf.Abstract
import Derived.Shelf.RegionOpen
import Derived.WalkKit
import Derived.OwnWalkIn
import Derived.TacticsInMore
import Derived.LoopNIn
import Derived.LoopIn
import Derived.Sort.QuietIn
import Derived.Test.YteeoonoccklhmaaDd
namespace Go.Proofs.Yteeoonoccklhmaa
open Go.RowKit Go.Shelf
attribute [local go_sem] Oper.semAt_some

/-- What has come when k rounds are over. -/
def upto {α : Type} (f : Nat → α) (k : Nat) : List α := (List.range k).map f
theorem upto_succ {α : Type} (f : Nat → α) (k : Nat) : upto f (k + 1) = upto f k ++ [f k] := by simp [upto, List.range_succ]
theorem upto_length {α : Type} (f : Nat → α) (k : Nat) : (upto f k).length = k := by simp [upto]

/-- Chunk number k of a row of block b. -/
def chk (b k : Nat) : Tr := (some ⟨b, 128 * k, none⟩, 128, 128)

set_option maxRecDepth 100000 in
set_option maxHeartbeats 2000000 in
theorem chunk1_in (n : Nat) (l Bs Bn n₀ b : Nat) (hB1 : Bs < n₀) (hB2 : Bn < n₀) (J Jx : List Tr → World → Prop) (W : World) (hJ : AbidesFrom W.heap.size J)
    (hY : ∀ pre x W, J pre W → pre.length < 160 → YieldAt Fence.wide (n - 1) Try.prog l #[et x] W fun e W' =>
      (e = .returned (.bool true) ∧ J (pre ++ [x]) W' ∧ Below n₀ W W') ∨ (e = .returned (.bool false) ∧ Jx (pre ++ [x]) W'))
    (hBs : W.cell? ⟨Bs, 0, none⟩ = some (.slice (some ⟨b, 0, none⟩) 20480 20480)) (hBn : W.cell? ⟨Bn, 0, none⟩ = some (.int .i64 128)) (h0 : J [] W) :
    CallsIn Fence.wide n Try.prog 56 #[.func (.yield l) #[] #[], .pointer (some ⟨Bs, 0, none⟩), .pointer (some ⟨Bn, 0, none⟩)] W fun e W' => (∃ v, e = .returned v) ∧
      ((∃ ys, ys = upto (chk b) 160 ∧ J ys W') ∨ (∃ pre, (∃ k, k ≤ 160 ∧ pre = upto (chk b) k) ∧ Jx pre W')) := by
  refine callsIn_of_wp Try.func56 rfl trivial ?_ rfl
  simp only [Try.ntmps56, List.size_toArray, List.length_cons, List.length_nil, Nat.reduceAdd, Nat.reduceSub, Array.replicate_succ, Array.replicate_zero, List.push_toArray, List.append_toArray, List.nil_append, List.cons_append]
  gi_wp2
  gi_loopw [4] (fun i wr => ∃ k : Nat, k ≤ 160 ∧ i = .int .i64 ((128 * k : Nat) : Int) ∧ J (upto (chk b) k) wr ∧ Below n₀ W wr)
    (fun i _ => 20480 - (intOf i).toNat)
  case atStart => exact ⟨0, Nat.zero_le _, rfl, h0, Below.refl _ _⟩
  case round =>
    obtain ⟨k, hk, rfl, hJs, hnx⟩ := hrel
    have hc1 := (hnx.cell (p := ⟨Bs, 0, none⟩) hB1).trans hBs
    have hc2 := (hnx.cell (p := ⟨Bn, 0, none⟩) hB2).trans hBn
    by_cases hlt : k < 160
    · have q0 : ((128 * k : Nat) : Int) < 20480 := by omega
      gi_wp2
      gi_quiet (fail)
      have hJ2 : J (upto (chk b) k) (wr.drewN nq) := hJ _ wr _ none hJs ⟨rfl, rfl, rfl, Nat.le_refl _, fun _ _ _ => rfl⟩ (fun r e => by cases e)
      obtain ⟨fn, tmps, assign, body, hy, hR⟩ := hY _ (chk b k) (wr.drewN nq) hJ2 (by rw [upto_length]; exact hlt)
      have hnx2 : Below n₀ W (wr.drewN nq) := ⟨hnx.os, hnx.tape, hnx.output, hnx.size, hnx.block⟩
      have hc12 : (wr.drewN nq).cell? ⟨Bs, 0, none⟩ = some (.slice (some ⟨b, 0, none⟩) 20480 20480) := hc1
      have hc22 : (wr.drewN nq).cell? ⟨Bn, 0, none⟩ = some (.int .i64 128) := hc2
      generalize wr.drewN nq = wq at *
      have hy2 : (Instr.yield l #[.slice (some ⟨b, 128 * k, none⟩) 128 128]).run Try.prog wq = .ok (.round l fn tmps assign body) wq := hy
      clear hy
      gi_wp2
      refine ⟨fun h => absurd h (by simp [Fence.wide]), hR.mono ?_⟩
      rintro e W3 (⟨rfl, hJ3, hk3⟩ | ⟨rfl, hJx3⟩)
      · have hn3 := hnx2.trans hk3
        have hc13 := (hn3.cell (p := ⟨Bs, 0, none⟩) hB1).trans hBs
        have hc23 := (hn3.cell (p := ⟨Bn, 0, none⟩) hB2).trans hBn
        gi_wp2
        go_roundw
        case rel => exact ⟨k + 1, by omega, by go_num, by rw [upto_succ]; exact hJ3, hn3⟩
        case measure => simp [intOf]; omega
      · gi_wp2
        refine bodyPost_ret (results_none rfl _ _ _) rfl ?_
        exact ⟨⟨_, rfl⟩, .inr ⟨_, ⟨k + 1, by omega, (upto_succ _ _).symm⟩, hJx3⟩⟩
    · obtain rfl : k = 160 := by omega
      gi_wp2
      go_end0
      exact ⟨⟨_, rfl⟩, .inl ⟨_, rfl, hJs⟩⟩

set_option maxHeartbeats 1000000 in
/-- slices.Chunk: both parameters are boxed; the function value captures the boxes. -/
theorem chunk_in (n : Nat) (a : Option Addr) (len cap : Nat) (w : World) :
    CallsIn Fence.wide n Try.prog 53 #[.slice a len cap, .int .i64 128] w fun e w' => e = .returned (.func (.func 56) #[] #[.pointer (some ⟨w.heap.size, 0, none⟩), .pointer (some ⟨w.heap.size + 1, 0, none⟩)]) ∧ w' = (w.alloc (.cells #[.slice a len cap] 23 (0, 0))).alloc (.cells #[.int .i64 128] 3 (0, 0)) := by
  refine callsIn_of_wp Try.func53 rfl trivial ?_ rfl
  simp only [Try.ntmps53, List.size_toArray, List.length_cons, List.length_nil, Nat.reduceAdd, Nat.reduceSub, Array.replicate_succ, Array.replicate_zero, List.push_toArray, List.append_toArray, List.nil_append, List.cons_append]
  gi_wp2
  go_ret
  exact ⟨rfl, rfl⟩

/-- slices.Chunk hands back a value that stops: all chunks in order. -/
theorem chunk_stops (n : Nat) (Bs Bn n₀ b : Nat) (w : World) (hB1 : Bs < n₀) (hB2 : Bn < n₀) (hn : n₀ ≤ w.heap.size)
    (hc1 : w.cell? ⟨Bs, 0, none⟩ = some (.slice (some ⟨b, 0, none⟩) 20480 20480)) (hc2 : w.cell? ⟨Bn, 0, none⟩ = some (.int .i64 128)) :
    SeqStopsK Fence.wide n Try.prog 56 #[.pointer (some ⟨Bs, 0, none⟩), .pointer (some ⟨Bn, 0, none⟩)] (fun x : Tr => #[et x]) (Below n₀) (fun ys => ys = upto (chk b) 160) (fun pre => ∃ k, k ≤ 160 ∧ pre = upto (chk b) k) 160 w := fun l J Jx W hW hJ _ hY h0 =>
  chunk1_in n l Bs Bn n₀ b hB1 hB2 J Jx W hJ hY ((hW.cell (p := ⟨Bs, 0, none⟩) (by show Bs < _; omega)).trans hc1) ((hW.cell (p := ⟨Bn, 0, none⟩) (by show Bn < _; omega)).trans hc2) h0
end Go.Proofs.Yteeoonoccklhmaa
