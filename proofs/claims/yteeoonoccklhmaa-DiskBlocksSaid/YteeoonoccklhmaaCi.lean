/-
  The walks of slices.AppendSeq, slices.Collect and disk.cut.
-/
import Derived.Test.YteeoonoccklhmaaCh
namespace Go.Proofs.Yteeoonoccklhmaa
open Go.RowKit Go.Shelf
attribute [local go_sem] Oper.semAt_some

set_option maxRecDepth 100000 in
set_option maxHeartbeats 2000000 in
theorem appendSeq_in (n : Nat) (hn : 3 ≤ n) (lb : Array Value) (zs : List Tr) (Sp : List Tr → Prop) (N : Nat) (hN : N ≤ 1000) (w : World)
    (hS : ∀ W, Below w.heap.size w W → SeqStopsK Fence.wide (n - 1) Try.prog 56 lb (fun x : Tr => #[et x]) (Below w.heap.size) (fun ys => ys = zs) Sp N W) :
    CallsIn Fence.wide n Try.prog 55 #[.slice none 0 0, .func (.func 56) #[] lb] w fun e W' => ∃ v, e = .returned v ∧ W'.ownsRow w.heap.size 23 1 v zs.length (zs.map et) ∧ Below w.heap.size w W' := by
  have h1 : 1 ≤ n := by omega
  obtain ⟨i0, hi, hz0, hz1, hz2⟩ := info_parts Try.infoS
  refine callsIn_of_wp_marks Try.func55 rfl trivial ?_ rfl
  simp only [Try.ntmps55, List.size_toArray, List.length_cons, List.length_nil, Nat.reduceAdd, Nat.reduceSub, Array.replicate_succ, Array.replicate_zero, List.push_toArray, List.append_toArray, List.nil_append, List.cons_append]
  gi_wp2
  have bO := Boxed.new w 22 (.slice none 0 0)
  have hB0 : Below w.heap.size w (w.alloc (.cells #[.slice none 0 0] 22 (0, 0))) := low_alloc _ _
  refine wpIn_rangeFunc_ownG rfl h1 (gf := 56) (lb := lb) rfl trivial (enters_of Try.func56 (by kernel_rfl) rfl)
    (hS _ hB0) belowK_t (belowK_b (by simp)) (Below.refl _ _) (fun _ => rfl)
    (fun (pre : List Tr) W => (∃ v, Boxed W w.heap.size 22 v ∧ W.ownsRow w.heap.size 23 1 v pre.length (pre.map et) ∧ True) ∧ Below w.heap.size w W)
    (fun _ _ _ => False)
    (OwnFrom.and (Own.from (holdsRow_own w.heap.size w.heap.size 22 23 1 (fun pre : List Tr => pre.length) (fun pre : List Tr => pre.map et) (fun (_ : List Tr) _ => True)) _) (ownFrom_below (Nat.le_refl _) (by simp)))
    (fun _ _ _ _ _ hs _ _ => hs)
    ⟨⟨_, bO, World.ownsRow_nil _ _ _ _, trivial⟩, hB0⟩
    (fun x => { tmps := #[.slice none 0 0, .func (.func 56) #[] lb, .pointer (some ⟨w.heap.size, 0, none⟩), undef, .slice none 0 0, et x, .func (.func 56) #[] lb, et x, undef, undef, undef, undef, undef], defers := [] }) ?assign ?body ?done ?stop
  case assign =>
    intro l x W K hK
    gi_wp2
    exact hK
  case body =>
    rintro l pre ⟨xa, xn, xc⟩ W ⟨⟨v, hv, hrow, -⟩, hB⟩ hlt
    have hc := hv.cell
    unfold et
    gi_wp2_with (gi_at_builtin; refine wpListIn_append_own _ rfl _ _ 22 rfl w.heap.size 23 i0 (.slice none 0 0) 1 24 Try.underlying22 hi hz0 hz1 hz2 rfl (by decide) _ _ _ rfl (hrow.alloc _) ⟨W.heap.size, 0, none⟩ 1 1 [.slice xa xn xc] rfl rfl (cell_one_new _ _ _) (by simp [Value.oneCell']) (by unfold maxLen; omega) (by omega) (by have := hB.size; simp; omega) ?_; intro v' w1 hown' hgrow _; obtain ⟨g', cap', rfl⟩ := ownsRow_succ hown'; obtain ⟨hv1, hv2, hr2, hk2, hb2⟩ := hv.appended (by decide) hrow hB.size (Nat.le_refl _) hown' hgrow; have hc1 := hv1.cell; have hf1 := hv1.frozen)
    refine ⟨hk2.from _, hb2, ⟨_, hv2, ?_⟩, hB.trans hb2⟩
    rw [List.length_append, List.map_append]
    exact hr2
  case done =>
    rintro D ys W hD rfl ⟨⟨v, hv, hrow, -⟩, hB⟩ hK
    have hc := hv.cell
    gi_wp2
    refine ⟨by simp, .inl ⟨_, _, rfl, run_takeDeferred hK, ?_⟩⟩
    exact ⟨_, results_tmp rfl _ _ _, v, rfl, ownsRow_putObj hrow _ hK rfl, hB.trans (belowK_b (w := w) (Nat.le_refl _) W D _ _ (by simp at hD; omega) hK rfl rfl)⟩
  case stop =>
    rintro D c pre W _ _ h _
    exact h.elim

set_option maxHeartbeats 1000000 in
theorem collect_in (n : Nat) (hn : 4 ≤ n) (lb : Array Value) (zs : List Tr) (Sp : List Tr → Prop) (N : Nat) (hN : N ≤ 1000) (w : World)
    (hS : ∀ W, Below w.heap.size w W → SeqStopsK Fence.wide (n - 1 - 1) Try.prog 56 lb (fun x : Tr => #[et x]) (Below w.heap.size) (fun ys => ys = zs) Sp N W) :
    CallsIn Fence.wide n Try.prog 52 #[.func (.func 56) #[] lb] w fun e W' => ∃ v, e = .returned v ∧ W'.ownsRow w.heap.size 23 1 v zs.length (zs.map et) ∧ Below w.heap.size w W' := by
  have HA := appendSeq_in (n - 1) (by omega) lb zs Sp N hN w hS
  refine callsIn_of_wp Try.func52 rfl trivial ?_ rfl
  simp only [Try.ntmps52, List.size_toArray, List.length_cons, List.length_nil, Nat.reduceAdd, Nat.reduceSub, Array.replicate_succ, Array.replicate_zero, List.push_toArray, List.append_toArray, List.nil_append, List.cons_append]
  gi_wp2_with (refine ⟨trivial, fun h => absurd h (by simp [Fence.wide]), ?_⟩; gi_at_call 55; refine HA.mono ?_; rintro e w1 ⟨v1, rfl, ho1, hb1⟩)
  go_ret
  exact ⟨v1, rfl, ho1, hb1⟩

set_option maxHeartbeats 1000000 in
theorem cut_in (n : Nat) (hn : 5 ≤ n) (b : Nat) (w : World) :
    CallsIn Fence.wide n Try.prog 46 #[.slice (some ⟨b, 0, none⟩) 20480 20480] w fun e W' => ∃ v, e = .returned v ∧ W'.ownsRow w.heap.size 23 1 v 160 ((upto (chk b) 160).map et) ∧ Below w.heap.size w W' := by
  have HK := chunk_in (n - 1) (some ⟨b, 0, none⟩) 20480 20480 w
  obtain ⟨W0, hW0⟩ : ∃ W0, W0 = (w.alloc (.cells #[.slice (some ⟨b, 0, none⟩) 20480 20480] 23 (0, 0))).alloc (.cells #[.int .i64 128] 3 (0, 0)) := ⟨_, rfl⟩
  have hsz : W0.heap.size = w.heap.size + 1 + 1 := by rw [hW0]; simp
  have b1 : Bk W0 w.heap.size 23 [.slice (some ⟨b, 0, none⟩) 20480 20480] := by rw [hW0]; exact (Bk.new w _ [_]).alloc _
  have b2 : Bk W0 (w.heap.size + 1) 3 [.int .i64 128] := by rw [hW0]; exact Bk.newAt _ _ [_] (by simp)
  have hl : Below w.heap.size w W0 := by rw [hW0]; exact (low_alloc _ _).alloc (by simp) _
  rw [← hW0] at HK
  have HC := collect_in (n - 1) (by omega) #[.pointer (some ⟨w.heap.size, 0, none⟩), .pointer (some ⟨w.heap.size + 1, 0, none⟩)] (upto (chk b) 160) (fun pre => ∃ k, k ≤ 160 ∧ pre = upto (chk b) k) 160 (by omega) W0
    (fun W hW => chunk_stops _ w.heap.size (w.heap.size + 1) W0.heap.size b W (by omega) (by omega) hW.size ((b1.below hW b1.lt).cell 0) ((b2.below hW b2.lt).cell 0))
  rw [upto_length] at HC
  clear b1 b2 hW0
  refine callsIn_of_wp Try.func46 rfl trivial ?_ rfl
  simp only [Try.ntmps46, List.size_toArray, List.length_cons, List.length_nil, Nat.reduceAdd, Nat.reduceSub, Array.replicate_succ, Array.replicate_zero, List.push_toArray, List.append_toArray, List.nil_append, List.cons_append]
  gi_wp2_with (first
    | (refine ⟨trivial, fun h => absurd h (by simp [Fence.wide]), ?_⟩; gi_at_call 53; refine HK.mono ?_; rintro e w1 ⟨rfl, rfl⟩)
    | (refine ⟨trivial, fun h => absurd h (by simp [Fence.wide]), ?_⟩; gi_at_call 52; refine HC.mono ?_; rintro e w2 ⟨v2, rfl, ho2, hb2⟩))
  go_ret
  exact ⟨v2, rfl, own_down ho2 (by omega), stepAny hl hb2⟩

theorem cut_w (b : Nat) (w : World) :
    Calls Try.prog 46 #[.slice (some ⟨b, 0, none⟩) 20480 20480] w fun e W' => ∃ v, e = .returned v ∧ W'.ownsRow w.heap.size 23 1 v 160 ((upto (chk b) 160).map et) ∧ Below w.heap.size w W' :=
  callsIn_wide.1 (cut_in 5 (Nat.le_refl _) b w)
end Go.Proofs.Yteeoonoccklhmaa
