/-
  The walks of fresh and awake of the laws.
-/
import Derived.Test.YtcbgablnbgpjdaaJy
import Derived.Test.YtcbgablnbgpjdaaPf
namespace Go.Proofs.Ytcbgablnbgpjdaa
open Go.RowKit

theorem fresh_w (w : World) : Calls Try.prog 31 #[] w (RetDisk ([], 0, []) w) := by
  have H := Lib.hid (rdisk_w (w := w) (seq := 0) Wp.nil Wp.nil (Int.le_refl 0) (by decide) (by simp) (by simp))
  unfold RetDisk at *
  generalize Jr.disk ([], 0, []) = D at *
  go_enter Try.func31, Try.ntmps31
  go_wp2_with (go_at_call 13; refine H.out.mono ?_; rintro e w1 ⟨g, c, rfl, ho, hb⟩)
  go_ret
  exact ⟨g, c, rfl, ho, hb⟩

theorem wp_one {w : World} {n : Int} {g1 g2 : Nat} {T : TypeId} (h1 : Bk w g1 5 ((List.replicate 128 (0 : UInt8)).map eb)) (h2 : w.heap[g2]? = some (.cells #[.int .i64 n, .slice (some ⟨g1, 0, none⟩) 128 128] T (0, 0))) : Wp w (.slice (some ⟨g2, 0, none⟩) 1 1) [(n, List.replicate 128 0)] := by
  have hs : Sl eb w (.slice (some ⟨g1, 0, none⟩) 128 128) (List.replicate 128 0) := by
    have h := Sl.ofOwn (Bk.own (base := 0) h1 (Nat.zero_le _) (by simp [maxLen]))
    simpa using h
  refine ⟨[(n, some ⟨g1, 0, none⟩, 128, 128)], ⟨some ⟨g2, 0, none⟩, 1, rfl, by simp, by unfold maxLen; omega, by simp, fun i hi => ?_⟩, rfl, fun i hi hi' => ?_⟩
  · simp at hi
    subst hi
    refine ⟨g2, 0, rfl, (Array.getElem?_eq_some_iff.1 h2).1, fun j hj => ?_⟩
    rw [cell_of_row _ _ _ _ _ _ h2]
    simp [ew]
  · simp at hi
    subst hi
    exact ⟨rfl, hs⟩

theorem Jr.awake_plan : Jr.plan (Jr.disk ([], 0, [])) [(20, List.replicate 128 0)] = ([(2, List.replicate 128 0), (1, Jr.mk 49 [20] 1 (Jr.slots (Jr.app (Jr.disk ([], 0, [])) [(2, List.replicate 128 0)])))], [(20, List.replicate 128 0), (1, Jr.idle 1)], 0) := by
  have hr := Jr.read_disk ([], 0, []) (Int.le_refl 0) (show (0 : Int) < 4294967296 by decide)
  have hl : Jr.logOf ([], 0, []) = [] := by unfold Jr.logOf; split <;> rfl
  obtain ⟨z, hz, hzl⟩ : ∃ z : List UInt8, List.replicate 128 0 = z ∧ z.length = 128 := ⟨_, rfl, by rw [List.length_replicate]⟩
  rw [hz]
  have hv : Jr.valid [(20, z)] = true := by simp [Jr.valid, Jr.good, Jr.home, Jr.apart, hzl]
  rw [Jr.plan_at hr, if_neg (by simp), if_neg (by rw [hv]; simp), if_neg (by rw [hl]; simp), if_neg (show ¬ (0 : Int) = 4294967295 by decide)]
  rfl
theorem Bk.low {X W : World} {g : Nat} {t : TypeId} {l : List Value} (hb : Below X.heap.size X W) (h : Bk X g t l) : Bk W g t l := h.below hb h.lt
theorem get_low {X W : World} {g : Nat} {o : Obj} (hb : Below X.heap.size X W) (h : X.heap[g]? = some o) : W.heap[g]? = some o := (hb.block g (Array.getElem?_eq_some_iff.1 h).1).trans h
theorem RetPlan.at {d : List UInt8} {ls : List Jr.Wr} {W w' : World} {e : Ending} {p q : List Jr.Wr} {c : Int} (h : RetPlan d ls W e w') (hr : Jr.plan d ls = (p, q, c)) : ∃ a1 k1 a2 k2, e = .returned (.tuple #[.slice a1 p.length k1, .slice a2 q.length k2, .int .i64 c]) ∧ Wp w' (.slice a1 p.length k1) p ∧ Wp w' (.slice a2 q.length k2) q ∧ Below W.heap.size W w' := by
  unfold RetPlan at h
  rw [hr] at h
  obtain ⟨v1, v2, h1, h2, h3, h4⟩ := h
  obtain ⟨a1, k1, rfl⟩ := h2.slice
  obtain ⟨a2, k2, rfl⟩ := h3.slice
  exact ⟨a1, k1, a2, k2, h1, h2, h3, h4⟩
theorem RetPlan.at2 {d : List UInt8} {ls : List Jr.Wr} {W w' : World} {e : Ending} {p q : List Jr.Wr} {c : Int} (h : RetPlan d ls W e w') (hr : Jr.plan d ls = (p, q, c)) (h1 : p.length = 2) (h2 : q.length = 2) : ∃ a1 k1 a2 k2, e = .returned (.tuple #[.slice a1 2 k1, .slice a2 2 k2, .int .i64 c]) ∧ Wp w' (.slice a1 2 k1) p ∧ Wp w' (.slice a2 2 k2) q ∧ Below W.heap.size W w' := by
  have h3 := h.at hr
  rw [h1, h2] at h3
  exact h3
theorem heap_new2 (w : World) (o o' : Obj) : ((w.alloc o).alloc o').heap[w.heap.size + 1]? = some o' := by
  have h := heap_alloc_new (w.alloc o) o'
  simpa using h
theorem Wp.c0 {w : World} {a : Option Addr} {n k : Nat} {ls : List Jr.Wr} (h : Wp w (.slice a n k) ls) (hn : 0 < n) : ∃ b off, a = some ⟨b, off, none⟩ ∧ b < w.heap.size ∧ n = ls.length ∧ n ≤ k ∧ ∀ W, Below w.heap.size w W → ∀ i (hi : i < ls.length), W.cell? ⟨b, off + i * 2, none⟩ = some (.int .i64 ls[i].1) := by
  obtain ⟨a2, k2, q, h1, -, -, h2⟩ := h.open
  injection q with q1 q2 q3
  subst q1 q2 q3
  obtain ⟨b, off, a', c', rfl, hb, -, -⟩ := h2 0 hn
  refine ⟨b, off, rfl, hb, rfl, h1, fun W hW i hi => ?_⟩
  obtain ⟨b9, off9, a9, c9, e, hb9, hc, -⟩ := h2 i hi
  simp only [Option.some.injEq, Addr.mk.injEq, and_true] at e
  obtain ⟨rfl, rfl⟩ := e
  exact (hW.cell (p := ⟨b, off + i * 2, none⟩) hb).trans hc.c0

set_option maxRecDepth 100000 in
set_option maxHeartbeats 1600000 in
theorem awake_w (w : World) : Calls Try.prog 10 #[] w fun e w' => e = .returned (.bool true) ∧ Below w.heap.size w w' := by
  have HF := Lib.hid (fun W => fresh_w W)
  unfold RetDisk at HF
  have hr := Jr.read_disk ([], 0, []) (Int.le_refl 0) (show (0 : Int) < 4294967296 by decide)
  have hr' : Jr.read (Jr.disk ([], 0, [])) = (0, [], 0) := hr
  have HR := Lib.hid hr'
  have HPL := Lib.hid Jr.awake_plan
  generalize Jr.disk ([], 0, []) = D at *
  clear hr hr'
  obtain ⟨i0, hi, hz0, hz1, hz2⟩ := info_parts Try.info5
  have hm1 : ∀ W : World, (Instr.makeSlice 29 (.int .i64 128) (.int .i64 128)).run Try.prog W = .ok (.slice (some ⟨W.heap.size, 0, none⟩) 128 128) (W.alloc (.cells ((List.replicate 128 (0 : UInt8)).map eb).toArray 5 (0, 0))) := fun W => by
    have h := run_make (P := Try.prog) W 29 5 i0 (.int .u8 0) Try.underlying29 hi hz0 .i64 .i64 128 128 (by decide) (by decide) (by rw [hz2]; decide) (by decide)
    rw [hz1] at h
    rw [show (List.replicate 128 (0 : UInt8)).map eb = List.replicate 128 (.int .u8 0) by simp [eb], ← toList_made]
    exact h
  have HNW : Hid (∀ W : World, Bk (W.alloc (.cells ((List.replicate 128 (0 : UInt8)).map eb).toArray 5 (0, 0))) W.heap.size 5 ((List.replicate 128 (0 : UInt8)).map eb)) := fun W => Bk.new W _ _
  generalize hzz : ((List.replicate 128 (0 : UInt8)).map eb).toArray = ZA at hm1 HNW
  clear hzz
  go_enter Try.func10, Try.ntmps10
  go_wp2_with fail
  go_region_held3 (fun _ => True) (trivial) ((first
    | (go_at_call 31; refine (HF.out _).mono ?_; rintro e w1 ⟨g, c, rfl, ho1, hb1⟩; have hw1 := low_trans (w := w) (by first | exact low_drew w | exact low_adrew w _ | exact ((low_alloc w _).alloc (low_alloc w _).size _).drew) hb1; have hws := hw1.size)
    | (go_at_call 14; refine ((jplan_w (d := D) (ls := [(20, List.replicate 128 0)]) (by first | exact own_sl ho1 ((low_alloc w1 _).alloc (low_alloc w1 _).size _) | exact own_sl ho1 (low_alloc w1 _) | exact own_sl ho1 (low_refl w1)) (by first | exact wp_one ((HNW.out w1).alloc _) (heap_new2 _ _ _) | exact wp_one (Bk.alloc (Bk.low hb1 (HNW.out w)) _) (heap_alloc_new _ _) | exact wp_one (Bk.low hb1 ((HNW.out w).alloc _)) (get_low hb1 (heap_new2 w _ _))) (by simp)).mono (fun _ _ h => h.at2 HPL.out rfl rfl)).mono ?_; rintro e w2 ⟨a1, k1, a2, k2, rfl, hp1, hp2, hb2⟩; have hw2 := low_trans (w := w) (by first | exact hw1 | exact hw1.alloc hws _ | exact (hw1.alloc hws _).alloc (hw1.alloc hws _).size _) hb2)))
  all_goals
    have HP1 := Lib.hid hp1
    have HP2 := Lib.hid hp2
    have HW2 := Lib.hid hw2
    clear hp1 hp2 hw2 hb2 ho1 hb1 hw1 hws
    go_upto_region 3 with (first
      | (go_at_call 31; (with_reducible refine (HF.out _).mono ?_); rintro e w3 ⟨g3, c3, rfl, ho3, hb3⟩)
      | (go_at_call 22; refine ((jread_w (Sl.ofOwn ho3)).mono (fun _ _ h => h.at HR.out)).mono ?_; rintro e w4 ⟨a4, k4, rfl, -, hb4⟩))
    have hb24 : Below w2.heap.size w2 w4 := low_trans hb3 hb4
    have HW4 := Lib.hid (low_trans HW2.out hb24)
    obtain ⟨b1, off1, rfl, -, -, hk1, hc1⟩ := HP1.out.c0 (by omega)
    obtain ⟨b2, off2, rfl, -, -, hk2, hc2⟩ := HP2.out.c0 (by omega)
    have y10 : w4.cell? ⟨b1, off1, none⟩ = some (.int .i64 2) := hc1 w4 hb24 0 (by simp)
    have y11 : w4.cell? ⟨b1, off1 + 2, none⟩ = some (.int .i64 1) := hc1 w4 hb24 1 (by simp)
    have y20 : w4.cell? ⟨b2, off2, none⟩ = some (.int .i64 20) := hc2 w4 hb24 0 (by simp)
    have y21 : w4.cell? ⟨b2, off2 + 2, none⟩ = some (.int .i64 1) := hc2 w4 hb24 1 (by simp)
    clear ho3 hb3 hb4 hb24 hc1 hc2
    go_wp2_with fail
    go_ret
    exact ⟨rfl, HW4.out⟩
end Go.Proofs.Ytcbgablnbgpjdaa
