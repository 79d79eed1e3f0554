/-
  The walks of sched.Remove and sched.Add, and of the reference's Add and Remove.
-/
import Derived.Test.YtolfkgbcjfkbnaaDel
import Derived.Test.YtolfkgbcjfkbnaaSched
namespace Go.Proofs.Ytolfkgbcjfkbnaa
open Go.RowKit

set_option maxHeartbeats 800000 in
theorem remove_w {v : Value} {xs : List Int} (t : Int) {w : World} (hv : Sl (Value.int .i64) w v xs) (hm : xs.length ≤ 1000) {l : List Int} {c : Int} (hr : Sq.remove xs t = (l, c)) :
    Calls Try.prog 21 #[v, .int .i64 t] w fun e w' => ∃ v', e = .returned (.tuple #[v', .int .i64 c]) ∧ Sl (Value.int .i64) w' v' l ∧ Below w.heap.size w w' := by
  obtain ⟨a, cap, rfl, hc, hcm, hn, hrd⟩ := hv
  have HV := valid_w a cap xs.length xs w rfl (by omega) hc hrd
  have HX := index_w a cap xs.length xs t w rfl (by omega) hrd
  have hcm' := hcm
  unfold maxLen at hcm'
  cases hv : Sq.valid xs with
  | false =>
    rw [Sq.remove_bad hv] at hr
    obtain ⟨rfl, rfl⟩ := Prod.mk.inj hr
    rw [hv] at HV
    clear HX hv hr
    go_enter Try.func21, Try.ntmps21
    go_wp2_with (go_at_call 15; refine HV.mono ?_; rintro e w' ⟨rfl, rfl⟩)
    go_ret2
    exact ⟨_, rfl, Sl.nil _ _, Below.refl _ _⟩
  | true =>
    rw [hv] at HV
    rcases Sq.idx_cases (fun y => t == y) xs with ⟨e, _⟩ | ⟨k, hk, e, _, _⟩
    · rw [Sq.remove_none hv e] at hr
      obtain ⟨rfl, rfl⟩ := Prod.mk.inj hr
      rw [e] at HX
      clear hv e hr
      go_enter Try.func21, Try.ntmps21
      go_wp2_with (first | (go_at_call 15; refine HV.mono ?_; rintro e w' ⟨rfl, rfl⟩) | (go_at_call 29; refine HX.mono ?_; rintro e w' ⟨rfl, rfl⟩))
      go_ret2
      exact ⟨_, rfl, Sl.nil _ _, Below.refl _ _⟩
    · rw [Sq.remove_some hv e] at hr
      obtain ⟨rfl, rfl⟩ := Prod.mk.inj hr
      rw [e] at HX
      clear hv e hr
      have HC := clone_w a cap xs.length xs w rfl hc hcm (by omega) hn hrd
      have f5 : IntKind.i64.wrap ((k : Int) + 1) = (k : Int) + 1 := by exact IntWalk.i64_in _ (by omega)
      go_enter Try.func21, Try.ntmps21
      go_wp2_with (first | (go_at_call 15; refine HV.mono ?_; rintro e w' ⟨rfl, rfl⟩) | (go_at_call 29; refine HX.mono ?_; rintro e w' ⟨rfl, rfl⟩) | (go_at_call 24; refine HC.mono ?_; rintro e w1 ⟨v1, rfl, ho1, hb1⟩))
      obtain ⟨g, cap1, cur, hv1, hg, hgb, hnc, hm1, hs1, htk⟩ : ∃ g cap cur, v1 = .slice (some ⟨g, 0, none⟩) xs.length cap ∧ w.heap.size ≤ g ∧ w1.heap[g]? = some (.cells cur 3 (0, 0)) ∧ xs.length ≤ cap ∧ cap ≤ maxLen ∧ cur.size = cap * 1 ∧ cur.toList.take (xs.length * 1) = xs.map (Value.int .i64) := by
        rcases ho1.2 with h | h
        · exact absurd h.2 (by omega)
        · exact h
      unfold maxLen at hm1
      obtain ⟨m, hlen⟩ : ∃ m, xs.length = k + m + 1 := ⟨xs.length - k - 1, by omega⟩
      have HD := delete_w g k m cap1 xs w1 hlen (by omega) (by omega) (by omega) (Array.getElem?_eq_some_iff.1 hgb).1
        (fun j hj => by
          rw [cell_of_row w1 g j cur 3 (0, 0) hgb]
          have h1 : (cur.toList.take (xs.length * 1))[j]? = (xs.map (Value.int .i64))[j]? := by rw [htk]
          rw [List.getElem?_take, if_pos (by omega)] at h1
          simpa [hj] using h1)
        (fun j => frozen_of_row w1 g j cur 3 hgb)
      rw [hv1, hlen]
      refine HD.mono ?_
      rintro e w2 ⟨v2, rfl, hs2, hb2⟩
      go_wp2
      go_ret2
      exact ⟨_, rfl, hs2, hb1.trans (hb2.mono hg)⟩


set_option maxHeartbeats 800000 in
theorem add_w {v : Value} {xs : List Int} (t : Int) {w : World} (hv : Sl (Value.int .i64) w v xs) (hm : xs.length ≤ 1000) {l : List Int} {c : Int} (hr : Sq.add xs t = (l, c)) :
    Calls Try.prog 19 #[v, .int .i64 t] w fun e w' => ∃ v', e = .returned (.tuple #[v', .int .i64 c]) ∧ Sl (Value.int .i64) w' v' l ∧ Below w.heap.size w w' := by
  obtain ⟨a, cap, rfl, hc, hcm, hn, hrd⟩ := hv
  obtain ⟨i0, hi, hz0, hz1, hz2⟩ := info_parts Try.info3
  have HV := valid_w a cap xs.length xs w rfl (by omega) hc hrd
  have HX := contains_w a cap xs.length xs t w rfl (by omega) hrd
  cases hv : Sq.valid xs with
  | false =>
    rw [Sq.add_bad hv] at hr
    obtain ⟨rfl, rfl⟩ := Prod.mk.inj hr
    rw [hv] at HV
    clear HX hv hr
    go_enter Try.func19, Try.ntmps19
    go_wp2_with (go_at_call 15; refine HV.mono ?_; rintro e w' ⟨rfl, rfl⟩)
    go_ret2
    exact ⟨_, rfl, Sl.nil _ _, Below.refl _ _⟩
  | true =>
    rw [hv] at HV
    cases ht : Sq.task t with
    | false =>
      rw [Sq.add_range hv ht] at hr
      obtain ⟨rfl, rfl⟩ := Prod.mk.inj hr
      have ht' : t < 1 ∨ 32 ≤ t := by simp [Sq.task] at ht; omega
      clear HX hv ht hr
      by_cases h1 : t < 1
      · go_enter Try.func19, Try.ntmps19
        go_wp2_with (go_at_call 15; refine HV.mono ?_; rintro e w' ⟨rfl, rfl⟩)
        go_ret2
        exact ⟨_, rfl, Sl.nil _ _, Below.refl _ _⟩
      · have h2 : 32 ≤ t := by omega
        go_enter Try.func19, Try.ntmps19
        go_wp2_with (go_at_call 15; refine HV.mono ?_; rintro e w' ⟨rfl, rfl⟩)
        go_ret2
        exact ⟨_, rfl, Sl.nil _ _, Below.refl _ _⟩
    | true =>
      have h1 : ¬ t < 1 := by simp [Sq.task] at ht; omega
      have h2 : ¬ 32 ≤ t := by simp [Sq.task] at ht; omega
      by_cases hx : 0 ≤ Sq.idx (fun y => t == y) xs
      · rw [Sq.add_there hv ht hx] at hr
        obtain ⟨rfl, rfl⟩ := Prod.mk.inj hr
        rw [decide_eq_true hx] at HX
        clear hv ht hx hr
        go_enter Try.func19, Try.ntmps19
        go_wp2_with (first | (go_at_call 15; refine HV.mono ?_; rintro e w' ⟨rfl, rfl⟩) | (go_at_call 26; refine HX.mono ?_; rintro e w' ⟨rfl, rfl⟩))
        go_ret2
        exact ⟨_, rfl, Sl.nil _ _, Below.refl _ _⟩
      · rw [Sq.add_new hv ht hx] at hr
        obtain ⟨rfl, rfl⟩ := Prod.mk.inj hr
        rw [decide_eq_false hx] at HX
        clear hv ht hx hr
        have HC := clone_w a cap xs.length xs w rfl hc hcm (by omega) hn hrd
        go_enter Try.func19, Try.ntmps19
        go_wp2_with (first | (go_at_call 15; refine HV.mono ?_; rintro e w' ⟨rfl, rfl⟩) | (go_at_call 26; refine HX.mono ?_; rintro e w' ⟨rfl, rfl⟩) | (go_at_call 24; refine HC.mono ?_; rintro e w1 ⟨v1, rfl, ho1, hb1⟩) | (at_builtin; refine wpList_append_rd (Value.int .i64) (fun _ => rfl) rfl _ _ 26 rfl w.heap.size 3 i0 (.int .i64 0) 8 Try.underlying26 hi hz0 hz1 hz2 rfl v1 xs.length xs rfl (ho1.alloc _) (some ⟨w1.heap.size, 0, none⟩) 1 [t] 1 rfl rfl (by simp) (by omega) (Rd.one _ _ _ _ _) (by unfold maxLen; omega) (by omega) (by have := hb1.size; simp; omega) ?_; intro v2 w2 ho2 hs2 hb2))
        go_ret2
        exact ⟨_, rfl, Sl.ofOwn ho2, hb1.trans (((Below.refl _ w1).alloc hb1.size _).trans hb2)⟩

set_option maxHeartbeats 800000 in
theorem radd_w {v : Value} {xs : List Int} (t : Int) {w : World} (hv : Sl (Value.int .i64) w v xs) (hm : xs.length ≤ 1000) {l : List Int} {c : Int} (hr : Sq.add xs t = (l, c)) :
    Calls Try.prog 20 #[v, .int .i64 t] w fun e w' => ∃ v', e = .returned (.tuple #[v', .int .i64 c]) ∧ Sl (Value.int .i64) w' v' l ∧ Below w.heap.size w w' := by
  obtain ⟨a, cap, rfl, hc, hcm, hn, hrd⟩ := hv
  obtain ⟨i0, hi, hz0, hz1, hz2⟩ := info_parts Try.info3
  have HV := rvalid_w a cap xs.length xs w rfl (by omega) hrd
  have HX := rindex_w a cap xs.length xs t w rfl (by omega) hrd
  have HT := rtask_w t w
  cases hv : Sq.valid xs with
  | false =>
    rw [Sq.add_bad hv] at hr
    obtain ⟨rfl, rfl⟩ := Prod.mk.inj hr
    rw [hv] at HV
    clear HX HT hv hr
    go_enter Try.func20, Try.ntmps20
    go_wp2_with (go_at_call 16; refine HV.mono ?_; rintro e w' ⟨rfl, rfl⟩)
    go_ret2
    exact ⟨_, rfl, Sl.nil _ _, Below.refl _ _⟩
  | true =>
    rw [hv] at HV
    cases ht : Sq.task t with
    | false =>
      rw [Sq.add_range hv ht] at hr
      obtain ⟨rfl, rfl⟩ := Prod.mk.inj hr
      rw [ht] at HT
      clear HX hv ht hr
      go_enter Try.func20, Try.ntmps20
      go_wp2_with (first | (go_at_call 16; refine HV.mono ?_; rintro e w' ⟨rfl, rfl⟩) | (go_at_call 27; refine HT.mono ?_; rintro e w' ⟨rfl, rfl⟩))
      go_ret2
      exact ⟨_, rfl, Sl.nil _ _, Below.refl _ _⟩
    | true =>
      rw [ht] at HT
      by_cases hx : 0 ≤ Sq.idx (fun y => t == y) xs
      · rw [Sq.add_there hv ht hx] at hr
        obtain ⟨rfl, rfl⟩ := Prod.mk.inj hr
        clear hv ht hr
        generalize Sq.idx (fun y => t == y) xs = r at HX hx
        go_enter Try.func20, Try.ntmps20
        go_wp2_with (first | (go_at_call 16; refine HV.mono ?_; rintro e w' ⟨rfl, rfl⟩) | (go_at_call 27; refine HT.mono ?_; rintro e w' ⟨rfl, rfl⟩) | (go_at_call 28; refine HX.mono ?_; rintro e w' ⟨rfl, rfl⟩))
        go_ret2
        exact ⟨_, rfl, Sl.nil _ _, Below.refl _ _⟩
      · rw [Sq.add_new hv ht hx] at hr
        obtain ⟨rfl, rfl⟩ := Prod.mk.inj hr
        clear hv ht hr
        generalize Sq.idx (fun y => t == y) xs = r at HX hx
        go_enter Try.func20, Try.ntmps20
        go_wp2_with (first | (go_at_call 16; refine HV.mono ?_; rintro e w' ⟨rfl, rfl⟩) | (go_at_call 27; refine HT.mono ?_; rintro e w' ⟨rfl, rfl⟩) | (go_at_call 28; refine HX.mono ?_; rintro e w' ⟨rfl, rfl⟩) | (at_builtin; refine wpList_append_rd (Value.int .i64) (fun _ => rfl) rfl (.tmp 19) (.tmp 20) 23 rfl w.heap.size 3 i0 (.int .i64 0) 8 Try.underlying23 hi hz0 hz1 hz2 rfl _ 0 [] rfl (World.ownsRow_made w #[] 0 (Nat.le_refl _) (Nat.zero_le _) rfl) a cap xs xs.length rfl rfl hn hc (hrd.below ((Below.refl _ w).alloc (Nat.le_refl _) _) (Nat.le_refl _)) (by unfold maxLen; omega) (by omega) (by simp) ?_; intro v1 w1 ho1 hs1 hb1; simp only [Nat.zero_add, List.nil_append] at ho1; have z1 := hb1.size; simp only [World.size_alloc] at z1) | (at_builtin; refine wpList_append_rd (Value.int .i64) (fun _ => rfl) rfl (.tmp 21) (.tmp 23) 23 rfl w.heap.size 3 i0 (.int .i64 0) 8 Try.underlying23 hi hz0 hz1 hz2 rfl v1 xs.length xs rfl (ho1.alloc _) (some ⟨w1.heap.size, 0, none⟩) 1 [t] 1 rfl rfl (by simp) (by omega) (Rd.one _ _ _ _ _) (by unfold maxLen; omega) (by omega) (by go_size) ?_; intro v2 w2 ho2 hs2 hb2))
        go_ret2
        exact ⟨_, rfl, Sl.ofOwn ho2, (((Below.refl _ w).alloc (Nat.le_refl _) _).trans hb1).trans (((Below.refl _ w1).alloc (by omega) _).trans hb2)⟩

set_option maxHeartbeats 800000 in
theorem rremove_w {v : Value} {xs : List Int} (t : Int) {w : World} (hv : Sl (Value.int .i64) w v xs) (hm : xs.length ≤ 1000) {l : List Int} {c : Int} (hr : Sq.remove xs t = (l, c)) :
    Calls Try.prog 22 #[v, .int .i64 t] w fun e w' => ∃ v', e = .returned (.tuple #[v', .int .i64 c]) ∧ Sl (Value.int .i64) w' v' l ∧ Below w.heap.size w w' := by
  obtain ⟨a, cap, rfl, hc, hcm, hn, hrd⟩ := hv
  obtain ⟨i0, hi, hz0, hz1, hz2⟩ := info_parts Try.info3
  have HV := rvalid_w a cap xs.length xs w rfl (by omega) hrd
  have HX := rindex_w a cap xs.length xs t w rfl (by omega) hrd
  have hcm' := hcm
  unfold maxLen at hcm'
  cases hv : Sq.valid xs with
  | false =>
    rw [Sq.remove_bad hv] at hr
    obtain ⟨rfl, rfl⟩ := Prod.mk.inj hr
    rw [hv] at HV
    clear HX hv hr
    go_enter Try.func22, Try.ntmps22
    go_wp2_with (go_at_call 16; refine HV.mono ?_; rintro e w' ⟨rfl, rfl⟩)
    go_ret2
    exact ⟨_, rfl, Sl.nil _ _, Below.refl _ _⟩
  | true =>
    rw [hv] at HV
    rcases Sq.idx_cases (fun y => t == y) xs with ⟨e, _⟩ | ⟨k, hk, e, _, _⟩
    · rw [Sq.remove_none hv e] at hr
      obtain ⟨rfl, rfl⟩ := Prod.mk.inj hr
      rw [e] at HX
      clear hv e hr
      go_enter Try.func22, Try.ntmps22
      go_wp2_with (first | (go_at_call 16; refine HV.mono ?_; rintro e w' ⟨rfl, rfl⟩) | (go_at_call 28; refine HX.mono ?_; rintro e w' ⟨rfl, rfl⟩))
      go_ret2
      exact ⟨_, rfl, Sl.nil _ _, Below.refl _ _⟩
    · rw [Sq.remove_some hv e] at hr
      obtain ⟨rfl, rfl⟩ := Prod.mk.inj hr
      rw [e] at HX
      clear hv e hr
      obtain ⟨b, off, rfl, hbl, hcell⟩ := hrd.form (by omega)
      clear hcell
      have f1 : (0 : Int) ≤ (k : Int) := by omega
      have f2 : (k : Int) ≤ (cap : Int) := by omega
      have f3 : (k : Int) + 1 ≤ (xs.length : Int) := by omega
      have f4 : (k : Int) < (xs.length : Int) := by omega
      have f5 : IntKind.i64.wrap ((k : Int) + 1) = (k : Int) + 1 := by exact IntWalk.i64_in _ (by omega)
      have f6 : (0 : Int) ≤ (k : Int) + 1 := by omega
      have f7 : ((k : Int) + 1).toNat = k + 1 := by omega
      obtain ⟨ad2, hA⟩ : ∃ ad2, (if cap = k + 1 then some (⟨b, off, none⟩ : Addr) else some ⟨b, off + (k + 1), none⟩) = ad2 := ⟨_, rfl⟩
      have hD' : cutA (some ⟨b, off, none⟩) (k + 1) cap 1 = ad2 := by rw [← hA]; simp [cutA, Addr.add]
      have HD : Hid (∀ W, Below w.heap.size w W → Rd (Value.int .i64) W ad2 (xs.drop (k + 1))) := fun W hW => by rw [← hD']; exact (hrd.drop (k + 1) cap hc).below hW (Nat.le_refl _)
      have HT : Hid (∀ W, Below w.heap.size w W → Rd (Value.int .i64) W (some ⟨b, off, none⟩) (xs.take k)) := fun W hW => (hrd.take k).below hW (Nat.le_refl _)
      have HA2 : Hid (ad2 = none → cap - (k + 1) = 0) := by intro h; rw [h] at hA; split at hA <;> cases hA
      clear hD' hrd
      go_enter Try.func22, Try.ntmps22
      go_wp2_with (first | (go_at_call 16; refine HV.mono ?_; rintro e w' ⟨rfl, rfl⟩) | (go_at_call 28; refine HX.mono ?_; rintro e w' ⟨rfl, rfl⟩))
      go_region_held3 (fun _ => True) (trivial) (first
        | (refine step_append_rd (Value.int .i64) (fun _ => rfl) rfl (.tmp 15) (.tmp 18) 23 (by rfl) w.heap.size 3 i0 (.int .i64 0) 8 Try.underlying23 hi hz0 hz1 hz2 rfl _ 0 [] (by rfl) (own_empty (heap_alloc_new w _) (Nat.le_refl _)) (some ⟨b, off, none⟩) cap (xs.take k) k (by rfl) (by simp; omega) (by simp) (by omega) (HT.out _ (by go_grown)) (by unfold maxLen; omega) (by omega) (by go_size) ?_; intro v1 w1 ho1 hs1 hb1; simp only [Nat.zero_add, List.nil_append] at ho1; have z1 := hb1.size; simp only [World.size_alloc, World.size_drew] at z1)
        | (refine step_append_rd (Value.int .i64) (fun _ => rfl) rfl (.tmp 19) (.tmp 23) 23 (by rfl) w.heap.size 3 i0 (.int .i64 0) 8 Try.underlying23 hi hz0 hz1 hz2 rfl v1 k (xs.take k) (by rfl) ho1 ad2 (cap - (k + 1)) (xs.drop (k + 1)) (xs.length - (k + 1)) (by rfl) (by simp) HA2.out (by omega) (HD.out _ (Below.trans (by go_grown) hb1)) (by unfold maxLen; omega) (by omega) (by go_size) ?_; intro v2 w2 ho2 hs2 hb2))
      go_wp2
      go_ret2
      exact ⟨_, rfl, Sl.ofOwn ho2, (Below.trans (by go_grown) hb1).trans hb2⟩
end Go.Proofs.Ytolfkgbcjfkbnaa
