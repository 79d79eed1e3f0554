/-
  No statement is proved here: how interrupts and states lie in memory; the walks of device, Proper and pending.
-/
import Derived.Test.YtehniblcodkmaaaRows
import Derived.Test.YtehniblcodkmaaaMulti
import Derived.Test.YtehniblcodkmaaaKeeps
import Derived.Test.YtehniblcodkmaaaSpec
namespace Go.Proofs.Ytehniblcodkmaaa
open Go.RowKit

/-- The cells of an interrupt: three ints and a slice. -/
abbrev El := Int × Int × Int × Option Addr × Nat × Nat
def el (e : El) : List Value := [.int .i64 e.1, .int .i64 e.2.1, .int .i64 e.2.2.1, .slice e.2.2.2.1 e.2.2.2.2.1 e.2.2.2.2.2]
theorem el_len (e : El) : (el e).length = 4 := rfl
theorem el_one (e : El) : ∀ u ∈ el e, u.oneCell' = true := by intro u hu; simp [el] at hu; rcases hu with rfl | rfl | rfl | rfl <;> rfl

/-- e reads as l. -/
def LnR (w : World) (e : El) (l : Iq.Ln) : Prop := e.1 = l.1 ∧ e.2.1 = l.2.1 ∧ e.2.2.1 = l.2.2.1 ∧ Sl eb w (.slice e.2.2.2.1 e.2.2.2.2.1 e.2.2.2.2.2) l.2.2.2
def LsR (w : World) (es : List El) (ls : List Iq.Ln) : Prop := es.length = ls.length ∧ ∀ i (h : i < es.length) (h' : i < ls.length), LnR w es[i] ls[i]
/-- v is a slice of interrupts that reads as ls. -/
def Lp (w : World) (v : Value) (ls : List Iq.Ln) : Prop := ∃ es, Sm 4 el w v es ∧ LsR w es ls

section
variable {w w' : World} {B : Nat}
theorem LnR.below {e : El} {l : Iq.Ln} (h : LnR w e l) (hb : Below B w w') (hB : w.heap.size ≤ B) : LnR w' e l := ⟨h.1, h.2.1, h.2.2.1, h.2.2.2.below hb hB⟩
theorem LsR.below {es : List El} {ls : List Iq.Ln} (h : LsR w es ls) (hb : Below B w w') (hB : w.heap.size ≤ B) : LsR w' es ls := ⟨h.1, fun i h1 h2 => (h.2 i h1 h2).below hb hB⟩
theorem Lp.below {v : Value} {ls : List Iq.Ln} (h : Lp w v ls) (hb : Below B w w') (hB : w.heap.size ≤ B) : Lp w' v ls := by
  obtain ⟨es, h1, h2⟩ := h
  exact ⟨es, h1.below hb hB, h2.below hb hB⟩
theorem Lp.nil : Lp w (.slice none 0 0) [] := ⟨[], Sm.nil _, rfl, fun i h => absurd h (by simp)⟩
end

/-- One interrupt in a slice: its cells and its data. -/
structure At4 (w : World) (b o : Nat) (d t n : Int) (v : Value) : Prop where
  c0 : w.cell? ⟨b, o, none⟩ = some (.int .i64 d)
  c1 : w.cell? ⟨b, o + 1, none⟩ = some (.int .i64 t)
  c2 : w.cell? ⟨b, o + 2, none⟩ = some (.int .i64 n)
  c3 : w.cell? ⟨b, o + 3, none⟩ = some v

theorem at4_of {w : World} {b o : Nat} {d t n : Int} {a' : Option Addr} {m c : Nat} (h : ∀ j, j < 4 → w.cell? ⟨b, o + j, none⟩ = (el (d, t, n, a', m, c))[j]?) : At4 w b o d t n (.slice a' m c) :=
  ⟨h 0 (by omega), h 1 (by omega), h 2 (by omega), h 3 (by omega)⟩

theorem At4.below {w w' : World} {B b o : Nat} {d t n : Int} {v : Value} (h : At4 w b o d t n v) (hb : Below B w w') (hB : b < B) : At4 w' b o d t n v :=
  ⟨by rw [hb.cell (p := ⟨b, o, none⟩) hB]; exact h.c0, by rw [hb.cell (p := ⟨b, o + 1, none⟩) hB]; exact h.c1, by rw [hb.cell (p := ⟨b, o + 2, none⟩) hB]; exact h.c2, by rw [hb.cell (p := ⟨b, o + 3, none⟩) hB]; exact h.c3⟩

theorem Lp.open {w : World} {v : Value} {ls : List Iq.Ln} (h : Lp w v ls) : ∃ a cap, v = .slice a ls.length cap ∧ ls.length ≤ cap ∧ cap ≤ maxLen ∧ (a = none → cap = 0) ∧
    ∀ i (hi : i < ls.length), ∃ b off u, a = some ⟨b, off, none⟩ ∧ b < w.heap.size ∧ At4 w b (off + i * 4) ls[i].1 ls[i].2.1 ls[i].2.2.1 u ∧ Sl eb w u ls[i].2.2.2 := by
  obtain ⟨es, ⟨a, cap, h1, h2, h3, h4, h5⟩, hl, he⟩ := h
  refine ⟨a, cap, by rw [← hl]; exact h1, by omega, h3, h4, fun i hi => ?_⟩
  obtain ⟨b, off, ha, hlt, hc⟩ := h5 i (by omega)
  obtain ⟨e1, e2, e3, e4⟩ := he i (by omega) hi
  generalize es[i]'(by omega) = e at *
  obtain ⟨d, t, n, a', m, c⟩ := e
  simp only at e1 e2 e3 e4
  subst e1 e2 e3
  exact ⟨b, off, _, ha, hlt, at4_of hc, e4⟩

/-- Some of the interrupts. -/
theorem Lp.take {w : World} {a : Option Addr} {cap : Nat} {ls : List Iq.Ln} (h : Lp w (.slice a ls.length cap) ls) (k : Nat) (hk : k ≤ ls.length) : Lp w (.slice a k cap) (ls.take k) := by
  obtain ⟨es, ⟨a2, cap2, h1, h2, h3, h4, h5⟩, hl, he⟩ := h
  injection h1 with q1 q2 q3
  subst q1 q3
  refine ⟨es.take k, ⟨a, cap, by rw [List.length_take]; congr 1; omega, by rw [List.length_take]; omega, h3, h4, fun i hi => ?_⟩, by rw [List.length_take, List.length_take, hl], fun i hi hi' => ?_⟩
  · rw [List.length_take] at hi
    rw [List.getElem_take]
    exact h5 i (by omega)
  · rw [List.length_take] at hi hi'
    rw [List.getElem_take, List.getElem_take]
    exact he i (by omega) (by omega)

/-- A value of an interrupt. -/
def Lv (w : World) (v : Value) (l : Iq.Ln) : Prop := ∃ u, v = .agg #[.int .i64 l.1, .int .i64 l.2.1, .int .i64 l.2.2.1, u] ∧ Sl eb w u l.2.2.2

theorem Lv.below {w w' : World} {B : Nat} {v : Value} {l : Iq.Ln} (h : Lv w v l) (hb : Below B w w') (hB : w.heap.size ≤ B) : Lv w' v l := by
  obtain ⟨u, h1, h2⟩ := h
  exact ⟨u, h1, h2.below hb hB⟩

theorem device_w (n : Int) (w : World) : Calls Try.prog 35 #[.int .i64 n] w fun e w' => e = .returned (.bool (Iq.device n)) ∧ w = w' := by
  by_cases h1 : 1 ≤ n
  · go_enter Try.func35, Try.ntmps35
    go_wp2
    go_ret
    exact ⟨ret_bool (by unfold Iq.device; simp [h1]), rfl⟩
  · go_enter Try.func35, Try.ntmps35
    go_wp2
    go_ret
    exact ⟨ret_bool (by unfold Iq.device; simp; omega), rfl⟩

theorem rdevice_w (n : Int) (w : World) : Calls Try.prog 41 #[.int .i64 n] w fun e w' => e = .returned (.bool (Iq.device n)) ∧ w = w' := by
  by_cases h1 : 1 ≤ n
  · go_enter Try.func41, Try.ntmps41
    go_wp2
    go_ret
    exact ⟨ret_bool (by unfold Iq.device; simp [h1]), rfl⟩
  · go_enter Try.func41, Try.ntmps41
    go_wp2
    go_ret
    exact ⟨ret_bool (by unfold Iq.device; simp; omega), rfl⟩

set_option maxHeartbeats 400000 in
theorem proper_w {v : Value} {l : Iq.Ln} {w : World} (h : Lv w v l) : Calls Try.prog 27 #[v] w fun e w' => e = .returned (.bool (Iq.proper l)) ∧ Below w.heap.size w w' := by
  obtain ⟨u, rfl, a, cap, rfl, -⟩ := h
  obtain ⟨d, t, n, xs⟩ := l
  simp only
  have HP : Hid (Iq.proper (d, t, n, xs) = (Iq.device d && (decide (0 ≤ t) && decide (xs.length ≤ 128)))) := rfl
  generalize Iq.proper (d, t, n, xs) = r at *
  cases hd : Iq.device d with
  | false =>
    rw [hd] at HP
    have HD := Lib.hid (fun w => hd ▸ device_w d w)
    clear hd
    go_enter Try.func27, Try.ntmps27
    go_wp2_with (go_at_call 35; refine (HD.out _).mono ?_; rintro e w' ⟨rfl, rfl⟩)
    go_ret
    exact ⟨ret_bool HP.out.symm, (Below.refl _ _).alloc (Nat.le_refl _) _⟩
  | true =>
    rw [hd] at HP
    have HD := Lib.hid (fun w => hd ▸ device_w d w)
    clear hd
    by_cases ht : 0 ≤ t
    · go_enter Try.func27, Try.ntmps27
      go_wp2_with (go_at_call 35; refine (HD.out _).mono ?_; rintro e w' ⟨rfl, rfl⟩)
      go_ret
      exact ⟨ret_bool (by rw [HP.out]; simp [ht]; omega), (Below.refl _ _).alloc (Nat.le_refl _) _⟩
    · go_enter Try.func27, Try.ntmps27
      go_wp2_with (go_at_call 35; refine (HD.out _).mono ?_; rintro e w' ⟨rfl, rfl⟩)
      go_ret
      exact ⟨ret_bool (by rw [HP.out]; simp; omega), (Below.refl _ _).alloc (Nat.le_refl _) _⟩

set_option maxHeartbeats 400000 in
theorem rproper_w {v : Value} {l : Iq.Ln} {w : World} (h : Lv w v l) : Calls Try.prog 19 #[v] w fun e w' => e = .returned (.bool (Iq.proper l)) ∧ Below w.heap.size w w' := by
  obtain ⟨u, rfl, a, cap, rfl, -⟩ := h
  obtain ⟨d, t, n, xs⟩ := l
  simp only
  have HP : Hid (Iq.proper (d, t, n, xs) = (Iq.device d && (decide (0 ≤ t) && decide (xs.length ≤ 128)))) := rfl
  generalize Iq.proper (d, t, n, xs) = r at *
  cases hd : Iq.device d with
  | false =>
    rw [hd] at HP
    have HD := Lib.hid (fun w => hd ▸ rdevice_w d w)
    clear hd
    go_enter Try.func19, Try.ntmps19
    go_wp2_with (go_at_call 41; refine (HD.out _).mono ?_; rintro e w' ⟨rfl, rfl⟩)
    go_ret
    exact ⟨ret_bool HP.out.symm, (Below.refl _ _).alloc (Nat.le_refl _) _⟩
  | true =>
    rw [hd] at HP
    have HD := Lib.hid (fun w => hd ▸ rdevice_w d w)
    clear hd
    by_cases ht : 0 ≤ t
    · go_enter Try.func19, Try.ntmps19
      go_wp2_with (go_at_call 41; refine (HD.out _).mono ?_; rintro e w' ⟨rfl, rfl⟩)
      go_ret
      exact ⟨ret_bool (by rw [HP.out]; simp [ht]; omega), (Below.refl _ _).alloc (Nat.le_refl _) _⟩
    · go_enter Try.func19, Try.ntmps19
      go_wp2_with (go_at_call 41; refine (HD.out _).mono ?_; rintro e w' ⟨rfl, rfl⟩)
      go_ret
      exact ⟨ret_bool (by rw [HP.out]; simp; omega), (Below.refl _ _).alloc (Nat.le_refl _) _⟩
end Go.Proofs.Ytehniblcodkmaaa
