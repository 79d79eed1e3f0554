/-
  No statement is proved here: how the writes of a journal lie in memory; the walks of home and short.
-/
import Derived.Test.YtcbgablnbgpjdaaRows
import Derived.Test.YtcbgablnbgpjdaaMulti
import Derived.Test.YtcbgablnbgpjdaaKeeps
import Derived.Test.YtcbgablnbgpjdaaAv
import Derived.Test.YtcbgablnbgpjdaaSpec
import Derived.Deep.DeepCutAuto
namespace Go.Proofs.Ytcbgablnbgpjdaa
open Go.RowKit

/-- The cells of a write: an int and a slice. -/
abbrev Ew := Int × Option Addr × Nat × Nat
def ew (e : Ew) : List Value := [.int .i64 e.1, .slice e.2.1 e.2.2.1 e.2.2.2]
theorem ew_len (e : Ew) : (ew e).length = 2 := rfl
theorem ew_one (e : Ew) : ∀ u ∈ ew e, u.oneCell' = true := by intro u hu; simp [ew] at hu; rcases hu with rfl | rfl <;> rfl

/-- e reads as x. -/
def WrR (w : World) (e : Ew) (x : Jr.Wr) : Prop := e.1 = x.1 ∧ Sl eb w (.slice e.2.1 e.2.2.1 e.2.2.2) x.2
def WsR (w : World) (es : List Ew) (ls : List Jr.Wr) : Prop := es.length = ls.length ∧ ∀ i (h : i < es.length) (h' : i < ls.length), WrR w es[i] ls[i]
/-- v is a slice of writes that reads as ls. -/
def Wp (w : World) (v : Value) (ls : List Jr.Wr) : Prop := ∃ es, Sm 2 ew w v es ∧ WsR w es ls

section
variable {w w' : World} {B : Nat}
theorem WrR.keep {e : Ew} {x : Jr.Wr} (h : WrR w e x) (hk : ∀ b, b < w.heap.size → w'.heap[b]? = w.heap[b]?) : WrR w' e x := ⟨h.1, h.2.keep hk⟩
theorem WrR.below {e : Ew} {x : Jr.Wr} (h : WrR w e x) (hb : Below B w w') (hB : w.heap.size ≤ B) : WrR w' e x := ⟨h.1, h.2.below hb hB⟩
theorem WsR.keep {es : List Ew} {ls : List Jr.Wr} (h : WsR w es ls) (hk : ∀ b, b < w.heap.size → w'.heap[b]? = w.heap[b]?) : WsR w' es ls := ⟨h.1, fun i h1 h2 => (h.2 i h1 h2).keep hk⟩
theorem WsR.below {es : List Ew} {ls : List Jr.Wr} (h : WsR w es ls) (hb : Below B w w') (hB : w.heap.size ≤ B) : WsR w' es ls := ⟨h.1, fun i h1 h2 => (h.2 i h1 h2).below hb hB⟩
theorem WsR.nil : WsR w [] [] := ⟨rfl, fun i h => absurd h (by simp)⟩
theorem WsR.snoc {es : List Ew} {ls : List Jr.Wr} (h : WsR w es ls) {e : Ew} {x : Jr.Wr} (hx : WrR w e x) : WsR w (es ++ [e]) (ls ++ [x]) := by
  refine ⟨by simp [h.1], fun i h1 h2 => ?_⟩
  by_cases hi : i < es.length
  · rw [List.getElem_append_left hi, List.getElem_append_left (by rw [← h.1]; exact hi)]
    exact h.2 i hi (by rw [← h.1]; exact hi)
  · have e1 : i = es.length := by simp at h1; omega
    subst e1
    rw [List.getElem_append_right (Nat.le_refl _), List.getElem_append_right (by rw [h.1]; exact Nat.le_refl _)]
    simpa using hx
theorem Wp.keep {v : Value} {ls : List Jr.Wr} (h : Wp w v ls) (hk : ∀ b, b < w.heap.size → w'.heap[b]? = w.heap[b]?) : Wp w' v ls := by
  obtain ⟨es, h1, h2⟩ := h
  exact ⟨es, h1.keep hk, h2.keep hk⟩
theorem Wp.below {v : Value} {ls : List Jr.Wr} (h : Wp w v ls) (hb : Below B w w') (hB : w.heap.size ≤ B) : Wp w' v ls := h.keep fun b hl => hb.block b (by omega)
theorem Wp.nil : Wp w (.slice none 0 0) [] := ⟨[], Sm.nil _, rfl, fun i h => absurd h (by simp)⟩
theorem Wp.slice {v : Value} {ls : List Jr.Wr} (h : Wp w v ls) : ∃ a c, v = .slice a ls.length c := by
  obtain ⟨es, ⟨a, c, h1, -⟩, hl, -⟩ := h
  exact ⟨a, c, by rw [h1, hl]⟩
end

/-- One write in a slice: its cells. -/
structure At2 (w : World) (b o : Nat) (n : Int) (v : Value) : Prop where
  c0 : w.cell? ⟨b, o, none⟩ = some (.int .i64 n)
  c1 : w.cell? ⟨b, o + 1, none⟩ = some v

theorem At2.below {w w' : World} {B b o : Nat} {n : Int} {v : Value} (h : At2 w b o n v) (hb : Below B w w') (hB : b < B) : At2 w' b o n v :=
  ⟨by rw [hb.cell (p := ⟨b, o, none⟩) hB]; exact h.c0, by rw [hb.cell (p := ⟨b, o + 1, none⟩) hB]; exact h.c1⟩

theorem Wp.open {w : World} {v : Value} {ls : List Jr.Wr} (h : Wp w v ls) : ∃ a cap, v = .slice a ls.length cap ∧ ls.length ≤ cap ∧ cap ≤ maxLen ∧ (a = none → cap = 0) ∧
    ∀ i (hi : i < ls.length), ∃ b off a' c', a = some ⟨b, off, none⟩ ∧ b < w.heap.size ∧ At2 w b (off + i * 2) ls[i].1 (.slice a' ls[i].2.length c') ∧ Sl eb w (.slice a' ls[i].2.length c') ls[i].2 := by
  obtain ⟨es, ⟨a, cap, h1, h2, h3, h4, h5⟩, hl, he⟩ := h
  refine ⟨a, cap, by rw [← hl]; exact h1, by omega, h3, h4, fun i hi => ?_⟩
  obtain ⟨b, off, ha, hlt, hc⟩ := h5 i (by omega)
  obtain ⟨e1, e2⟩ := he i (by omega) hi
  generalize es[i]'(by omega) = e at *
  obtain ⟨n, a', m, c⟩ := e
  simp only at e1 e2
  subst e1
  obtain ⟨a2, c2, q, -⟩ := id e2
  injection q with q1 q2 q3
  subst q1 q2 q3
  exact ⟨b, off, _, _, ha, hlt, ⟨hc 0 (by omega), hc 1 (by omega)⟩, e2⟩

theorem Wp.take {w : World} {a : Option Addr} {cap : Nat} {ls : List Jr.Wr} (h : Wp w (.slice a ls.length cap) ls) (k : Nat) (hk : k ≤ ls.length) : Wp w (.slice a k cap) (ls.take k) := by
  obtain ⟨es, ⟨a2, cap2, h1, h2, h3, h4, h5⟩, hl, he⟩ := h
  injection h1 with q1 q2 q3
  subst q1 q3
  refine ⟨es.take k, ⟨a, cap, by rw [List.length_take]; congr 1; omega, by rw [List.length_take]; omega, h3, h4, fun i hi => ?_⟩, by rw [List.length_take, List.length_take, hl], fun i hi hi' => ?_⟩
  · rw [List.length_take] at hi
    rw [List.getElem_take]
    exact h5 i (by omega)
  · rw [List.length_take] at hi hi'
    rw [List.getElem_take, List.getElem_take]
    exact he i (by omega) (by omega)

/-- A slice of writes that the call owns; the bytes do not hang on the row's block, nor on the blocks of L. -/
def Wo (B : Nat) (T : TypeId) (L : List Nat) (w : World) (v : Value) (ls : List Jr.Wr) : Prop :=
  ∃ es : List Ew, w.ownsRow B T 2 v es.length (es.flatMap ew) ∧ Av (Bx L v) (fun W => WsR W es ls) w

section
variable {w w' : World} {B : Nat} {T : TypeId} {L : List Nat} {v v' : Value} {ls : List Jr.Wr}
theorem own2_keep {n s : Nat} {e : TypeId} {cs : List Value} (h : w.ownsRow B e s v n cs) (hk : ∀ k, v.ownBlock = some k → w'.heap[k]? = w.heap[k]?) : w'.ownsRow B e s v n cs := by
  refine ⟨h.1, h.2.elim .inl ?_⟩
  rintro ⟨g, cap, cur, hv, hg, hb, r⟩
  exact .inr ⟨g, cap, cur, hv, hg, by rw [hk g (by rw [hv]; rfl)]; exact hb, r⟩
theorem Wo.below (h : Wo B T L w v ls) (hb : Below w.heap.size w w') : Wo B T L w' v ls := by
  obtain ⟨es, h1, h2⟩ := h
  exact ⟨es, own2_keep h1 fun k hk => hb.block k (h1.lt k hk).2, h2.below hb⟩
theorem Wo.wp (h : Wo B T L w v ls) : Wp w v ls := by
  obtain ⟨es, h1, h2⟩ := h
  exact ⟨es, Sm.ofOwn ew_len h1 rfl, h2.here⟩
theorem Wo.nil : Wo B T L w (.slice none 0 0) [] := ⟨[], World.ownsRow_nil _ _ _ _, Av.mono (Av.pure (X := _) trivial) fun _ _ => WsR.nil⟩
theorem Wo.set (h : Wo B T L w v ls) {b : Nat} (hb : b ∈ L) (hv : v.ownBlock ≠ some b) (i : Nat) (u : Value) : Wo B T L (w.setCell ⟨b, i, none⟩ u) v ls := by
  obtain ⟨es, h1, h2⟩ := h
  exact ⟨es, own2_keep h1 fun k hk => Below.heap_setCell _ _ _ _ (fun e => hv (by rw [hk]; exact congrArg some e)), h2.set (.inl hb) u⟩
theorem Wo.slice (h : Wo B T L w v ls) : ∃ a c, v = .slice a ls.length c ∧ ls.length ≤ c ∧ c ≤ maxLen := by
  obtain ⟨a, c, h1, h2, h3, -⟩ := h.wp.open
  exact ⟨a, c, h1, h2, h3⟩
theorem Wo.less {L' : List Nat} (h : Wo B T L w v ls) (hl : ∀ b ∈ L', b ∈ L) : Wo B T L' w v ls := by
  obtain ⟨es, h1, h2⟩ := h
  exact ⟨es, h1, h2.less fun b _ hb => hb.elim (fun h => .inl (hl b h)) .inr⟩
end

theorem jhome_w (n : Int) (w : World) : Calls Try.prog 39 #[.int .i64 n] w fun e w' => e = .returned (.bool (Jr.home n)) ∧ w = w' := by
  have HE : Hid (Jr.home n = (decide (0 ≤ n) && (decide (n < 96) && (decide (n < 1) || decide (12 < n))))) := rfl
  generalize Jr.home n = r at *
  by_cases h1 : 0 ≤ n
  · by_cases h2 : n < 96
    · by_cases h3 : n < 1
      · go_enter Try.func39, Try.ntmps39
        go_wp2
        go_ret
        exact ⟨ret_bool (by rw [HE.out]; simp; omega), rfl⟩
      · go_enter Try.func39, Try.ntmps39
        go_wp2
        go_ret
        exact ⟨ret_bool (by rw [HE.out]; simp [h1, h2]; omega), rfl⟩
    · go_enter Try.func39, Try.ntmps39
      go_wp2
      go_ret
      exact ⟨ret_bool (by rw [HE.out]; simp; omega), rfl⟩
  · go_enter Try.func39, Try.ntmps39
    go_wp2
    go_ret
    exact ⟨ret_bool (by rw [HE.out]; simp; omega), rfl⟩

set_option maxHeartbeats 800000 in
theorem short_w {v : Value} {ls : List Jr.Wr} {w : World} (h : Wp w v ls) : Calls Try.prog 12 #[v] w fun e w' => e = .returned (.bool (Jr.short ls)) ∧ w = w' := by
  obtain ⟨a, cap, rfl, h1, h2, h3, he⟩ := h.open
  have HEL := Lib.hid he
  have HS : Hid (Jr.short ls = (decide (∀ w ∈ ls, w.2.length ≤ 300) && decide (ls.length ≤ 20))) := rfl
  unfold maxLen at h2
  clear he h
  generalize Jr.short ls = r at *
  go_enter Try.func12, Try.ntmps12
  go_wp2
  go_loopw [3, 6] (fun _ i wr => ∃ k : Nat, i = .int .i64 k ∧ k ≤ ls.length ∧ Hid (∀ j (hj : j < ls.length), j < k → ls[j].2.length ≤ 300) ∧ w = wr) (fun _ i _ => ls.length - (intOf i).toNat)
  case atStart => exact ⟨0, rfl, Nat.zero_le _, fun j _ hj => absurd hj (Nat.not_lt_zero _), rfl⟩
  case round =>
    obtain ⟨k, rfl, hk, HN, rfl⟩ := hrel
    by_cases hlt : k < ls.length
    · obtain ⟨b, off, a', c', rfl, hbl, ⟨x0, x1⟩, -⟩ := HEL.out k hlt
      have f1 : (0 : Int) ≤ (k : Int) := by omega
      have f2 : (k : Int) < (ls.length : Int) := by omega
      by_cases h300 : ls[k].2.length ≤ 300
      · have f3 : ¬ (300 : Int) < (ls[k].2.length : Int) := by omega
        have HG : Hid (∀ j (hj : j < ls.length), j < k + 1 → ls[j].2.length ≤ 300) := fun j hj hjk => by
          by_cases e : j = k
          · subst e; exact h300
          · exact HN.out j hj (by omega)
        clear h300
        generalize ls[k].2.length = m at *
        go_wp2
        go_roundw
        case rel => exact ⟨k + 1, by go_num, by omega, HG, trivial⟩
        case measure => simp [intOf]; omega
      · have f3 : (300 : Int) < (ls[k].2.length : Int) := by omega
        have HG : Hid (decide (∀ w ∈ ls, w.2.length ≤ 300) = false) := by
          show _ = _
          rw [decide_eq_false_iff_not]
          exact fun h => h300 (h _ (List.getElem_mem hlt))
        clear h300
        generalize ls[k].2.length = m at *
        go_wp2
        go_ret
        exact ⟨ret_bool (by rw [HS.out, HG.out, Bool.false_and]), rfl⟩
    · have HG : Hid (decide (∀ w ∈ ls, w.2.length ≤ 300) = true) := by
        show _ = _
        rw [decide_eq_true_iff]
        intro x hx
        obtain ⟨i, hi, rfl⟩ := List.getElem_of_mem hx
        exact HN.out i hi (by omega)
      by_cases h20 : ls.length ≤ 20
      · go_wp2
        go_ret
        exact ⟨ret_bool (by rw [HS.out, HG.out, Bool.true_and]; simp <;> omega), rfl⟩
      · go_wp2
        go_ret
        exact ⟨ret_bool (by rw [HS.out, HG.out, Bool.true_and]; simp <;> omega), rfl⟩
end Go.Proofs.Ytcbgablnbgpjdaa
