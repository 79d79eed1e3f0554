/-
  No statement is proved here: interrupts in a slice that the call owns; the walks of Clone and of both functions copied.
-/
import Derived.Test.YtehniblcodkmaaaId
import Derived.Test.YtehniblcodkmaaaByt
namespace Go.Proofs.Ytehniblcodkmaaa
open Go.RowKit

/-- The data of e do not lie in block g. -/
def Far (g : Nat) (e : El) : Prop := ∀ b off, e.2.2.2.1 = some ⟨b, off, none⟩ → e.2.2.2.2.1 ≠ 0 → b ≠ g

theorem Sl.other {w w' : World} {a : Option Addr} {m c g : Nat} {xs : List UInt8} (h : Sl eb w (.slice a m c) xs) (hf : ∀ b off, a = some ⟨b, off, none⟩ → m ≠ 0 → b ≠ g) (hk : ∀ b, b < w.heap.size → b ≠ g → w'.heap[b]? = w.heap[b]?) : Sl eb w' (.slice a m c) xs := by
  obtain ⟨a2, c2, h1, h2, h3, h4, h5⟩ := h
  injection h1 with q1 q2 q3
  subst q1 q2 q3
  refine ⟨a, c, rfl, h2, h3, h4, fun i hi => ?_⟩
  obtain ⟨b, off, ha, hlt, hc⟩ := h5 i hi
  have hb := hk b hlt (hf b off ha (by omega))
  refine ⟨b, off, ha, ?_, by rw [World.cell?_of_block (a := ⟨b, off + i, none⟩) hb]; exact hc⟩
  rw [Array.getElem?_eq_getElem hlt] at hb
  exact (Array.getElem?_eq_some_iff.1 hb).1

theorem LnR.other {w w' : World} {g : Nat} {e : El} {l : Iq.Ln} (h : LnR w e l) (hf : Far g e) (hk : ∀ b, b < w.heap.size → b ≠ g → w'.heap[b]? = w.heap[b]?) : LnR w' e l :=
  ⟨h.1, h.2.1, h.2.2.1, h.2.2.2.other hf hk⟩

theorem Far.of_low {w : World} {g : Nat} {e : El} {l : Iq.Ln} (h : LnR w e l) (hg : w.heap.size ≤ g) : Far g e := by
  intro b off ha hm e'
  obtain ⟨a2, c2, h1, _, _, _, h5⟩ := h.2.2.2
  injection h1 with q1 q2 q3
  obtain ⟨b2, off2, ha2, hlt, _⟩ := h5 0 (by omega)
  rw [← q1, ha] at ha2
  simp only [Option.some.injEq, Addr.mk.injEq, and_true] at ha2
  omega

theorem own_keep4 {w w' : World} {base n s : Nat} {e : TypeId} {v : Value} {cs : List Value} (h : w.ownsRow base e s v n cs) (hk : ∀ k, v.ownBlock = some k → w'.heap[k]? = w.heap[k]?) : w'.ownsRow base e s v n cs := by
  refine ⟨h.1, h.2.elim .inl ?_⟩
  rintro ⟨g, cap, cur, hv, hg, hb, r⟩
  exact .inr ⟨g, cap, cur, hv, hg, by rw [hk g (by rw [hv]; rfl)]; exact hb, r⟩

theorem own_slice4 {W : World} {base s : Nat} {e : TypeId} {v : Value} {n : Nat} {cs : List Value} (h : W.ownsRow base e s v n cs) : ∃ a c, v = .slice a n c := by
  rcases h.2 with ⟨h1, h2⟩ | ⟨g, c, _, h, _⟩
  · exact ⟨none, 0, by rw [h2]; exact h1⟩
  · exact ⟨_, c, h⟩

/-- v is a slice of interrupts, of element type T, that the call owns: its cells are es, and they read as ls. -/
structure Lo (w : World) (base : Nat) (T : TypeId) (v : Value) (es : List El) (ls : List Iq.Ln) : Prop where
  own : w.ownsRow base T 4 v es.length (es.flatMap el)
  rd : LsR w es ls
  far : ∀ g, v.ownBlock = some g → ∀ e ∈ es, Far g e

section
variable {w w' : World} {base : Nat} {T : TypeId} {v v' : Value} {es : List El} {ls : List Iq.Ln}
theorem Lo.low (h : Lo w base T v es ls) (hb : Below w.heap.size w w') : Lo w' base T v es ls :=
  ⟨own_keep4 h.own fun k hk => hb.block k (h.own.lt k hk).2, h.rd.below hb (Nat.le_refl _), h.far⟩
theorem Lo.lp (h : Lo w base T v es ls) : Lp w v ls := ⟨es, Sm.ofOwn el_len h.own rfl, h.rd⟩
theorem Lo.nil : Lo w base T (.slice none 0 0) [] [] := ⟨World.ownsRow_nil _ _ _ _, ⟨rfl, fun i h => absurd h (by simp)⟩, fun g h => by cases h⟩
theorem Lo.len (h : Lo w base T v es ls) : es.length = ls.length := h.rd.1

/-- A store into another block. -/
theorem Lo.other (h : Lo w base T v es ls) {g0 : Nat} (hv : v.ownBlock ≠ some g0) (hf : ∀ e ∈ es, Far g0 e) (hk : ∀ b, b ≠ g0 → w'.heap[b]? = w.heap[b]?) : Lo w' base T v es ls :=
  ⟨own_keep4 h.own fun k hk' => hk k (fun e => hv (by rw [hk', e])), ⟨h.rd.1, fun i h1 h2 => (h.rd.2 i h1 h2).other (hf _ (List.getElem_mem _)) fun b _ hb => hk b hb⟩, h.far⟩

/-- Behind an append of one. -/
theorem Lo.snoc (h : Lo w base T v es ls) {e : El} {l : Iq.Ln} (he : LnR w e l) (hf : ∀ g, v.ownBlock = some g → Far g e) (ho : w'.ownsRow base T 4 v' (es.length + 1) ((es ++ [e]).flatMap el)) (hs : Spares w w' v v') :
    Lo w' base T v' (es ++ [e]) (ls ++ [l]) := by
  have key : ∀ (x : El) (y : Iq.Ln), LnR w x y → (∀ g, v.ownBlock = some g → Far g x) → LnR w' x y ∧ ∀ g, v'.ownBlock = some g → Far g x := by
    intro x y hx hfx
    refine ⟨⟨hx.1, hx.2.1, hx.2.2.1, ?_⟩, ?_⟩
    · obtain ⟨a2, c2, h1, h2, h3, h4, h5⟩ := hx.2.2.2
      refine ⟨a2, c2, h1, h2, h3, h4, fun i hi => ?_⟩
      obtain ⟨b, off, ha, hlt, hc⟩ := h5 i hi
      have hne : v.ownBlock ≠ some b := by
        intro eb
        injection h1 with q1 q2 q3
        exact hfx b eb b off (by rw [q1, ha]) (by omega) rfl
      have hb := (hs b hlt hne).1
      refine ⟨b, off, ha, ?_, by rw [World.cell?_of_block (a := ⟨b, off + i, none⟩) hb]; exact hc⟩
      rw [Array.getElem?_eq_getElem hlt] at hb
      exact (Array.getElem?_eq_some_iff.1 hb).1
    · intro g hg b off ha hm e'
      subst e'
      obtain ⟨a2, c2, h1, _, _, _, h5⟩ := hx.2.2.2
      injection h1 with q1 q2 q3
      obtain ⟨b2, off2, ha2, hlt, _⟩ := h5 0 (by omega)
      rw [← q1, ha] at ha2
      simp only [Option.some.injEq, Addr.mk.injEq, and_true] at ha2
      obtain ⟨rfl, rfl⟩ := ha2
      by_cases hv : v.ownBlock = some b
      · exact hfx b hv b off ha hm rfl
      · exact (hs b hlt hv).2 hg
  refine ⟨by rw [List.length_append]; exact ho, ⟨by simp [h.rd.1], fun i hi hi' => ?_⟩, fun g hg x hx => ?_⟩
  · by_cases hlt : i < es.length
    · rw [List.getElem_append_left hlt, List.getElem_append_left (by have := h.rd.1; omega)]
      exact (key _ _ (h.rd.2 i hlt (by have := h.rd.1; omega)) fun g hg => h.far g hg _ (List.getElem_mem hlt)).1
    · have h1 : i = es.length := by simp at hi; omega
      subst h1
      have h2 : (ls ++ [l])[es.length]'hi' = l := by simp [h.rd.1]
      rw [h2]
      simpa using (key e l he hf).1
  · rcases List.mem_append.1 hx with hx | hx
    · obtain ⟨i, hi, rfl⟩ := List.getElem_of_mem hx
      exact (key _ _ (h.rd.2 i hi (by have := h.rd.1; omega)) fun g hg => h.far g hg _ (List.getElem_mem hi)).2 g hg
    · simp at hx
      subst hx
      exact (key x l he hf).2 g hg

/-- Behind a store of a whole element. -/
theorem Lo.set {g n cap : Nat} (h : Lo w base T (.slice (some ⟨g, 0, none⟩) n cap) es ls) (hn : n = es.length) (k : Nat) (_ : k < es.length) {d t a : Int} {ad : Option Addr} {m c : Nat} {l : Iq.Ln} (he : LnR w (d, t, a, ad, m, c) l) (hf : Far g (d, t, a, ad, m, c)) :
    Lo ((((w.setCell ⟨g, k * 4, none⟩ (.int .i64 d)).setCell ⟨g, k * 4 + 1, none⟩ (.int .i64 t)).setCell ⟨g, k * 4 + 2, none⟩ (.int .i64 a)).setCell ⟨g, k * 4 + 3, none⟩ (.slice ad m c)) base T (.slice (some ⟨g, 0, none⟩) n cap) (es.set k (d, t, a, ad, m, c)) (ls.set k l) := by
  subst hn
  have hkeep : ∀ b, b < w.heap.size → b ≠ g → ((((w.setCell ⟨g, k * 4, none⟩ (.int .i64 d)).setCell ⟨g, k * 4 + 1, none⟩ (.int .i64 t)).setCell ⟨g, k * 4 + 2, none⟩ (.int .i64 a)).setCell ⟨g, k * 4 + 3, none⟩ (.slice ad m c)).heap[b]? = w.heap[b]? := by
    intro b _ hb
    rw [Below.heap_setCell _ _ _ _ hb, Below.heap_setCell _ _ _ _ hb, Below.heap_setCell _ _ _ _ hb, Below.heap_setCell _ _ _ _ hb]
  refine ⟨?_, ⟨by simp [h.rd.1], fun i hi hi' => ?_⟩, fun g' hg' x hx => ?_⟩
  · have h1 := (((h.own.stored (k * 4) (.int .i64 d)).1.stored (k * 4 + 1) (.int .i64 t)).1.stored (k * 4 + 2) (.int .i64 a)).1.stored (k * 4 + 3) (.slice ad m c)
    have h2 := h1.1
    have e : (es.set k (d, t, a, ad, m, c)).flatMap el = ((((es.flatMap el).set (k * 4) (.int .i64 d)).set (k * 4 + 1) (.int .i64 t)).set (k * 4 + 2) (.int .i64 a)).set (k * 4 + 3) (.slice ad m c) := by
      apply List.ext_getElem?
      intro i
      have hL : (es.flatMap el).length = es.length * 4 := flat_len el_len es
      by_cases hi : i < es.length * 4
      · have hq : i / 4 < es.length := by omega
        have hr : i % 4 < 4 := Nat.mod_lt _ (by omega)
        have hi2 : i = i / 4 * 4 + i % 4 := by omega
        generalize i / 4 = q at *
        generalize i % 4 = r at *
        subst hi2
        rw [flat_get el_len _ q r (by simpa using hq) hr]
        by_cases hqk : k = q
        · subst hqk
          rw [List.getElem_set_self]
          match r, hr with
          | 0, _ => simp [el, List.getElem?_set, hL]; omega
          | 1, _ => simp [el, List.getElem?_set, hL]; omega
          | 2, _ => simp [el, List.getElem?_set, hL]; omega
          | 3, _ => simp [el, List.getElem?_set, hL]; omega
        · rw [List.getElem_set_ne hqk, ← flat_get el_len es q r hq hr]
          rw [List.getElem?_set_ne (by omega), List.getElem?_set_ne (by omega), List.getElem?_set_ne (by omega), List.getElem?_set_ne (by omega)]
      · rw [List.getElem?_eq_none (by rw [flat_len el_len, List.length_set]; omega), List.getElem?_eq_none (by simp only [List.length_set]; omega)]
    rw [List.length_set, e]
    exact h2
  · rw [List.getElem_set, List.getElem_set]
    by_cases e : k = i
    · rw [if_pos e, if_pos e]
      exact he.other hf hkeep
    · rw [if_neg e, if_neg e]
      exact (h.rd.2 i (by simpa using hi) (by simpa using hi')).other (h.far g rfl _ (List.getElem_mem _)) hkeep
  · have : g' = g := by simp [Value.ownBlock] at hg'; omega
    subst this
    rcases List.mem_or_eq_of_mem_set hx with hx | rfl
    · exact h.far g' rfl x hx
    · exact hf
end

/-- v reads as ls, and nothing that is read lies in a block below B. -/
def LpF (B : Nat) (w : World) (v : Value) (ls : List Iq.Ln) : Prop :=
  ∃ es, Sm 4 el w v es ∧ LsR w es ls ∧ (∀ b off n c, v = .slice (some ⟨b, off, none⟩) n c → n ≠ 0 → B ≤ b) ∧ ∀ e ∈ es, ∀ g, g < B → Far g e

section
variable {w w' : World} {B : Nat} {v : Value} {ls : List Iq.Ln}
theorem LpF.lp (h : LpF B w v ls) : Lp w v ls := by
  obtain ⟨es, h1, h2, _⟩ := h
  exact ⟨es, h1, h2⟩
theorem LpF.nil : LpF B w (.slice none 0 0) [] := ⟨[], Sm.nil _, ⟨rfl, fun i h => absurd h (by simp)⟩, (fun b off n c h => by cases h), by simp⟩
theorem Lo.lpf {base : Nat} {T : TypeId} {es : List El} (h : Lo w base T v es ls) (hB : B ≤ base) (hf : ∀ e ∈ es, ∀ g, g < B → Far g e) : LpF B w v ls :=
  ⟨es, Sm.ofOwn el_len h.own rfl, h.rd, (fun b off n c hv _ => by
    have := (h.own.lt b (by rw [hv]; rcases h.own.2 with ⟨h1, _⟩ | ⟨g, c2, _, h1, _⟩ <;> rw [hv] at h1 <;> simp at h1; obtain ⟨⟨rfl, rfl⟩, _⟩ := h1; rfl)).1
    omega), hf⟩

/-- What lies below B may change. -/
theorem LpF.keep (h : LpF B w v ls) (hk : ∀ b, B ≤ b → b < w.heap.size → w'.heap[b]? = w.heap[b]?) : LpF B w' v ls := by
  obtain ⟨es, ⟨a, c, rfl, h2, h3, h4, h5⟩, hr, ha, hf⟩ := h
  refine ⟨es, ⟨a, c, rfl, h2, h3, h4, fun i hi => ?_⟩, ⟨hr.1, fun i h1 h1' => ?_⟩, ha, hf⟩
  · obtain ⟨b, off, e, hlt, hc⟩ := h5 i hi
    subst e
    have hb := hk b (ha b off _ _ rfl (by omega)) hlt
    refine ⟨b, off, rfl, ?_, fun j hj => by rw [World.cell?_of_block (a := ⟨b, off + i * 4 + j, none⟩) hb]; exact hc j hj⟩
    rw [Array.getElem?_eq_getElem hlt] at hb
    exact (Array.getElem?_eq_some_iff.1 hb).1
  · obtain ⟨e1, e2, e3, a2, c2, q1, q2, q3, q4, q5⟩ := hr.2 i h1 h1'
    refine ⟨e1, e2, e3, a2, c2, q1, q2, q3, q4, fun j hj => ?_⟩
    obtain ⟨b, off, e, hlt, hc⟩ := q5 j hj
    injection q1 with r1 r2 r3
    have hBb : B ≤ b := by
      rcases Nat.lt_or_ge b B with hb | hb
      · exact absurd rfl (hf _ (List.getElem_mem h1) b hb b off (by rw [r1, e]) (by omega))
      · exact hb
    have hb := hk b hBb hlt
    refine ⟨b, off, e, ?_, by rw [World.cell?_of_block (a := ⟨b, off + j, none⟩) hb]; exact hc⟩
    rw [Array.getElem?_eq_getElem hlt] at hb
    exact (Array.getElem?_eq_some_iff.1 hb).1

theorem LpF.set {p : Addr} (h : LpF B w v ls) (hp : p.block < B) (u : Value) : LpF B (w.setCell p u) v ls := h.keep fun b hb _ => Below.heap_setCell _ _ _ _ (by omega)
end
end Go.Proofs.Ytehniblcodkmaaa
