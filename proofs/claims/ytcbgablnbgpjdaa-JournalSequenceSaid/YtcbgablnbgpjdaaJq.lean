/-
  No statement is proved here: a copy into a part of a row of bytes that the call owns; what it leaves (plain).
-/
import Derived.Test.YtcbgablnbgpjdaaJp
namespace Jr
theorem app_snoc (d : List UInt8) (l : List Wr) (w : Wr) : app d (l ++ [w]) = put (app d l) (w.1.toNat * 128) w.2 := by
  induction l generalizing d with
  | nil => rfl
  | cons x l ih => exact ih _
theorem app_take (d : List UInt8) (l : List Wr) (k : Nat) (hk : k < l.length) : app d (l.take (k + 1)) = put (app d (l.take k)) (l[k].1.toNat * 128) l[k].2 := by
  rw [List.take_succ_eq_append_getElem hk, app_snoc]
theorem put_len (d : List UInt8) (p : Nat) (s : List UInt8) (h : p + s.length ≤ d.length) : (put d p s).length = d.length := by
  unfold put
  rw [List.length_append, List.length_append, List.length_take, List.length_drop]
  omega
end Jr
namespace Go.Proofs.Ytcbgablnbgpjdaa
open Go.RowKit

theorem splice_put (xs ys : List UInt8) (off : Nat) : splice (xs.map eb) off (ys.map eb) = (Jr.put xs off ys).map eb := by
  unfold splice Jr.put
  rw [List.map_append, List.map_append, List.map_take, List.map_drop, List.length_map]
  simp only [List.append_assoc]

theorem splice_take {α : Type} (L cs : List α) (off n : Nat) (h : off + cs.length ≤ n) (hn : n ≤ L.length) : (splice L off cs).take n = splice (L.take n) off cs := by
  apply List.ext_getElem?
  intro j
  rw [List.getElem?_take, splice_get _ _ _ (by omega), splice_get _ _ _ (by rw [List.length_take]; omega)]
  simp only [List.getElem?_take]
  by_cases h1 : j < n
  · simp only [if_pos h1]
  · rw [if_neg h1, if_neg (by omega), if_neg (by omega), if_neg h1]

/-- The row's block, known whole. -/
theorem own_bk' {w : World} {base g n cap : Nat} {e : TypeId} {cs : List Value} (h : w.ownsRow base e 1 (.slice (some ⟨g, 0, none⟩) n cap) n cs) : base ≤ g ∧ n ≤ cap ∧ cap ≤ maxLen ∧ ∃ cur : List Value, Bk w g e cur ∧ cur.length = cap ∧ cur.take n = cs := by
  rcases h.2 with ⟨h1, -⟩ | ⟨g', cap', cur, h1, h2, h3, h4, h5, h6, h7⟩
  · simp at h1
  · simp only [Value.slice.injEq, Option.some.injEq, Addr.mk.injEq, and_true, true_and] at h1
    obtain ⟨rfl, rfl⟩ := h1
    exact ⟨h2, h4, h5, cur.toList, h3, by simpa using h6, by simpa using h7⟩
theorem bk_own {w : World} {base g n cap : Nat} {e : TypeId} {cur : List Value} (hb : base ≤ g) (hn : n ≤ cap) (hc : cap ≤ maxLen) (h : Bk w g e cur) (hl : cur.length = cap) : w.ownsRow base e 1 (.slice (some ⟨g, 0, none⟩) n cap) n (cur.take n) :=
  ⟨by rw [List.length_take]; omega, .inr ⟨g, cap, cur.toArray, rfl, hb, h, hn, hc, by simpa using hl, by simp⟩⟩

section
variable {P : Program} {w : World} {ops : Array Oper} {rest : List Oper} {o : Oper} {a : Act} {Q : Exit → Act → World → Prop}
/-- `copy(out[off:off+m], src)`, out the call's own. -/
theorem wp_copy_own8 {K : Act → World → Prop} (d s : Operand) (dT sT : TypeId) (ho : o.op = .call { callee := .builtin .copy, args := #[d, s], argTypes := #[dT, sT] }) (e : TypeId) (hu : P.underlying dT = some (.slice e)) (hsz : (P.info? e).map (·.size) = some 1)
    (base g n cap : Nat) (xs : List UInt8) (hown : w.ownsRow base e 1 (.slice (some ⟨g, 0, none⟩) n cap) n (xs.map eb)) (off m dCap : Nat) (hd : a.eval d = .slice (some ⟨g, off, none⟩) m dCap) (hfit : off + m ≤ n)
    (u : Value) (ys : List UInt8) (hs : a.eval s = u) (hsl : Sl eb w u ys)
    (h : ∀ w', w'.ownsRow base e 1 (.slice (some ⟨g, 0, none⟩) n cap) n ((Jr.put xs off (ys.take m)).map eb) → w.grownBy w' (some g) → K (a.put o.dst (goInt (Nat.min ys.length m))) w') : o.wp P a w K Q := by
  obtain ⟨hbg, hnc, hcm, cur, hbk, hcl, hct⟩ := own_bk' hown
  obtain ⟨sp, c, rfl, h1, h2, h3, h4⟩ := hsl
  have hm1 : Nat.min ys.length m ≤ m := Nat.min_le_right ys.length m
  refine wp_copy_rd eb (fun _ => rfl) d s dT sT ho e hu hsz (some ⟨g, off, none⟩) g off m dCap sp ys ys.length c (Nat.min ys.length m) hd hs rfl rfl (fun _ => rfl) h4 cur e hbk (by omega) ?_
  intro w' hb' hg'
  refine h w' ?_ hg'
  have hl3 : (ys.take (Nat.min ys.length m)).length = Nat.min ys.length m := by rw [List.length_take]; exact Nat.min_eq_left (Nat.min_le_left _ _)
  have hl2 : (splice cur off ((ys.take (Nat.min ys.length m)).map eb)).length = cap := by
    unfold splice
    rw [List.length_append, List.length_append, List.length_take, List.length_drop, List.length_map, hl3]
    omega
  have hz := bk_own (n := n) hbg hnc hcm hb' hl2
  have ht : ys.take (Nat.min ys.length m) = ys.take m := by
    by_cases h : m ≤ ys.length
    · rw [show Nat.min ys.length m = m from Nat.min_eq_right h]
    · rw [show Nat.min ys.length m = ys.length from Nat.min_eq_left (by omega), List.take_of_length_le (Nat.le_refl _), List.take_of_length_le (by omega)]
  rw [splice_take _ _ _ _ (by rw [List.length_map, hl3]; omega) (by omega), hct, splice_put, ht] at hz
  exact hz

theorem wpList_copy_own8 (hgd : o.guard = none) (d s : Operand) (dT sT : TypeId) (ho : o.op = .call { callee := .builtin .copy, args := #[d, s], argTypes := #[dT, sT] }) (e : TypeId) (hu : P.underlying dT = some (.slice e)) (hsz : (P.info? e).map (·.size) = some 1)
    (base g n cap : Nat) (xs : List UInt8) (hown : w.ownsRow base e 1 (.slice (some ⟨g, 0, none⟩) n cap) n (xs.map eb)) (off m dCap : Nat) (hd : a.eval d = .slice (some ⟨g, off, none⟩) m dCap) (hfit : off + m ≤ n)
    (u : Value) (ys : List UInt8) (hs : a.eval s = u) (hsl : Sl eb w u ys)
    (h : ∀ w', w'.ownsRow base e 1 (.slice (some ⟨g, 0, none⟩) n cap) n ((Jr.put xs off (ys.take m)).map eb) → w.grownBy w' (some g) → wpList P ops Q rest (a.put o.dst (goInt (Nat.min ys.length m))) w') : wpList P ops Q (o :: rest) a w :=
  wpList_plain hgd fun _ hK => wp_copy_own8 d s dT sT ho e hu hsz base g n cap xs hown off m dCap hd hfit u ys hs hsl fun w' h1 h2 => hK _ _ (h w' h1 h2)

theorem step_copy_own8 {K : Act → World → Prop} {E : Prop} (hgd : o.guard = none) (d s : Operand) (dT sT : TypeId) (ho : o.op = .call { callee := .builtin .copy, args := #[d, s], argTypes := #[dT, sT] }) (e : TypeId) (hu : P.underlying dT = some (.slice e)) (hsz : (P.info? e).map (·.size) = some 1)
    (base g n cap : Nat) (xs : List UInt8) (hown : w.ownsRow base e 1 (.slice (some ⟨g, 0, none⟩) n cap) n (xs.map eb)) (off m dCap : Nat) (hd : a.eval d = .slice (some ⟨g, off, none⟩) m dCap) (hfit : off + m ≤ n)
    (u : Value) (ys : List UInt8) (hs : a.eval s = u) (hsl : Sl eb w u ys)
    (h : ∀ w', w'.ownsRow base e 1 (.slice (some ⟨g, 0, none⟩) n cap) n ((Jr.put xs off (ys.take m)).map eb) → w.grownBy w' (some g) → K (a.put o.dst (goInt (Nat.min ys.length m))) w') :
    if Region.wanted o (yielded ops a.tmps) = true then Oper.wp P o a w K Q else E := by
  have hw : Region.wanted o (yielded ops a.tmps) = true := by simp [Region.wanted, hgd]
  rw [if_pos hw]
  exact wp_copy_own8 d s dT sT ho e hu hsz base g n cap xs hown off m dCap hd hfit u ys hs hsl h
end
end Go.Proofs.Ytcbgablnbgpjdaa
