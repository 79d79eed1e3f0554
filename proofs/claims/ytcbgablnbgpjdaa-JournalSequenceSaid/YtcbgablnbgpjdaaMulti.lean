/-
  No statement is proved here: words for slices whose elements have several cells (structs): a slice reads as a list; append; one field set.
-/
import Derived.Test.YtcbgablnbgpjdaaMem
namespace Go.Proofs.Ytcbgablnbgpjdaa
open Go.RowKit

section
variable {α : Type} {s : Nat} {enc : α → List Value}

theorem flat_len (hs : ∀ x, (enc x).length = s) : ∀ xs : List α, (xs.flatMap enc).length = xs.length * s
  | [] => by simp
  | x :: r => by rw [List.flatMap_cons, List.length_append, flat_len hs r, hs, List.length_cons, Nat.add_mul]; omega

theorem flat_get (hs : ∀ x, (enc x).length = s) : ∀ (xs : List α) (i j : Nat) (hi : i < xs.length), j < s → (xs.flatMap enc)[i * s + j]? = (enc xs[i])[j]?
  | [], i, j, hi, _ => absurd hi (by simp)
  | x :: r, 0, j, _, hj => by
    rw [List.flatMap_cons, Nat.zero_mul, Nat.zero_add, List.getElem?_append_left (by rw [hs]; exact hj)]
    rfl
  | x :: r, i + 1, j, hi, hj => by
    rw [List.flatMap_cons, List.getElem?_append_right (by rw [hs, Nat.add_mul]; omega), hs, show (i + 1) * s + j - s = i * s + j by rw [Nat.add_mul]; omega, flat_get hs r i j (by simpa using hi) hj]
    rfl

theorem flat_set (hs : ∀ x, (enc x).length = s) : ∀ (xs : List α) (k j : Nat) (hk : k < xs.length) (y : α) (v : Value), j < s → enc y = (enc xs[k]).set j v → (xs.set k y).flatMap enc = (xs.flatMap enc).set (k * s + j) v
  | [], k, j, hk, _, _, _, _ => absurd hk (by simp)
  | x :: r, 0, j, _, y, v, hj, he => by
    rw [List.set_cons_zero, List.flatMap_cons, List.flatMap_cons, Nat.zero_mul, Nat.zero_add, List.set_append_left _ _ (by rw [hs]; exact hj), he]
    rfl
  | x :: r, k + 1, j, hk, y, v, hj, he => by
    rw [List.set_cons_succ, List.flatMap_cons, List.flatMap_cons, List.set_append_right _ _ (by rw [hs, Nat.add_mul]; omega), hs, show (k + 1) * s + j - s = k * s + j by rw [Nat.add_mul]; omega, flat_set hs r k j (by simpa using hk) y v hj he]

/-- The address leads to rows of s cells that read as xs. -/
def Rm (s : Nat) (enc : α → List Value) (w : World) (a : Option Addr) (xs : List α) : Prop :=
  ∀ i (h : i < xs.length), ∃ b off, a = some ⟨b, off, none⟩ ∧ b < w.heap.size ∧ ∀ j, j < s → w.cell? ⟨b, off + i * s + j, none⟩ = (enc xs[i])[j]?

theorem Rm.nil (w : World) (a : Option Addr) : Rm s enc w a [] := fun i h => absurd h (by simp)

theorem Rm.keep {w w' : World} {a : Option Addr} {xs : List α} (h : Rm s enc w a xs) (hk : ∀ b, b < w.heap.size → w'.heap[b]? = w.heap[b]?) : Rm s enc w' a xs := by
  intro i hi
  obtain ⟨b, off, ha, hlt, hc⟩ := h i hi
  have hb := hk b hlt
  refine ⟨b, off, ha, ?_, fun j hj => by rw [World.cell?_of_block (a := ⟨b, off + i * s + j, none⟩) hb]; exact hc j hj⟩
  rw [Array.getElem?_eq_getElem hlt] at hb
  exact (Array.getElem?_eq_some_iff.1 hb).1

theorem Rm.below {w w' : World} {a : Option Addr} {xs : List α} (h : Rm s enc w a xs) {B : Nat} (hb : Below B w w') (hB : w.heap.size ≤ B) : Rm s enc w' a xs := h.keep fun b hl => hb.block b (by omega)

theorem Rm.form {w : World} {a : Option Addr} {xs : List α} (h : Rm s enc w a xs) (h0 : 0 < xs.length) :
    ∃ b off, a = some ⟨b, off, none⟩ ∧ b < w.heap.size ∧ ∀ i (hi : i < xs.length) j, j < s → w.cell? ⟨b, off + i * s + j, none⟩ = (enc xs[i])[j]? := by
  obtain ⟨b, off, ha, hlt, _⟩ := h 0 h0
  refine ⟨b, off, ha, hlt, fun i hi j hj => ?_⟩
  obtain ⟨b', off', ha', _, hc⟩ := h i hi
  rw [ha] at ha'
  simp only [Option.some.injEq, Addr.mk.injEq, and_true] at ha'
  obtain ⟨rfl, rfl⟩ := ha'
  exact hc j hj

/-- A new block that holds one element. -/
theorem Rm.one (w : World) (x : α) (t : TypeId) (n : Nat) (hn : n = w.heap.size) : Rm s enc (w.alloc (.cells (enc x).toArray t (0, 0))) (some ⟨n, 0, none⟩) [x] := by
  subst hn
  intro i hi
  simp at hi
  subst hi
  refine ⟨w.heap.size, 0, rfl, by simp, fun j hj => ?_⟩
  rw [cell_of_row _ _ _ _ _ _ (heap_alloc_new w _)]
  simp

theorem Rm.drew {w : World} {a : Option Addr} {xs : List α} (h : Rm s enc w a xs) : Rm s enc w.drew a xs := h

/-- v is a slice of elements of s cells that reads as xs. -/
def Sm (s : Nat) (enc : α → List Value) (w : World) (v : Value) (xs : List α) : Prop :=
  ∃ a cap, v = .slice a xs.length cap ∧ xs.length ≤ cap ∧ cap ≤ maxLen ∧ (a = none → cap = 0) ∧ Rm s enc w a xs

theorem Sm.nil (w : World) : Sm s enc w (.slice none 0 0) [] := ⟨none, 0, rfl, by simp, by simp [maxLen], fun _ => rfl, Rm.nil _ _⟩
theorem Sm.keep {w w' : World} {v : Value} {xs : List α} (h : Sm s enc w v xs) (hk : ∀ b, b < w.heap.size → w'.heap[b]? = w.heap[b]?) : Sm s enc w' v xs := by
  obtain ⟨a, cap, h1, h2, h3, h4, h5⟩ := h
  exact ⟨a, cap, h1, h2, h3, h4, h5.keep hk⟩
theorem Sm.below {w w' : World} {v : Value} {xs : List α} (h : Sm s enc w v xs) {B : Nat} (hb : Below B w w') (hB : w.heap.size ≤ B) : Sm s enc w' v xs := h.keep fun b hl => hb.block b (by omega)

theorem Sm.ofOwn (hs : ∀ x, (enc x).length = s) {w : World} {base : Nat} {e : TypeId} {v : Value} {n : Nat} {xs : List α} (h : w.ownsRow base e s v n (xs.flatMap enc)) (hn : n = xs.length) : Sm s enc w v xs := by
  subst hn
  rcases h.2 with ⟨rfl, h0⟩ | ⟨g, cap, cur, rfl, _, hg, hn, hm, hsz, ht⟩
  · have : xs = [] := List.eq_nil_of_length_eq_zero h0
    subst this
    exact Sm.nil _
  · refine ⟨some ⟨g, 0, none⟩, cap, rfl, hn, hm, by simp, fun i hi => ⟨g, 0, rfl, (Array.getElem?_eq_some_iff.1 hg).1, fun j hj => ?_⟩⟩
    rw [cell_of_row w g _ cur e (0, 0) hg, ← flat_get hs xs i j hi hj, ← ht, List.getElem?_take]
    have : i * s + j < xs.length * s := by
      have h1 : (i + 1) * s ≤ xs.length * s := Nat.mul_le_mul_right _ hi
      rw [Nat.add_mul] at h1
      omega
    rw [if_pos (by omega)]
    simp
end

section
variable {P : Program} {w : World} {ops : Array Oper} {rest : List Oper} {o : Oper} {a : Act} {Q : Exit → Act → World → Prop} {α : Type} {s : Nat} {enc : α → List Value}

/-- `append(out, x...)`, the elements of several cells. -/
theorem wp_append_m {K : Act → World → Prop} (enc : α → List Value) (hs : ∀ x, (enc x).length = s) (hs0 : 0 < s) (henc : ∀ x, ∀ u ∈ enc x, u.oneCell' = true) (so x : Operand) (t : TypeId)
    (ho : o.op = .call { callee := .builtin .append, args := #[so, x], argTypes := #[t, t] })
    (base : Nat) (e : TypeId) (i : TypeInfo) (z : Value) (bytes : Nat) (ht : P.underlying t = some (.slice e)) (hi : P.info? e = some i) (hz : i.zero = some z)
    (hsize : i.size = s) (hby : i.bytes = bytes) (hzs : z.cells.size = s)
    (v : Value) (n : Nat) (xs : List α) (hsv : a.eval so = v) (hown : w.ownsRow base e s v n (xs.flatMap enc))
    (ad : Option Addr) (c : Nat) (ys : List α) (m : Nat) (hx : a.eval x = .slice ad m c) (hm : ys.length = m) (hc : ad = none → c = 0) (hmc : m ≤ c) (hrd : Rm s enc w ad ys)
    (h63 : n + m ≤ maxLen) (hbytes : (n + m) * bytes ≤ 140737488355328) (hbase : base ≤ w.heap.size)
    (h : ∀ v' w', w'.ownsRow base e s v' (n + m) ((xs ++ ys).flatMap enc) → Spares w w' v v' → Below base w w' → K (a.put o.dst v') w') : o.wp P a w K Q := by
  subst hm
  have hb : ∀ w', w.grownBy w' v.ownBlock → Below base w w' := fun w' hg => below_grown hg hbase fun k hk => (hown.lt k hk).1
  cases ad with
  | none =>
    have hc0 := hc rfl
    subst hc0
    have hy : ys = [] := by cases ys with
      | nil => rfl
      | cons y ys => simp at hmc
    subst hy
    have hrun := run_append_owned_none (P := P) (w := w) base t o.type e i s ht hi v n (xs.flatMap enc) hown
    have hx' : a.eval x = .slice none 0 0 := by simpa using hx
    unfold Oper.wp
    simp only [execOp, ho, resolve, invoke, builtin, Sem.run_bind, Sem.run_pure, Result.andThen_ok, List.map_toArray, List.map_cons, List.map_nil, hsv, hx', hrun]
    exact h v w (by simpa using hown) (fun g _ hg => ⟨rfl, hg⟩) (Below.refl _ _)
  | some ad =>
    have hnews : ∀ j u, (ys.flatMap enc)[j]? = some u → w.cell? (ad.add j) = some u := by
      intro j u hj
      have hj' : j < ys.length * s := by
        have := (List.getElem?_eq_some_iff.1 hj).1
        rwa [flat_len hs] at this
      have hq : j / s < ys.length := Nat.div_lt_of_lt_mul (by rw [Nat.mul_comm]; exact hj')
      have hr : j % s < s := Nat.mod_lt _ hs0
      have hjq : j / s * s + j % s = j := by rw [Nat.mul_comm]; exact Nat.div_add_mod j s
      obtain ⟨b, off, ha, _, hcell⟩ := hrd (j / s) hq
      simp at ha
      subst ha
      have h1 := flat_get hs ys (j / s) (j % s) hq hr
      rw [hjq, hj] at h1
      have h2 := hcell (j % s) hr
      rw [← h1] at h2
      have : (⟨b, off, none⟩ : Addr).add j = ⟨b, off + j / s * s + j % s, none⟩ := by
        rw [Nat.add_assoc, hjq]
        by_cases h0 : j = 0 <;> simp [Addr.add, h0]
      rw [this]; exact h2
    have h1 : ∀ u ∈ ys.flatMap enc, u.oneCell' = true := by
      intro u hu
      obtain ⟨y, _, hy⟩ := List.mem_flatMap.1 hu
      exact henc y u hy
    obtain ⟨v', w', hr, h2, h3, _, h5⟩ := run_append_own_at (P := P) w base t o.type e i z s bytes ht hi hz hsize hby hzs hs0 v n (xs.flatMap enc) hown ad ys.length c (ys.flatMap enc) (flat_len hs ys) hnews h1 h63 hbytes hbase
    unfold Oper.wp execOp
    simp only [ho, resolve, invoke, builtin, Sem.run_bind, Sem.run_pure, Result.andThen_ok, List.map_toArray, List.map_cons, List.map_nil, hsv, hx, hr]
    refine h v' w' (by rw [List.flatMap_append]; exact h2) (fun g hg hne => ⟨h3.block g hg (Ne.symm hne), ?_⟩) (hb w' h3)
    rcases h5 with h5 | h5
    · rw [h5]; exact hne
    · rw [h5]; intro e; simp at e; omega

theorem wpList_append_m (enc : α → List Value) (hs : ∀ x, (enc x).length = s) (hs0 : 0 < s) (henc : ∀ x, ∀ u ∈ enc x, u.oneCell' = true) (hgd : o.guard = none) (so x : Operand) (t : TypeId)
    (ho : o.op = .call { callee := .builtin .append, args := #[so, x], argTypes := #[t, t] })
    (base : Nat) (e : TypeId) (i : TypeInfo) (z : Value) (bytes : Nat) (ht : P.underlying t = some (.slice e)) (hi : P.info? e = some i) (hz : i.zero = some z)
    (hsize : i.size = s) (hby : i.bytes = bytes) (hzs : z.cells.size = s)
    (v : Value) (n : Nat) (xs : List α) (hsv : a.eval so = v) (hown : w.ownsRow base e s v n (xs.flatMap enc))
    (ad : Option Addr) (c : Nat) (ys : List α) (m : Nat) (hx : a.eval x = .slice ad m c) (hm : ys.length = m) (hc : ad = none → c = 0) (hmc : m ≤ c) (hrd : Rm s enc w ad ys)
    (h63 : n + m ≤ maxLen) (hbytes : (n + m) * bytes ≤ 140737488355328) (hbase : base ≤ w.heap.size)
    (h : ∀ v' w', w'.ownsRow base e s v' (n + m) ((xs ++ ys).flatMap enc) → Spares w w' v v' → Below base w w' → wpList P ops Q rest (a.put o.dst v') w') : wpList P ops Q (o :: rest) a w :=
  wpList_plain hgd fun _ hK => wp_append_m enc hs hs0 henc so x t ho base e i z bytes ht hi hz hsize hby hzs v n xs hsv hown ad c ys m hx hm hc hmc hrd h63 hbytes hbase fun v' w' h2 h3 h4 => hK _ _ (h v' w' h2 h3 h4)

theorem step_append_m {K : Act → World → Prop} {E : Prop} (enc : α → List Value) (hs : ∀ x, (enc x).length = s) (hs0 : 0 < s) (henc : ∀ x, ∀ u ∈ enc x, u.oneCell' = true) (hgd : o.guard = none) (so x : Operand) (t : TypeId)
    (ho : o.op = .call { callee := .builtin .append, args := #[so, x], argTypes := #[t, t] })
    (base : Nat) (e : TypeId) (i : TypeInfo) (z : Value) (bytes : Nat) (ht : P.underlying t = some (.slice e)) (hi : P.info? e = some i) (hz : i.zero = some z)
    (hsize : i.size = s) (hby : i.bytes = bytes) (hzs : z.cells.size = s)
    (v : Value) (n : Nat) (xs : List α) (hsv : a.eval so = v) (hown : w.ownsRow base e s v n (xs.flatMap enc))
    (ad : Option Addr) (c : Nat) (ys : List α) (m : Nat) (hx : a.eval x = .slice ad m c) (hm : ys.length = m) (hc : ad = none → c = 0) (hmc : m ≤ c) (hrd : Rm s enc w ad ys)
    (h63 : n + m ≤ maxLen) (hbytes : (n + m) * bytes ≤ 140737488355328) (hbase : base ≤ w.heap.size)
    (h : ∀ v' w', w'.ownsRow base e s v' (n + m) ((xs ++ ys).flatMap enc) → Spares w w' v v' → Below base w w' → K (a.put o.dst v') w') :
    if Region.wanted o (yielded ops a.tmps) = true then Oper.wp P o a w K Q else E := by
  have hw : Region.wanted o (yielded ops a.tmps) = true := by simp [Region.wanted, hgd]
  rw [if_pos hw]
  exact wp_append_m enc hs hs0 henc so x t ho base e i z bytes ht hi hz hsize hby hzs v n xs hsv hown ad c ys m hx hm hc hmc hrd h63 hbytes hbase h
end
end Go.Proofs.Ytcbgablnbgpjdaa
