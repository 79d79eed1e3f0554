/-
  No statement is proved here: words for blocks that are known whole, for copies into them, and for slices of slices of bytes.
-/
import Derived.Test.YtkgheilaleekdaaMem
import Derived.Laws.CopyOwn
import Derived.Laws.IdiomCopy
namespace Go.Proofs.Ytkgheilaleekdaa
open Go.RowKit
set_option maxRecDepth 100000

/-- Block g is just the cells l, of element type t, none frozen. -/
def Bk (w : World) (g : Nat) (t : TypeId) (l : List Value) : Prop := w.heap[g]? = some (.cells l.toArray t (0, 0))

section
variable {w w' : World} {g : Nat} {t : TypeId} {l : List Value}
theorem Bk.lt (h : Bk w g t l) : g < w.heap.size := (Array.getElem?_eq_some_iff.1 h).1
theorem Bk.cell (h : Bk w g t l) (i : Nat) : w.cell? ⟨g, i, none⟩ = l[i]? := by rw [cell_of_row w g i l.toArray t (0, 0) h]; simp
theorem Bk.frozen (h : Bk w g t l) (i : Nat) : w.frozen? ⟨g, i, none⟩ = false := frozen_of_row w g i _ t h
theorem Bk.keep (h : Bk w g t l) (hk : w'.heap[g]? = w.heap[g]?) : Bk w' g t l := hk.trans h
theorem Bk.below {B : Nat} (h : Bk w g t l) (hb : Below B w w') (hg : g < B) : Bk w' g t l := h.keep (hb.block g hg)
theorem Bk.grown {row : Option Nat} (h : Bk w g t l) (hb : w.grownBy w' row) (hg : row ≠ some g) : Bk w' g t l := h.keep (hb.block g h.lt (Ne.symm hg))
theorem Bk.set (h : Bk w g t l) (i : Nat) (u : Value) : Bk (w.setCell ⟨g, i, none⟩ u) g t (l.set i u) := by
  unfold Bk at h ⊢
  simp [World.setCell, Array.getElem?_modify, h]
theorem Bk.far (h : Bk w g t l) {p : Addr} (hp : g ≠ p.block) (u : Value) : Bk (w.setCell p u) g t l := h.keep (Below.heap_setCell w p u g hp)
theorem Bk.new (w : World) (t : TypeId) (l : List Value) : Bk (w.alloc (.cells l.toArray t (0, 0))) w.heap.size t l := heap_alloc_new w _
theorem Bk.newAt (w : World) (t : TypeId) (l : List Value) {n : Nat} (hn : n = w.heap.size) : Bk (w.alloc (.cells l.toArray t (0, 0))) n t l := hn ▸ heap_alloc_new w _
theorem Bk.alloc (h : Bk w g t l) (o : Obj) : Bk (w.alloc o) g t l := h.keep (Below.heap_alloc w o g h.lt)
theorem Bk.own {base : Nat} (h : Bk w g t l) (hb : base ≤ g) (hm : l.length ≤ maxLen) : w.ownsRow base t 1 (.slice (some ⟨g, 0, none⟩) l.length l.length) l.length l :=
  ⟨by simp, .inr ⟨g, l.length, l.toArray, rfl, hb, h, Nat.le_refl _, hm, by simp, by simp⟩⟩
end

theorem grown_set {w : World} {g i : Nat} {u : Value} : w.grownBy (w.setCell ⟨g, i, none⟩ u) (some g) :=
  ⟨rfl, rfl, rfl, by simp, fun k _ hk => heap_setCell_other w ⟨g, i, none⟩ k u (fun e => hk (by simp [e]))⟩

theorem grown_trans {a b c : World} {row : Option Nat} (h : a.grownBy b row) (k : b.grownBy c row) : a.grownBy c row :=
  ⟨k.os.trans h.os, k.tape.trans h.tape, k.output.trans h.output, Nat.le_trans h.size k.size, fun i hi hne => (k.block i (Nat.lt_of_lt_of_le hi h.size) hne).trans (h.block i hi hne)⟩

theorem grown_drew {a b : World} {row : Option Nat} (h : a.grownBy b row) : a.grownBy b.drew row := ⟨h.os, h.tape, h.output, h.size, h.block⟩

theorem grown_of_below {a b : World} (h : Below a.heap.size a b) (row : Option Nat) : a.grownBy b row := ⟨h.os, h.tape, h.output, h.size, fun i hi _ => h.block i hi⟩

theorem below_of_grown {B g : Nat} {w w' : World} (hg : w.grownBy w' (some g)) (hB : B ≤ g) (hw : B ≤ w.heap.size) : Below B w w' := (Below.refl B w).grown hg hw fun k hk => by simp at hk; omega

theorem splice_get {α : Type} (L : List α) (off : Nat) (cs : List α) (h : off + cs.length ≤ L.length) (j : Nat) :
    (splice L off cs)[j]? = if j < off then L[j]? else if j < off + cs.length then cs[j - off]? else L[j]? := by
  unfold splice
  rw [List.getElem?_append]
  have e : (L.take off).length = off := by simp; omega
  rw [e]
  by_cases h1 : j < off
  · rw [if_pos h1, if_pos h1, List.getElem?_take, if_pos h1]
  · rw [if_neg h1, if_neg h1, List.getElem?_append]
    by_cases h2 : j < off + cs.length
    · rw [if_pos h2, if_pos (by omega)]
    · rw [if_neg h2, if_neg (by omega), List.getElem?_drop]
      congr 1
      omega

section
variable {P : Program} {w : World} {ops : Array Oper} {rest : List Oper} {o : Oper} {a : Act} {Q : Exit → Act → World → Prop}

theorem run_copy_rd {α : Type} (enc : α → Value) (henc : ∀ x, (enc x).oneCell' = true) (dT sT ty : TypeId) (elem : TypeId) (hu : P.underlying dT = some (.slice elem)) (hsz : (P.info? elem).map (·.size) = some 1)
    (dp : Option Addr) (g off dLen dCap : Nat) (sp : Option Addr) (ys : List α) (m sCap n : Nat) (hm : ys.length = m) (hn : Nat.min m dLen = n) (hdp : 0 < n → dp = some ⟨g, off, none⟩) (hrd : Rd enc w sp ys)
    (cur : List Value) (t : TypeId) (hg : Bk w g t cur) (hfit : off + n ≤ cur.length) :
    ∃ w', (Builtin.copy_ #[dT, sT] ty #[.slice dp dLen dCap, .slice sp m sCap]).run P w = .ok (goInt n) w' ∧ Bk w' g t (splice cur off ((ys.take n).map enc)) ∧ w.grownBy w' (some g) := by
  have hln : n ≤ m ∧ n ≤ dLen := by
    have h1 := Nat.min_le_left m dLen
    have h2 := Nat.min_le_right m dLen
    have h3 : Nat.min m dLen = n := hn
    exact ⟨by rw [← h3]; exact h1, by rw [← h3]; exact h2⟩
  have hcl : ((ys.take n).map enc).length = n := by simp; omega
  by_cases h0 : n = 0
  · subst h0
    have hrun := run_copy_none (P := P) w dT sT ty elem dp sp dLen dCap m sCap hu hsz hn
    exact ⟨w, hrun, by simpa [splice] using hg, World.grownBy.refl w _⟩
  · obtain ⟨b, so, rfl, hlt, hc⟩ := hrd.form (by omega)
    rw [hdp (by omega)]
    have hrun := run_copy_row (P := P) w dT sT ty elem g off dLen dCap ⟨b, so, none⟩ m sCap cur.toArray t ((ys.take n).map enc) hu hsz hg (by rw [hcl, hn]) (fun j u hj => by
      have hj' : j < n := by have := (List.getElem?_eq_some_iff.1 hj).1; omega
      have ha : (⟨b, so, none⟩ : Addr).add j = ⟨b, so + j, none⟩ := by by_cases h0 : j = 0 <;> simp [Addr.add, h0]
      rw [ha, hc j (by omega)]
      rw [List.getElem?_map, List.getElem?_take, if_pos hj', List.getElem?_eq_getElem (by omega)] at hj
      simpa using hj) (by rw [hcl]; simpa using hfit) (fun v hv => by
        obtain ⟨x, _, rfl⟩ := List.mem_map.1 hv
        exact henc x)
    rw [hcl] at hrun
    refine ⟨_, hrun, ?_, ⟨rfl, rfl, rfl, by simp [World.setRow], fun k _ hk => setRow_other w g k _ (fun e => hk (by rw [e]))⟩⟩
    unfold Bk
    rw [setRow_heap w g cur.toArray _ t _ hg]
    simp only [splice, hcl, List.append_assoc]

/-- `copy(d, s)` into a block that is known whole. -/
theorem wp_copy_rd {α : Type} {K : Act → World → Prop} (enc : α → Value) (henc : ∀ x, (enc x).oneCell' = true) (d s : Operand) (dT sT : TypeId)
    (ho : o.op = .call { callee := .builtin .copy, args := #[d, s], argTypes := #[dT, sT] }) (elem : TypeId) (hu : P.underlying dT = some (.slice elem)) (hsz : (P.info? elem).map (·.size) = some 1)
    (dp : Option Addr) (g off dLen dCap : Nat) (sp : Option Addr) (ys : List α) (m sCap n : Nat) (hd : a.eval d = .slice dp dLen dCap) (hs : a.eval s = .slice sp m sCap) (hm : ys.length = m) (hn : Nat.min m dLen = n) (hdp : 0 < n → dp = some ⟨g, off, none⟩) (hrd : Rd enc w sp ys)
    (cur : List Value) (t : TypeId) (hg : Bk w g t cur) (hfit : off + n ≤ cur.length)
    (h : ∀ w', Bk w' g t (splice cur off ((ys.take n).map enc)) → w.grownBy w' (some g) → K (a.put o.dst (goInt n)) w') : o.wp P a w K Q := by
  obtain ⟨w', hrun, h1, h2⟩ := run_copy_rd (P := P) (w := w) enc henc dT sT o.type elem hu hsz dp g off dLen dCap sp ys m sCap n hm hn hdp hrd cur t hg hfit
  unfold Oper.wp
  simp only [execOp, ho, resolve, invoke, builtin, Sem.run_bind, Sem.run_pure, Result.andThen_ok, List.map_toArray, List.map_cons, List.map_nil, hd, hs, hrun]
  exact h w' h1 h2

theorem wpList_copy_rd {α : Type} (enc : α → Value) (henc : ∀ x, (enc x).oneCell' = true) (hgd : o.guard = none) (d s : Operand) (dT sT : TypeId)
    (ho : o.op = .call { callee := .builtin .copy, args := #[d, s], argTypes := #[dT, sT] }) (elem : TypeId) (hu : P.underlying dT = some (.slice elem)) (hsz : (P.info? elem).map (·.size) = some 1)
    (dp : Option Addr) (g off dLen dCap : Nat) (sp : Option Addr) (ys : List α) (m sCap n : Nat) (hd : a.eval d = .slice dp dLen dCap) (hs : a.eval s = .slice sp m sCap) (hm : ys.length = m) (hn : Nat.min m dLen = n) (hdp : 0 < n → dp = some ⟨g, off, none⟩) (hrd : Rd enc w sp ys)
    (cur : List Value) (t : TypeId) (hg : Bk w g t cur) (hfit : off + n ≤ cur.length)
    (h : ∀ w', Bk w' g t (splice cur off ((ys.take n).map enc)) → w.grownBy w' (some g) → wpList P ops Q rest (a.put o.dst (goInt n)) w') : wpList P ops Q (o :: rest) a w :=
  wpList_plain hgd fun _ hK => wp_copy_rd enc henc d s dT sT ho elem hu hsz dp g off dLen dCap sp ys m sCap n hd hs hm hn hdp hrd cur t hg hfit fun w' h1 h2 => hK _ _ (h w' h1 h2)

theorem step_copy_rd {α : Type} {K : Act → World → Prop} {E : Prop} (enc : α → Value) (henc : ∀ x, (enc x).oneCell' = true) (hgd : o.guard = none) (d s : Operand) (dT sT : TypeId)
    (ho : o.op = .call { callee := .builtin .copy, args := #[d, s], argTypes := #[dT, sT] }) (elem : TypeId) (hu : P.underlying dT = some (.slice elem)) (hsz : (P.info? elem).map (·.size) = some 1)
    (dp : Option Addr) (g off dLen dCap : Nat) (sp : Option Addr) (ys : List α) (m sCap n : Nat) (hd : a.eval d = .slice dp dLen dCap) (hs : a.eval s = .slice sp m sCap) (hm : ys.length = m) (hn : Nat.min m dLen = n) (hdp : 0 < n → dp = some ⟨g, off, none⟩) (hrd : Rd enc w sp ys)
    (cur : List Value) (t : TypeId) (hg : Bk w g t cur) (hfit : off + n ≤ cur.length)
    (h : ∀ w', Bk w' g t (splice cur off ((ys.take n).map enc)) → w.grownBy w' (some g) → K (a.put o.dst (.int .i64 (n : Int))) w') :
    if Region.wanted o (yielded ops a.tmps) = true then Oper.wp P o a w K Q else E := by
  have hw : Region.wanted o (yielded ops a.tmps) = true := by simp [Region.wanted, hgd]
  rw [if_pos hw]
  exact wp_copy_rd enc henc d s dT sT ho elem hu hsz dp g off dLen dCap sp ys m sCap n hd hs hm hn hdp hrd cur t hg hfit h
end

/-- v is a slice of slices of bytes that reads as ps. -/
def Pg (w : World) (v : Value) (ps : List (List UInt8)) : Prop :=
  ∃ vs : List Value, Sl id w v vs ∧ vs.length = ps.length ∧ ∀ i (h : i < vs.length) (h' : i < ps.length), Sl eb w vs[i] ps[i]

theorem Pg.below {w w' : World} {v : Value} {ps : List (List UInt8)} (h : Pg w v ps) {B : Nat} (hb : Below B w w') (hB : w.heap.size ≤ B) : Pg w' v ps := by
  obtain ⟨vs, h1, h2, h3⟩ := h
  exact ⟨vs, h1.below hb hB, h2, fun i hi hi' => (h3 i hi hi').below hb hB⟩

theorem Pg.nil (w : World) : Pg w (.slice none 0 0) [] := ⟨[], Sl.nil _ _, rfl, fun i h => absurd h (by simp)⟩

/-- The shape of the value, and each element's cell. -/
theorem Pg.open {w : World} {v : Value} {ps : List (List UInt8)} (h : Pg w v ps) : ∃ a cap, v = .slice a ps.length cap ∧ ps.length ≤ cap ∧ cap ≤ maxLen ∧ (a = none → cap = 0) ∧
    ∀ i (hi : i < ps.length), ∃ b off a' c', a = some ⟨b, off, none⟩ ∧ b < w.heap.size ∧ w.cell? ⟨b, off + i, none⟩ = some (.slice a' ps[i].length c') ∧ ps[i].length ≤ c' ∧ c' ≤ maxLen ∧ (a' = none → c' = 0) ∧ Rd eb w a' ps[i] := by
  obtain ⟨vs, ⟨a, cap, h1, h2, h3, h4, h5⟩, hl, he⟩ := h
  refine ⟨a, cap, by rw [← hl]; exact h1, by omega, h3, h4, fun i hi => ?_⟩
  obtain ⟨b, off, ha, hlt, hc⟩ := h5 i (by omega)
  obtain ⟨a', c', e1, e2, e3, e4, e5⟩ := he i (by omega) hi
  exact ⟨b, off, a', c', ha, hlt, by rw [hc]; simp [e1], e2, e3, e4, e5⟩

theorem box1 {w w' : World} {u : Value} {T : TypeId} {fr : Nat × Nat} (hb : Below (w.alloc (.cells #[u] T fr)).heap.size (w.alloc (.cells #[u] T fr)) w') :
    Below w.heap.size w w' ∧ w'.cell? ⟨w.heap.size, 0, none⟩ = some u := by
  have hb0 : Below w.heap.size w (w.alloc (.cells #[u] T fr)) := (Below.refl _ w).alloc (Nat.le_refl _) _
  refine ⟨hb0.trans (hb.mono hb0.size), ?_⟩
  rw [hb.cell (p := ⟨w.heap.size, 0, none⟩) (by simp), cell_of_row _ _ _ _ _ _ (heap_alloc_new w _)]; rfl

theorem ret_int {k : IntKind} {a b : Int} (h : a = b) : Ending.returned (.int k a) = .returned (.int k b) := by rw [h]
theorem ret_bool {a b : Bool} (h : a = b) : Ending.returned (.bool a) = .returned (.bool b) := by rw [h]

theorem own_form {W : World} {base : Nat} {e : TypeId} {v : Value} {n : Nat} {cs : List Value} (h : W.ownsRow base e 1 v n cs) (hn : 0 < n) : ∃ g c, v = .slice (some ⟨g, 0, none⟩) n c := by
  rcases h.2 with ⟨_, h⟩ | ⟨g, c, _, h, _⟩
  · omega
  · exact ⟨g, c, h⟩

theorem own_slice {W : World} {base : Nat} {e : TypeId} {v : Value} {n : Nat} {cs : List Value} (h : W.ownsRow base e 1 v n cs) : ∃ a c, v = .slice a n c := by
  rcases h.2 with ⟨h1, h2⟩ | ⟨g, c, _, h, _⟩
  · exact ⟨none, 0, by rw [h2]; exact h1⟩
  · exact ⟨_, c, h⟩

theorem own_keep {w w' : World} {base n : Nat} {e : TypeId} {v : Value} {cs : List Value} (h : w.ownsRow base e 1 v n cs) (hk : ∀ k, v.ownBlock = some k → w'.heap[k]? = w.heap[k]?) : w'.ownsRow base e 1 v n cs := by
  refine ⟨h.1, h.2.elim .inl ?_⟩
  rintro ⟨g, cap, cur, hv, hg, hb, r⟩
  exact .inr ⟨g, cap, cur, hv, hg, by rw [hk g (by rw [hv]; rfl)]; exact hb, r⟩

theorem Sl.keep {α : Type} {enc : α → Value} {w w' : World} {v : Value} {xs : List α} (h : Sl enc w v xs) (hk : ∀ b, b < w.heap.size → w'.heap[b]? = w.heap[b]?) : Sl enc w' v xs := by
  obtain ⟨a, cap, h1, h2, h3, h4, h5⟩ := h
  refine ⟨a, cap, h1, h2, h3, h4, fun i hi => ?_⟩
  obtain ⟨b, off, ha, hlt, hc⟩ := h5 i hi
  have hb := hk b hlt
  refine ⟨b, off, ha, ?_, by rw [World.cell?_of_block (a := ⟨b, off + i, none⟩) hb]; exact hc⟩
  rw [Array.getElem?_eq_getElem hlt] at hb
  exact (Array.getElem?_eq_some_iff.1 hb).1
end Go.Proofs.Ytkgheilaleekdaa
