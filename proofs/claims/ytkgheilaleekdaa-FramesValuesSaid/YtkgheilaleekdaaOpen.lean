/-
  No statement is proved here: arguments laid open, type by type. `Arg w t cs`: the cells cs are read as a datum of type t.
-/
import Derived.Test.YtkgheilaleekdaaRows
import Derived.Test.YtkgheilaleekdaaMem2
import Derived.OpenShut
import Derived.Deep.Slices
import Derived.Deep.Fields
namespace Go.Proofs.Ytkgheilaleekdaa
open Go.RowKit Go.ChangeShapes Go.WideShapes

def Arg (w : World) (t : TypeId) (cs : List Value) : Prop :=
  ∃ (H : Type) (enc : TypeId × Value → H) (fuel : Nat) (x : DataW H × List MemPlace), DataW.trod enc Try.prog w 0 (fun _ => true) true fuel t cs = some x

theorem Arg.of {H : Type} {enc : TypeId × Value → H} {w : World} {t : TypeId} {v : Value} {d : DataW H} {ps : List MemPlace} (h : DataW.Trod enc Try.prog w 0 (fun _ => true) true t v d ps) : Arg w t v.cells.toList := by
  obtain ⟨fuel, hf⟩ := h
  exact ⟨H, enc, fuel, _, hf⟩

section
variable {w : World} {t : TypeId} {cs : List Value}
theorem Arg.int {k : IntKind} (ht : Try.prog.underlying t = some (.int k)) (h : Arg w t cs) : ∃ n, cs = [.int k n] ∧ (Lit.int k n).wf = true := by
  obtain ⟨H, enc, fuel, x, h⟩ := h
  obtain ⟨n, h1, _, h2⟩ := DataW.trod_int ht h
  exact ⟨n, h1, h2⟩

theorem Arg.bool (ht : Try.prog.underlying t = some .bool) (h : Arg w t cs) : ∃ b, cs = [.bool b] := by
  obtain ⟨H, enc, fuel, x, h⟩ := h
  obtain ⟨n, h1, _⟩ := DataW.trod_bool ht h
  exact ⟨n, h1⟩

theorem Arg.struct {fs : Array Field} (ht : Try.prog.underlying t = some (.struct fs)) (h : Arg w t cs) :
    cs.length = Try.prog.cellsOf t ∧ ∀ (i : Nat) (f : Field), fs[i]? = some f → Arg w f.type ((cs.drop f.offset).take (Try.prog.cellsOf f.type)) := by
  obtain ⟨H, enc, fuel, x, h⟩ := h
  obtain ⟨xs, n, _, _, h1, h2, h3⟩ := DataW.trod_struct ht h
  refine ⟨h1, fun i f hi => ?_⟩
  have hlt : i < xs.length := by rw [h2]; exact (Array.getElem?_eq_some_iff.1 hi).1
  exact ⟨H, enc, n, _, (h3 i f hi).trans (List.getElem?_eq_getElem hlt)⟩

theorem Arg.array {n : Nat} {e : TypeId} (ht : Try.prog.underlying t = some (.array n e)) (h : Arg w t cs) :
    cs.length = Try.prog.cellsOf t ∧ ∀ i, i < n → Arg w e ((cs.drop (i * Try.prog.cellsOf e)).take (Try.prog.cellsOf e)) := by
  obtain ⟨H, enc, fuel, x, h⟩ := h
  obtain ⟨xs, m, _, _, h1, h2, h3⟩ := DataW.trod_array ht h
  refine ⟨h1, fun i hi => ?_⟩
  exact ⟨H, enc, m, _, (h3 i hi).trans (List.getElem?_eq_getElem (by omega))⟩

/-- A slice of elements of any number of cells. -/
theorem Arg.slice {e : TypeId} (ht : Try.prog.underlying t = some (.slice e)) (h : Arg w t cs) :
    cs = [.slice none 0 0] ∨ ∃ (a : Addr) (len cap : Nat), cs = [.slice (some a) len cap] ∧ len ≤ cap ∧ cap ≤ maxLen ∧
      ∀ i, i < cap → ∃ cs' : List Value, cs'.length = Try.prog.cellsOf e ∧ (∀ j, j < Try.prog.cellsOf e → w.cell? ((a.add (i * Try.prog.cellsOf e)).add j) = cs'[j]?) ∧ Arg w e cs' := by
  obtain ⟨H, enc, fuel, x, h⟩ := h
  rcases Go.Deep.open_slice ht h with ⟨h0, _⟩ | ⟨a, len, cap, m, n, D, Pl, hcs, _, hl, hm, hmm, _, hi⟩
  · exact .inl h0
  · simp only [if_true] at hmm
    refine .inr ⟨a, len, cap, hcs, hl, hm, fun i hic => ?_⟩
    obtain ⟨cs', h1, h2⟩ := hi i (by omega)
    obtain ⟨_, h3, h4⟩ := World.cells?_some h1
    exact ⟨cs', h3, h4, H, enc, n, _, h2⟩
end

theorem addr_none {w : World} {a : Addr} {v : Value} (h : w.cell? a = some v) : a.spot = none := World.cell?_spot h

theorem Arg.bytes {w : World} {t e : TypeId} {cs : List Value} (ht : Try.prog.underlying t = some (.slice e)) (he : Try.prog.underlying e = some (.int .u8)) (hc : Try.prog.cellsOf e = 1) (h : Arg w t cs) : ∃ v xs, cs = [v] ∧ Sl eb w v xs := by
  obtain ⟨H, enc, fuel, x, h⟩ := h
  rcases open_ints ht he hc h with ⟨hcs, _⟩ | ⟨x, l, c, zs, hcs, _, hl, hm, hz, _, hcell, hwz⟩
  · exact ⟨_, [], hcs, Sl.nil _ _⟩
  · have hz' : zs.length = c := by simpa using hz
    obtain ⟨xs, h1, h2, h3⟩ := Sl.ofCells (k := .u8) (w := w) (a := some x) (len := l) (cap := c) (zs := zs) (.inr ⟨x, rfl, hl, hm, hz', hcell, hwz⟩)
    refine ⟨_, xs.map fun n => UInt8.ofNat n.toNat, hcs, ?_⟩
    obtain ⟨a, cap, q1, q2, q3, q4, q5⟩ := h1
    refine ⟨a, cap, by simpa using q1, by simpa using q2, q3, q4, fun i hi => ?_⟩
    have hi' : i < xs.length := by simpa using hi
    obtain ⟨b, off, ha, hlt, hcc⟩ := q5 i hi'
    have hb := h3 xs[i] (List.getElem_mem hi')
    simp [Lit.wf, IntKind.min, IntKind.max, IntKind.signed, IntKind.bits] at hb
    refine ⟨b, off, ha, hlt, ?_⟩
    rw [hcc, List.getElem_map]
    unfold eb
    rw [UInt8.toNat_ofNat', Nat.mod_eq_of_lt (by omega)]
    congr 2
    omega

/-- A slice of one-cell elements, each of which reads as something. -/
theorem Arg.rows {α : Type} {R : Value → α → Prop} {w : World} {t e : TypeId} {cs : List Value} (ht : Try.prog.underlying t = some (.slice e)) (hc : Try.prog.cellsOf e = 1) (hR : ∀ cs', Arg w e cs' → ∃ v x, cs' = [v] ∧ R v x) (h : Arg w t cs) :
    ∃ (v : Value) (vs : List Value) (xs : List α), cs = [v] ∧ Sl id w v vs ∧ vs.length = xs.length ∧ ∀ i (h : i < vs.length) (h' : i < xs.length), R vs[i] xs[i] := by
  rcases h.slice ht with h0 | ⟨a, len, cap, hcs, hl, hm, hel⟩
  · exact ⟨_, [], [], h0, Sl.nil _ _, rfl, fun i h => absurd h (by simp)⟩
  · rw [hc] at hel
    have hex : ∀ n, n ≤ len → ∃ (vs : List Value) (xs : List α), vs.length = n ∧ xs.length = n ∧ (∀ i (h : i < vs.length), w.cell? (a.add i) = some vs[i]) ∧ ∀ i (h : i < vs.length) (h' : i < xs.length), R vs[i] xs[i] := by
      intro n
      induction n with
      | zero => intro _; exact ⟨[], [], rfl, rfl, fun i h => absurd h (by simp), fun i h => absurd h (by simp)⟩
      | succ n ih =>
        intro hn
        obtain ⟨vs, xs, e1, e2, e3, e4⟩ := ih (by omega)
        obtain ⟨cs', g1, g2, g3⟩ := hel n (by omega)
        obtain ⟨v, x, rfl, hr⟩ := hR cs' g3
        have g4 := g2 0 (by omega)
        refine ⟨vs ++ [v], xs ++ [x], by simp [e1], by simp [e2], fun i hi => ?_, fun i hi hi' => ?_⟩
        · by_cases e : i < vs.length
          · rw [List.getElem_append_left e]; exact e3 i e
          · have : i = n := by simp at hi; omega
            subst this
            have hv : (vs ++ [v])[i] = v := by simp [← e1]
            rw [hv]
            simpa [Addr.add] using g4
        · by_cases e : i < vs.length
          · rw [List.getElem_append_left e, List.getElem_append_left (by omega)]; exact e4 i e _
          · have : i = n := by simp at hi; omega
            subst this
            have hv : (vs ++ [v])[i] = v := by simp [← e1]
            have hx : (xs ++ [x])[i] = x := by simp [← e2]
            rw [hv, hx]; exact hr
    obtain ⟨vs, xs, e1, e2, e3, e4⟩ := hex len (Nat.le_refl _)
    refine ⟨_, vs, xs, hcs, ?_, by omega, e4⟩
    by_cases h0 : 0 < len
    · have hs := addr_none (e3 0 (by omega))
      have hs' : a.spot = none := by simpa [Addr.add] using hs
      obtain ⟨b, off, spot⟩ := a
      subst hs'
      have hb : b < w.heap.size := by
        have := World.block_lt_of_cell? w _ (e3 0 (by omega))
        simpa [Addr.add] using this
      refine ⟨some ⟨b, off, none⟩, cap, by rw [e1], by omega, hm, by simp, fun i hi => ⟨b, off, rfl, hb, ?_⟩⟩
      have h3 := e3 i hi
      have ha : (⟨b, off, none⟩ : Addr).add i = ⟨b, off + i, none⟩ := by by_cases h0 : i = 0 <;> simp [Addr.add, h0]
      rw [ha] at h3
      exact h3
    · have : len = 0 := by omega
      subst this
      obtain rfl : vs = [] := List.eq_nil_of_length_eq_zero e1
      exact ⟨some a, cap, rfl, by simp, hm, by simp, Rd.nil _ _ _⟩

/-- A slice of slices of bytes. -/
theorem Arg.pages {w : World} {t e q : TypeId} {cs : List Value} (ht : Try.prog.underlying t = some (.slice e)) (he : Try.prog.underlying e = some (.slice q)) (hq : Try.prog.underlying q = some (.int .u8)) (ce : Try.prog.cellsOf e = 1) (cq : Try.prog.cellsOf q = 1) (h : Arg w t cs) :
    ∃ v ps, cs = [v] ∧ Pg w v ps := by
  obtain ⟨v, vs, ps, h1, h2, h3, h4⟩ := h.rows (R := fun v x => Sl eb w v x) ht ce (fun cs' h' => h'.bytes he hq cq)
  exact ⟨v, ps, h1, vs, h2, h3, h4⟩

theorem wf_i64 {n : Int} (h : (Lit.int .i64 n).wf = true) : -9223372036854775808 ≤ n ∧ n ≤ 9223372036854775807 := by
  simpa [Lit.wf, IntKind.min, IntKind.max, IntKind.signed, IntKind.bits] using h

theorem wf_u8 {n : Int} (h : (Lit.int .u8 n).wf = true) : 0 ≤ n ∧ n ≤ 255 := by
  simpa [Lit.wf, IntKind.min, IntKind.max, IntKind.signed, IntKind.bits] using h

/-- A value whose cells are one cell that is no aggregate. -/
theorem cells_slice {P : Program} {w : World} {r : Reach} {b : Nat} {t e : TypeId} {v u : Value} (ht : P.underlying t = some (.slice e)) (hv : Value.okWide P w r b t v) (h : v.cells.toList = [u]) : v = u := by
  obtain ⟨a, n, c, rfl⟩ := okWide_slice ht hv
  simpa [Value.cells] using h

theorem cells_int {P : Program} {w : World} {r : Reach} {b : Nat} {t : TypeId} {k : IntKind} {v u : Value} (ht : P.underlying t = some (.int k)) (hv : Value.okWide P w r b t v) (h : v.cells.toList = [u]) : v = u := by
  obtain ⟨n, rfl⟩ := okWide_int ht hv
  simpa [Value.cells] using h

theorem cells_bool {P : Program} {w : World} {r : Reach} {b : Nat} {t : TypeId} {v u : Value} (ht : P.underlying t = some .bool) (hv : Value.okWide P w r b t v) (h : v.cells.toList = [u]) : v = u := by
  obtain ⟨n, rfl⟩ := okWide_bool ht hv
  simpa [Value.cells] using h

theorem cells_struct {P : Program} {w : World} {r : Reach} {b : Nat} {t : TypeId} {fs : Array Field} {v : Value} {l : List Value} (ht : P.underlying t = some (.struct fs)) (hv : Value.okWide P w r b t v) (h : v.cells.toList = l) : v = .agg l.toArray := by
  obtain ⟨cs, rfl, _⟩ := okWide_struct ht hv
  subst h
  rfl
end Go.Proofs.Ytkgheilaleekdaa
