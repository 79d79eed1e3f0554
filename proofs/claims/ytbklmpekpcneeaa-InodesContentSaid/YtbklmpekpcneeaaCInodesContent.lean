/-
  The law InodesContent is proved: it answers true for every input (its walk, and the row).
-/
import Derived.Test.YtbklmpekpcneeaaBi
import Derived.Test.YtbklmpekpcneeaaBb
import Derived.Test.YtbklmpekpcneeaaBc
import Derived.Lib.ConvBytes
import Derived.Laws.CopyRow
import Derived.Test.YtbklmpekpcneeaaRows
import Derived.WalkKit
import Derived.ProofKit
import Derived.OpenShut
import Derived.ShutString
import Derived.ChangeOld
import Derived.Below
set_option linter.unusedVariables false
set_option linter.unusedSimpArgs false
set_option maxRecDepth 100000
namespace Nd
theorem write_err {d : List UInt8} {n o : Int} {s : List UInt8} (h : (write d n o s).2 ≠ 0) : (write d n o s).1 = [] := by
  unfold write at h ⊢
  split
  · rfl
  · rename_i h1
    rw [if_neg h1] at h
    simp only at h ⊢
    generalize (if (raw d n.toNat).kind = 2 then (128 : Int) else 1536) = M at h ⊢
    split
    · rfl
    · rename_i h2
      rw [if_neg h2] at h
      split
      · rename_i h3
        rw [if_pos h3] at h
        simp at h
      · rename_i h3
        rw [if_neg h3] at h
        split
        · rfl
        · rename_i h4
          rw [if_neg h4] at h
          split
          · rfl
          · rename_i h5
            rw [if_neg h5] at h
            simp at h
theorem write_same {d d' : List UInt8} {n o : Int} (h : write d n o [] = (d', 0)) : d' = d ∧ 0 ≤ o ∧ ∃ m : Nat, n = m ∧ m < 32 ∧ (raw d m).kind ≠ 0 := by
  unfold write at h
  split at h
  · rename_i hc; injection h with _ h; exact absurd h hc
  rename_i hc
  obtain ⟨-, -, m, rfl, hm, hk, -⟩ := get_ok (Classical.not_not.1 hc)
  simp only at h
  split at h
  · simp at h
  rename_i ho
  simp only [if_true] at h
  injection h with h _
  exact ⟨h.symm, by omega, m, rfl, hm, hk⟩
/-- Some bytes are written over others, zeros between. -/
def over (c : List UInt8) (o : Nat) (s : List UInt8) : List UInt8 := if s = [] then c else Jr.put (c ++ List.replicate (o + s.length - c.length) 0) o s
theorem over_nil (c : List UInt8) (o : Nat) : over c o [] = c := if_pos rfl
theorem g_pad (c : List UInt8) (k i : Nat) : g (c ++ List.replicate k 0) i = g c i := by
  unfold g
  rw [List.getD_eq_getElem?_getD, List.getElem?_append]
  by_cases h : i < c.length
  · rw [if_pos h, List.getD_eq_getElem?_getD]
  · rw [if_neg h, List.getElem?_replicate, List.getD_eq_getElem?_getD, List.getElem?_eq_none (by omega)]
    split <;> rfl
theorem write_law {d d' : List UInt8} {n o : Int} {s : List UInt8} (hd : Ok d) (h : write d n o s = (d', 0)) : Ok d' ∧ ∃ (m p : Nat) (c : List UInt8), n = m ∧ o = p ∧ m < 32 ∧ c.length ≤ 1536 ∧ (s ≠ [] → p + s.length ≤ 1536) ∧ cont d n = 43 :: c ∧ cont d' n = 43 :: over c p s ∧ ∀ i : Nat, i < 32 → i ≠ m → cont d' (i : Int) = cont d (i : Int) := by
  by_cases hs : s = []
  · subst hs
    obtain ⟨rfl, ho, m, rfl, hm, hk⟩ := write_same h
    obtain ⟨hsz, h96⟩ := ok_bk96 hd hm hk
    exact ⟨hd, m, o.toNat, content d' (raw d' m), rfl, by omega, hm, by rw [content_len hd.1 h96 hsz]; exact hsz, fun h => absurd rfl h, cont_some hd hm hk, by rw [over_nil]; exact cont_some hd hm hk, fun i _ _ => rfl⟩
  obtain ⟨-, -, ho, m, rfl, hm, hk, y, hyk, hys, h1536, hstp, hb1, -, hb3, hby⟩ := write_stp h hs
  obtain ⟨p, rfl⟩ : ∃ p : Nat, o = p := ⟨o.toNat, by omega⟩
  rw [Int.toNat_natCast] at hys h1536 hb3 hby
  obtain ⟨hsz, h96⟩ := ok_bk96 hd hm hk
  have hyk' : (raw d' m).kind ≠ 0 := by rw [hstp.raw, hyk]; exact hk
  obtain ⟨hsz', h96'⟩ := ok_bk96 hstp.ok hm hyk'
  refine ⟨hstp.ok, m, p, content d (raw d m), rfl, rfl, hm, by rw [content_len hd.1 h96 hsz]; exact hsz, fun _ => h1536, cont_some hd hm hk, ?_, fun i hi hne => hstp.cont_other hd hi hne⟩
  rw [cont_some hstp.ok hm hyk']
  congr 1
  rw [hstp.raw] at hsz' h96' ⊢
  have hcl := content_len hd.1 h96 hsz
  have hl1 : (content d' y).length = max (raw d m).size (p + s.length) := by rw [content_len hstp.len h96' hsz', hys]
  unfold over
  rw [if_neg hs, hcl]
  have hpl : (content d (raw d m) ++ List.replicate (p + s.length - (raw d m).size) 0).length = max (raw d m).size (p + s.length) := by
    rw [List.length_append, hcl, List.length_replicate]; omega
  refine ext_g (by rw [hl1, put_len (by rw [hpl]; omega), hpl]) fun t ht => ?_
  rw [hl1] at ht
  rw [content_g hstp.len h96' hsz' (by rw [hys]; exact ht), g_put (by rw [hpl]; omega), g_pad]
  have h12 : t / 128 < 12 := by omega
  have ht2 : 128 * (t / 128) + t % 128 = t := by omega
  have hm128 : t % 128 < 128 := Nat.mod_lt _ (by decide)
  -- what the elder content reads there
  have hold : g (content d (raw d m)) t = if bk (raw d m) (t / 128) = 0 then 0 else g d (128 * bk (raw d m) (t / 128) + t % 128) := by
    by_cases h1 : t < (raw d m).size
    · exact content_g hd.1 h96 hsz h1
    · rw [g_out (by omega)]
      by_cases h0 : bk (raw d m) (t / 128) = 0
      · rw [if_pos h0]
      · rw [if_neg h0]
        have hg := hd.2.good hm hk
        rcases hg.2.2.1 (t / 128) h12 with h2 | h2
        · exact absurd h2 h0
        · exact (h2.2.2.2 (t % 128) hm128 (by omega)).symm
  by_cases hy0 : bk y (t / 128) = 0
  · rw [if_pos hy0]
    have hx0 : bk (raw d m) (t / 128) = 0 := by
      by_cases h0 : bk (raw d m) (t / 128) = 0
      · exact h0
      · rw [hb1 _ h12 h0] at hy0; exact absurd hy0 h0
    have hno : ¬ (p ≤ t ∧ t < p + s.length) := fun hr => hb3 (t / 128) h12 (by omega) (by omega) hy0
    rw [if_neg hno, hold, if_pos hx0]
  · rw [if_neg hy0, hby _ _ h12 hy0 hm128, ht2]
    by_cases hr : p ≤ t ∧ t < p + s.length
    · rw [if_pos hr, if_pos hr]
    · rw [if_neg hr, if_neg hr, hold]
end Nd
namespace Go.Proofs.Ytbklmpekpcneeaa
open Go.RowKit
set_option maxRecDepth 100000

theorem run_storeCells_mk (P : Program) (g o : Nat) (t : TypeId) (fz : Nat × Nat) : ∀ (vs : List Value) (i : Nat) (cur : Array Value) (w : World), w.heap[g]? = some (.cells cur t fz) → (∀ j, j < cur.size → ¬ (fz.1 ≤ j ∧ j < fz.2)) → o + i + vs.length ≤ cur.size → (∀ v ∈ vs, v.oneCell' = true) →
    (storeCells ⟨g, o, none⟩ vs i).run P w = .ok () (w.setRow g (cur.toList.take (o + i) ++ vs ++ cur.toList.drop (o + i + vs.length)).toArray)
  | [], i, cur, w, hg, _, _, _ => by
    simp only [storeCells, List.append_nil, List.length_nil, Nat.add_zero, List.take_append_drop, Array.toArray_toList]
    rw [setRow_self w g cur t fz hg]
    rfl
  | v :: rest, i, cur, w, hg, hfz, hl, h1 => by
    have hi : o + i < cur.size := by simp at hl; omega
    have hadd : (⟨g, o, none⟩ : Addr).add i = ⟨g, o + i, none⟩ := by unfold Addr.add; split <;> simp_all
    have hcell : w.cell? ⟨g, o + i, none⟩ = some cur[o + i] := by simp [World.cell?, hg, hi]
    have hfro : w.frozen? ⟨g, o + i, none⟩ = false := by
      have h := hfz (o + i) hi
      obtain ⟨lo, hi'⟩ := fz
      simp only [World.frozen?, hg, Bool.and_eq_false_iff, decide_eq_false_iff_not]
      simp only at h
      omega
    have hst : (store ((⟨g, o, none⟩ : Addr).add i) v).run P w = .ok () (w.setRow g (cur.setIfInBounds (o + i) v)) := by
      rw [hadd, run_store P w _ v _ (h1 v (by simp)), hcell]
      simp [hfro, setCell_eq_setRow w g (o + i) cur t fz v hg]
    have ih := run_storeCells_mk P g o t fz rest (i + 1) (cur.setIfInBounds (o + i) v) (w.setRow g (cur.setIfInBounds (o + i) v)) (setRow_heap w g cur _ t _ hg) (by simpa using hfz) (by simp at hl ⊢; omega) (fun x hx => h1 x (by simp [hx]))
    simp only [storeCells, Sem.run_bind, hst, Result.andThen_ok, ih, setRow_setRow]
    congr 3
    have e := list_seg_step cur.toList (o + i) v rest (by simp at hl ⊢; omega)
    simpa [Array.toList_setIfInBounds, Nat.add_assoc] using e

/-- The row of v: its own block, marked behind its end or not at all. -/
structure Mk (w : World) (base g cap : Nat) (xs : List UInt8) : Prop where
  hb : base ≤ g
  ex : ∃ (cur : Array Value) (fz : Nat × Nat), w.heap[g]? = some (.cells cur 5 fz) ∧ (∀ j, j < cap → ¬ (fz.1 ≤ j ∧ j < fz.2)) ∧ cur.size = cap ∧ cur.toList.take xs.length = xs.map eb
  hn : xs.length ≤ cap
  hc : cap ≤ maxLen

section
variable {w w' : World} {base g cap : Nat} {xs : List UInt8}
theorem Mk.lt (h : Mk w base g cap xs) : g < w.heap.size := by
  obtain ⟨cur, fz, h1, -⟩ := h.ex
  exact (Array.getElem?_eq_some_iff.1 h1).1
theorem Mk.keep (h : Mk w base g cap xs) (hk : w'.heap[g]? = w.heap[g]?) : Mk w' base g cap xs := by
  obtain ⟨cur, fz, h1, h2⟩ := h.ex
  exact ⟨h.hb, ⟨cur, fz, hk.trans h1, h2⟩, h.hn, h.hc⟩
theorem Mk.below (h : Mk w base g cap xs) (hb : Below w.heap.size w w') : Mk w' base g cap xs := h.keep (hb.block g h.lt)
theorem Mk.cell (h : Mk w base g cap xs) (j : Nat) (hj : j < xs.length) : w.cell? ⟨g, j, none⟩ = some (eb xs[j]) := by
  obtain ⟨cur, fz, h1, h2, h3, h4⟩ := h.ex
  rw [cell_of_row w g j cur _ fz h1]
  have h5 : (cur.toList.take xs.length)[j]? = (xs.map eb)[j]? := by rw [h4]
  rw [List.getElem?_take, if_pos hj, List.getElem?_map, List.getElem?_eq_getElem hj] at h5
  simpa using h5
theorem Mk.rd (h : Mk w base g cap xs) : Rd eb w (some ⟨g, 0, none⟩) xs := fun i hi => ⟨g, 0, rfl, h.lt, by rw [Nat.zero_add]; exact h.cell i hi⟩
theorem Mk.sl (h : Mk w base g cap xs) : Sl eb w (.slice (some ⟨g, 0, none⟩) xs.length cap) xs := ⟨_, cap, rfl, h.hn, h.hc, by simp, fun i hi => ⟨g, 0, rfl, h.lt, by rw [Nat.zero_add]; exact h.cell i hi⟩⟩
theorem Mk.own (h : w.ownsRow base 5 1 (.slice (some ⟨g, 0, none⟩) xs.length cap) xs.length (xs.map eb)) : Mk w base g cap xs := by
  obtain ⟨h1, h2, h3, cur, h4, h5, h6⟩ := own_bk' h
  exact ⟨h1, ⟨cur.toArray, (0, 0), h4, fun j _ => by omega, by simpa using h5, by simpa using h6⟩, h2, h3⟩
end

/-- []byte(s). -/
theorem mk_conv (w : World) (xs : List UInt8) (hx : xs.length ≤ 1000000) : ∃ cap w', (convert 9 25 (.string ⟨xs.toArray⟩)).run Try.prog w = .ok (.slice (some ⟨w.heap.size, 0, none⟩) xs.length cap) w' ∧ Mk w' w.heap.size w.heap.size cap xs ∧ Below w.heap.size w w' := by
  have hs : (⟨xs.toArray⟩ : ByteArray).size = xs.length := by simp [ByteArray.size]
  have hr := Lib.run_convert_string_bytes (P := Try.prog) w 9 25 5 ⟨xs.toArray⟩ Try.underlying9 Try.underlying25 Try.underlying5
  rw [hs] at hr
  have hge := grownCap_ge w xs.length 0 5
  have hcs : (Lib.bytesCells w 5 ⟨xs.toArray⟩).size = grownCap w xs.length 0 5 := by
    unfold Lib.bytesCells
    rw [hs]
    simp
    omega
  refine ⟨_, _, hr, ⟨Nat.le_refl _, ⟨_, _, Lib.bytesWorld_at_new w 5 ⟨xs.toArray⟩, fun j hj => by rw [hcs]; omega, hcs, ?_⟩, hge, grownCap_le_maxLen w xs.length 0 _ (by unfold maxLen; omega)⟩, ?_⟩
  · unfold Lib.bytesCells
    rw [Array.toList_append]
    have e : (Array.map (fun b : UInt8 => Value.int .u8 (b.toNat : Int)) (⟨xs.toArray⟩ : ByteArray).data).toList = xs.map eb := by simp; exact fun _ _ => rfl
    rw [e]
    exact List.take_left' (by simp)
  · refine ⟨rfl, rfl, rfl, by rw [Lib.bytesWorld_size]; omega, fun k hk => Lib.bytesWorld_at_old w 5 ⟨xs.toArray⟩ k hk⟩

theorem mk_conv' (w : World) (base : Nat) (hb : base ≤ w.heap.size) (xs : List UInt8) (hx : xs.length ≤ 1000000) : ∃ g cap w', (convert 9 25 (.string ⟨xs.toArray⟩)).run Try.prog w = .ok (.slice (some ⟨g, 0, none⟩) xs.length cap) w' ∧ Mk w' base g cap xs ∧ Below w.heap.size w w' := by
  obtain ⟨cap, w', h1, h2, h3⟩ := mk_conv w xs hx
  exact ⟨_, cap, w', h1, ⟨hb, h2.ex, h2.hn, h2.hc⟩, h3⟩

section
variable {P : Program} {w : World} {ops : Array Oper} {rest : List Oper} {o : Oper} {a : Act} {Q : Exit → Act → World → Prop}
theorem run_append_mk (base : Nat) (t ty : TypeId) (i : TypeInfo) (ht : P.underlying t = some (.slice 5)) (hi : P.info? 5 = some i) (hz : i.zero = some (.int .u8 0)) (hsize : i.size = 1) (hby : i.bytes = 1)
    (g cap n : Nat) (xs : List UInt8) (hn : xs.length = n) (h : Mk w base g cap xs) (x : Nat) (c : UInt8) (hx : w.cell? ⟨x, 0, none⟩ = some (eb c)) (hl : xs.length ≤ 1000000) (hbase : base ≤ w.heap.size) :
    ∃ g' cap' w', (Builtin.append_ #[t, t] ty #[.slice (some ⟨g, 0, none⟩) n cap, .slice (some ⟨x, 0, none⟩) 1 1]).run P w = .ok (.slice (some ⟨g', 0, none⟩) (n + 1) cap') w' ∧ Mk w' base g' cap' (xs ++ [c]) ∧ Below base w w' := by
  subst hn
  obtain ⟨cur, fz, h1, h2, h3, h4⟩ := h.ex
  have hnews : ∀ j u, ([eb c] : List Value)[j]? = some u → w.cell? ((⟨x, 0, none⟩ : Addr).add j) = some u := fun j u hj => by
    have hj0 : j = 0 := by
      have := (List.getElem?_eq_some_iff.1 hj).1
      simpa using this
    subst hj0
    simp only [List.getElem?_cons_zero, Option.some.injEq] at hj
    subst hj
    have : (⟨x, 0, none⟩ : Addr).add 0 = ⟨x, 0, none⟩ := by simp [Addr.add]
    rw [this]; exact hx
  by_cases hroom : xs.length + 1 ≤ cap
  · have hf := run_firstCells_some (P := P) w i.size 1 ⟨x, 0, none⟩ 1 1 [eb c] (by rw [hsize]; rfl) hnews
    have hst := run_storeCells_mk P g (xs.length * i.size) 5 fz [eb c] 0 cur w h1 (by rw [h3]; exact h2) (by rw [hsize, h3]; simpa using hroom) (by simp [eb, Value.oneCell'])
    simp only [Nat.add_zero, hsize, Nat.mul_one] at hst
    rw [hsize] at hf
    refine ⟨g, cap, w.setRow g (cur.toList.take xs.length ++ [eb c] ++ cur.toList.drop (xs.length + 1)).toArray, ?_, ⟨h.hb, ⟨_, fz, setRow_heap w g cur _ _ _ h1, h2, ?_, ?_⟩, by simpa using hroom, h.hc⟩, ?_⟩
    rotate_left
    · simp
      omega
    · have e : (cur.toList.take xs.length).length = xs.length := by rw [h4]; simp
      rw [h4, List.length_append, List.length_singleton, List.map_append, List.map_singleton]
      exact List.take_left' (by simp)
    · exact ⟨rfl, rfl, rfl, by simp [World.setRow], fun k hk => setRow_other w g k _ (by have := h.hb; omega)⟩
    · simp [Builtin.append_, run_underlying ht, sizeOf, typeInfo, hi, Builtin.lenOf, hroom, hf, Addr.add_lit, hst, hsize]
  · have holds : ∀ j u, (xs.map eb)[j]? = some u → w.cell? ((⟨g, 0, none⟩ : Addr).add j) = some u := fun j u hj => by
      have hj' : j < xs.length := by
        have := (List.getElem?_eq_some_iff.1 hj).1
        simpa using this
      have ha : (⟨g, 0, none⟩ : Addr).add j = ⟨g, j, none⟩ := by by_cases h0 : j = 0 <;> simp [Addr.add, h0]
      rw [ha, h.cell j hj']
      rw [List.getElem?_map, List.getElem?_eq_getElem hj'] at hj
      simpa using hj
    have hcap : cap = xs.length := by have := h.hn; omega
    have hr := run_append_grow (P := P) w t ty 5 i (.int .u8 0) ht hi hz ⟨g, 0, none⟩ xs.length cap (xs.map eb) (by rw [hsize]; simp) holds ⟨x, 0, none⟩ 1 1 [eb c] (by rw [hsize]; rfl) hnews (by omega) (by omega) (by rw [hby, Nat.mul_one]; have := nextslicecap_le (need := xs.length + 1) (old := cap) (by omega); omega)
    refine ⟨_, _, _, hr, ?_, ((Below.refl base w).drew).alloc hbase _⟩
    have ho := own_new_row w base 5 ((xs ++ [c]).map eb) (.int .u8 0) (grownCap w (xs.length + 1) cap 5) (xs.length + 1) (by simp) hbase (grownCap_ge _ _ _ _) (grownCap_le_maxLen _ _ _ _ (by unfold maxLen; omega)) rfl
    have e1 : ((xs ++ [c]).map eb).toArray = (xs.map eb).toArray ++ [eb c].toArray := by simp
    rw [e1] at ho
    have hl1 : (xs ++ [c]).length = xs.length + 1 := by simp
    rw [← hl1] at ho ⊢
    exact Mk.own ho

theorem wpList_append_mk (hgd : o.guard = none) (s x : Operand) (t : TypeId) (ho : o.op = .call { callee := .builtin .append, args := #[s, x], argTypes := #[t, t] })
    (base : Nat) (i : TypeInfo) (ht : P.underlying t = some (.slice 5)) (hi : P.info? 5 = some i) (hz : i.zero = some (.int .u8 0)) (hsize : i.size = 1) (hby : i.bytes = 1)
    (g cap n : Nat) (xs : List UInt8) (hn : xs.length = n) (h : Mk w base g cap xs) (hs : a.eval s = .slice (some ⟨g, 0, none⟩) n cap) (b : Nat) (c : UInt8) (hx : a.eval x = .slice (some ⟨b, 0, none⟩) 1 1) (hc : w.cell? ⟨b, 0, none⟩ = some (eb c)) (hl : xs.length ≤ 1000000) (hbase : base ≤ w.heap.size)
    (hw : ∀ g' cap' w', Mk w' base g' cap' (xs ++ [c]) → Below base w w' → wpList P ops Q rest (a.put o.dst (.slice (some ⟨g', 0, none⟩) (n + 1) cap')) w') : wpList P ops Q (o :: rest) a w := by
  refine wpList_plain hgd fun K hK => ?_
  obtain ⟨g', cap', w', hrun, h2, h3⟩ := run_append_mk (P := P) (w := w) base t o.type i ht hi hz hsize hby g cap n xs hn h b c hc hl hbase
  unfold Oper.wp
  simp only [execOp, ho, resolve, invoke, builtin, Sem.run_bind, Sem.run_pure, Result.andThen_ok, List.map_toArray, List.map_cons, List.map_nil, hs, hx, hrun]
  exact hK _ _ (hw g' cap' w' h2 h3)

/-- copy(b[p:], s). -/
theorem run_copy_mk (base : Nat) (dT sT ty elem : TypeId) (hu : P.underlying dT = some (.slice elem)) (hs : (P.info? elem).map (·.size) = some 1) (g cap : Nat) (xs : List UInt8) (h : Mk w base g cap xs) (p m dCap : Nat) (hp : p + m ≤ xs.length) (u : Value) (ys : List UInt8) (hy : Sl eb w u ys) (hym : ys.length ≤ m) :
    ∃ w', (Builtin.copy_ #[dT, sT] ty #[.slice (some ⟨g, p, none⟩) m dCap, u]).run P w = .ok (goInt ys.length) w' ∧ Mk w' base g cap (Jr.put xs p ys) ∧ w.grownBy w' (some g) := by
  obtain ⟨cur, fz, h1, h2, h3, h4⟩ := h.ex
  obtain ⟨ad, c, rfl, hc1, hc2, hc3, hr⟩ := hy
  have hmin : Nat.min ys.length m = ys.length := Nat.min_eq_left hym
  by_cases h0 : ys.length = 0
  · have hrun := run_copy_none (P := P) w dT sT ty elem (some ⟨g, p, none⟩) ad m dCap ys.length c hu hs (by rw [hmin]; exact h0)
    have hy0 : ys = [] := List.eq_nil_of_length_eq_zero h0
    subst hy0
    exact ⟨w, hrun, by rw [show Jr.put xs p [] = xs by unfold Jr.put; simp]; exact h, World.grownBy.refl w _⟩
  · obtain ⟨b, off, rfl, hb, hc⟩ := hr.form (by omega)
    have hsrc : ∀ j v, (ys.map eb)[j]? = some v → w.cell? ((⟨b, off, none⟩ : Addr).add j) = some v := fun j v hj => by
      have hj' : j < ys.length := by
        have := (List.getElem?_eq_some_iff.1 hj).1
        simpa using this
      have ha : (⟨b, off, none⟩ : Addr).add j = ⟨b, off + j, none⟩ := by by_cases h0 : j = 0 <;> simp [Addr.add, h0]
      rw [ha, hc j hj']
      rw [List.getElem?_map, List.getElem?_eq_getElem hj'] at hj
      simpa using hj
    have hxn := h.hn
    have hl := run_loadCells_list (P := P) w ⟨b, off, none⟩ (ys.map eb) hsrc
    have hst := run_storeCells_mk P g p 5 fz (ys.map eb) 0 cur w h1 (by rw [h3]; exact h2) (by rw [h3, List.length_map]; omega) (fun v hv => by obtain ⟨x, _, rfl⟩ := List.mem_map.1 hv; rfl)
    simp only [Nat.add_zero, List.length_map] at hst hl
    refine ⟨w.setRow g (cur.toList.take p ++ ys.map eb ++ cur.toList.drop (p + ys.length)).toArray, ?_, ⟨h.hb, ⟨_, fz, setRow_heap w g cur _ _ _ h1, h2, ?_, ?_⟩, ?_, h.hc⟩, ⟨rfl, rfl, rfl, by simp [World.setRow], fun k _ hk => setRow_other w g k _ (fun e => hk (by rw [e]))⟩⟩
    rotate_left
    · simp
      omega
    · have e : (Jr.put xs p ys).length = xs.length := by unfold Jr.put; simp; omega
      rw [e]
      have e2 : (Jr.put xs p ys).map eb = splice (xs.map eb) p (ys.map eb) := by
        unfold Jr.put splice
        simp [List.map_take, List.map_drop]
      rw [e2, ← h4]
      apply List.ext_getElem?
      intro j
      rw [List.getElem?_take]
      have hcl : cur.toList.length = cap := by simpa using h3
      have hs1 : (cur.toList.take p ++ ys.map eb ++ cur.toList.drop (p + ys.length)) = splice cur.toList p (ys.map eb) := by unfold splice; simp
      rw [hs1, splice_get _ _ _ (by rw [hcl, List.length_map]; omega), splice_get _ _ _ (by rw [List.length_take, hcl, List.length_map]; omega)]
      simp only [List.length_map, List.getElem?_take]
      by_cases c1 : j < xs.length
      · simp only [if_pos c1]
      · rw [if_neg c1, if_neg (by omega), if_neg (by omega), if_neg c1]
    · have e : (Jr.put xs p ys).length = xs.length := by unfold Jr.put; simp; omega
      rw [e]; exact hxn
    · cases hq : P.info? elem with
      | none => simp [hq] at hs
      | some i =>
        have hi : i.size = 1 := by simpa [hq] using hs
        simp [Builtin.copy_, run_underlying hu, Builtin.lenOf, Builtin.firstCells, sizeOf, typeInfo, hq, hi, hmin, hl, hst]
theorem step_copy_mk {K : Act → World → Prop} {E : Prop} (hgd : o.guard = none) (d s : Operand) (dT sT : TypeId) (ho : o.op = .call { callee := .builtin .copy, args := #[d, s], argTypes := #[dT, sT] }) (e : TypeId) (hu : P.underlying dT = some (.slice e)) (hsz : (P.info? e).map (·.size) = some 1)
    (base g cap : Nat) (xs : List UInt8) (hmk : Mk w base g cap xs) (off m dCap : Nat) (hd : a.eval d = .slice (some ⟨g, off, none⟩) m dCap) (hfit : off + m ≤ xs.length)
    (u : Value) (ys : List UInt8) (hs : a.eval s = u) (hsl : Sl eb w u ys) (hym : ys.length ≤ m)
    (h : ∀ w', Mk w' base g cap (Jr.put xs off ys) → w.grownBy w' (some g) → K (a.put o.dst (goInt ys.length)) w') :
    if Region.wanted o (yielded ops a.tmps) = true then Oper.wp P o a w K Q else E := by
  have hw : Region.wanted o (yielded ops a.tmps) = true := by simp [Region.wanted, hgd]
  rw [if_pos hw]
  obtain ⟨w', hrun, h1, h2⟩ := run_copy_mk (P := P) (w := w) base dT sT o.type e hu hsz g cap xs hmk off m dCap hfit u ys hsl hym
  unfold Oper.wp
  simp only [execOp, ho, resolve, invoke, builtin, Sem.run_bind, Sem.run_pure, Result.andThen_ok, List.map_toArray, List.map_cons, List.map_nil, hd, hs, hrun]
  exact h w' h1 h2
end
end Go.Proofs.Ytbklmpekpcneeaa
namespace Go.Proofs.Ytbklmpekpcneeaa
open Go.RowKit
set_option maxRecDepth 100000

def slLen : Value → Nat
  | .slice _ n _ => n
  | _ => 0
theorem over_put (c s : List UInt8) (p k : Nat) (X : List UInt8) (h1 : X = (43 :: c) ++ List.replicate k 0) (h2 : k = 0 ∨ (s ≠ [] ∧ X.length ≤ 1 + p + s.length)) (h3 : s ≠ [] → ¬ X.length < 1 + p + s.length) :
    (s = [] → X = 43 :: Nd.over c p s) ∧ (s ≠ [] → Jr.put X (1 + p) s = 43 :: Nd.over c p s) := by
  refine ⟨fun hs => ?_, fun hs => ?_⟩
  · rcases h2 with h2 | h2
    · rw [h1, h2, hs, Nd.over_nil]; simp
    · exact absurd hs h2.1
  · have hl : X.length = c.length + 1 + k := by rw [h1]; simp; omega
    have h4 := h3 hs
    have hk : k = p + s.length - c.length := by
      rcases h2 with h2 | h2
      · omega
      · have := h2.2; omega
    unfold Nd.over
    rw [if_neg hs, ← hk, h1]
    unfold Jr.put
    rw [show 1 + p = p + 1 by omega, show p + 1 + s.length = (p + s.length) + 1 by omega]
    simp

set_option maxHeartbeats 16000000 in
theorem lcont_w {v0 v1 : Value} {w : World} (o0 : IsOps w v0) (o1 : IsOp w v1) : Calls Try.prog 6 #[v0, v1] w fun e w' => e = .returned (.bool true) ∧ Below w.heap.size w w' := by
  obtain ⟨l0, hv0⟩ := o0
  obtain ⟨x1, a1, c1, rfl, hx1⟩ := o1
  obtain ⟨a0, c0, rfl, -⟩ := hv0.open
  have HV0 := Lib.hid hv0
  have HAW := Lib.hid awake_w
  have HFE : Hid (∀ W, Below w.heap.size w W → Calls Try.prog 12 #[.slice a0 l0.length c0] W fun e w' => e = .returned (.bool (Nd.few l0)) ∧ W = w') := fun W hW => rfew_w (hv0.below hW (Nat.le_refl _))
  have HDK : Hid (Nd.few l0 = true → ∀ W, Below w.heap.size w W → Calls Try.prog 13 #[.slice a0 l0.length c0] W fun e w' => ∃ v', e = .returned v' ∧ Sl eb w' v' (Nd.disk l0) ∧ Below W.heap.size W w') := fun hf W hW => rdisk_w (hv0.below hW (Nat.le_refl _)) hf
  have HOK := Lib.hid (Nd.disk_ok l0)
  clear hv0
  obtain ⟨i0, hi0, hz0, hz1, hz2⟩ := info_parts Try.info5
  have hszu : (Try.prog.info? 5).map (·.size) = some 1 := by kernel_rfl
  obtain ⟨kd, nn, oo, s⟩ := x1
  simp only at hx1
  obtain ⟨W1, hW1⟩ : ∃ W, W = w.alloc (.cells #[.int .i64 kd, .int .i64 nn, .int .i64 oo, .slice a1 s.length c1] 55 (0, 0)) := ⟨_, rfl⟩
  have hl1 : Below w.heap.size w W1 := by rw [hW1]; exact low_alloc _ _
  have hk1 : Bk W1 w.heap.size 55 [.int .i64 kd, .int .i64 nn, .int .i64 oo, .slice a1 s.length c1] := by rw [hW1]; exact Bk.new w _ [.int .i64 kd, .int .i64 nn, .int .i64 oo, .slice a1 s.length c1]
  have HW1 := Lib.hid hW1
  have HL1 := Lib.hid hl1
  have HQ : Hid (∀ W, Below W1.heap.size W1 W → W.cell? ⟨w.heap.size, 0, none⟩ = some (.int .i64 kd) ∧ W.cell? ⟨w.heap.size, 1, none⟩ = some (.int .i64 nn) ∧ W.cell? ⟨w.heap.size, 2, none⟩ = some (.int .i64 oo) ∧ W.cell? ⟨w.heap.size, 3, none⟩ = some (.slice a1 s.length c1) ∧ Sl eb W (.slice a1 s.length c1) s) := fun W hW => by
    have h := hk1.below hW hk1.lt
    exact ⟨h.cell 0, h.cell 1, h.cell 2, h.cell 3, (hx1.below hl1 (Nat.le_refl _)).below hW (Nat.le_refl _)⟩
  have HF1 : Hid (∀ W n, n = W.heap.size → Below W1.heap.size W1 W → Calls Try.prog 12 #[.slice (some ⟨n, 0, none⟩) 1 1] (W.alloc (.cells #[.int .i64 kd, .int .i64 nn, .int .i64 oo, .slice a1 s.length c1] 55)) fun e w' => e = .returned (.bool (decide (s.length ≤ 1600))) ∧ W.alloc (.cells #[.int .i64 kd, .int .i64 nn, .int .i64 oo, .slice a1 s.length c1] 55) = w') := fun W n hn hW => by
    have hs : Sl eb (W.alloc (.cells #[.int .i64 kd, .int .i64 nn, .int .i64 oo, .slice a1 s.length c1] 55)) (.slice a1 s.length c1) s := ((hx1.below hl1 (Nat.le_refl _)).below hW (Nat.le_refl _)).below (low_alloc W _) (Nat.le_refl _)
    have h := rfew_w (v := .slice (some ⟨n, 0, none⟩) 1 1) (l := [(kd, nn, oo, s)]) (w := W.alloc (.cells #[.int .i64 kd, .int .i64 nn, .int .i64 oo, .slice a1 s.length c1] 55))
      ⟨[(kd, nn, oo, a1, s.length, c1)], ⟨some ⟨n, 0, none⟩, 1, rfl, Nat.le_refl 1, by decide, by simp, Rm.one (s := 4) (enc := eo) W _ _ _ hn⟩, rfl, fun i h h' => by
        have hi : i = 0 := by simpa using h
        subst hi
        exact ⟨rfl, rfl, rfl, hs⟩⟩
    have e : Nd.few [(kd, nn, oo, s)] = decide (s.length ≤ 1600) := by simp [Nd.few]
    rw [e] at h
    exact h
  clear hx1 hW1 hl1 hk1
  generalize Nd.disk l0 = d at *
  cases hf : Nd.few l0 with
  | false =>
    rw [hf] at HFE
    clear hf
    go_enter Try.func6, Try.ntmps6
    go_upto_region 1 with fail
    rw [← HW1.out]
    go_wp2_with (first
      | (go_at_call 11; (with_reducible refine (HAW.out _).mono ?_); rintro e w1 ⟨rfl, hb1⟩)
      | (go_at_call 12; (with_reducible refine (HFE.out _ (stepAny HL1.out hb1)).mono ?_); rintro e w' ⟨rfl, rfl⟩))
    go_ret
    exact ⟨rfl, stepAny HL1.out hb1⟩
  | true =>
  have HDK2 := Lib.hid (HDK.out hf)
  rw [hf] at HFE
  clear hf HDK
  by_cases hs16 : s.length ≤ 1600
  rotate_left
  · have f0 : decide (s.length ≤ 1600) = false := decide_eq_false hs16
    rw [f0] at HF1
    clear f0
    go_enter Try.func6, Try.ntmps6
    go_upto_region 1 with fail
    rw [← HW1.out]
    go_upto_region 3 with (first
      | (go_at_call 11; (with_reducible refine (HAW.out _).mono ?_); rintro e w1 ⟨rfl, hb1⟩))
    obtain ⟨z0, z1, z2, z3, z4⟩ := HQ.out w1 hb1
    go_wp2_with (first
      | (go_at_call 12; (with_reducible refine (HFE.out _ (stepAny HL1.out hb1)).mono ?_); rintro e w' ⟨rfl, rfl⟩)
      | (go_at_call 12; (with_reducible refine (HF1.out w1 _ rfl hb1).mono ?_); rintro e w' ⟨rfl, rfl⟩))
    go_ret
    exact ⟨rfl, stepAny HL1.out (stepAny hb1 (low_alloc _ _))⟩
  have f0 : decide (s.length ≤ 1600) = true := decide_eq_true hs16
  rw [f0] at HF1
  clear f0
  have HWR : Hid (∀ W v, Sl eb W v d → Sl eb W (.slice a1 s.length c1) s → Calls Try.prog 27 #[v, .int .i64 nn, .int .i64 oo, .slice a1 s.length c1] W fun e w' => ∃ v', e = .returned (.tuple #[v', .int .i64 (Nd.write d nn oo s).2]) ∧ Sl eb w' v' (Nd.write d nn oo s).1 ∧ Below W.heap.size W w') := fun W v hv hu => vwrite_w hv (by rw [HOK.out.1]; decide) nn oo hu (by omega)
  have hte := fun h => Nd.write_err (d := d) (n := nn) (o := oo) (s := s) h
  have htl := fun d' h => Nd.write_law (d := d) (d' := d') (n := nn) (o := oo) (s := s) HOK.out h
  obtain ⟨d', ec, hx⟩ : ∃ d' ec, Nd.write d nn oo s = (d', ec) := ⟨_, _, rfl⟩
  rw [hx] at HWR hte htl
  simp only at hte
  clear hx
  by_cases he : ec = 0
  rotate_left
  · have hd0 := hte he
    have f1 : (ec != 0) = true := by rw [bne_iff_ne]; exact he
    rw [hd0] at HWR
    clear hte htl he hd0
    go_enter Try.func6, Try.ntmps6
    go_upto_region 1 with fail
    rw [← HW1.out]
    go_upto_region 3 with (first
      | (go_at_call 11; (with_reducible refine (HAW.out _).mono ?_); rintro e w1 ⟨rfl, hb1⟩))
    obtain ⟨z0, z1, z2, z3, z4⟩ := HQ.out w1 hb1
    go_upto_region 5 with (first
      | (go_at_call 12; (with_reducible refine (HFE.out _ (stepAny HL1.out hb1)).mono ?_); rintro e w' ⟨rfl, rfl⟩)
      | (go_at_call 12; (with_reducible refine (HF1.out w1 _ rfl hb1).mono ?_); rintro e w' ⟨rfl, rfl⟩))
    clear z0 z1 z2 z3 z4
    have hb1a := stepAny hb1 (low_alloc w1 (.cells #[.int .i64 kd, .int .i64 nn, .int .i64 oo, .slice a1 s.length c1] 55))
    go_upto_region 6 with (go_at_call 13; (with_reducible refine (HDK2.out _ (stepAny HL1.out hb1a)).mono ?_); rintro e w2 ⟨vd, rfl, hsd, hb2⟩)
    have hb12 := stepAny hb1a hb2
    clear hb1a hb1 hb2
    obtain ⟨z0, z1, z2, z3, z4⟩ := HQ.out w2 hb12
    go_upto_region 7 with (go_at_call 27; (with_reducible refine (HWR.out _ _ hsd z4).mono ?_); rintro e w3 ⟨v3, rfl, hs3, hb3⟩)
    clear z0 z1 z2 z3 z4
    obtain ⟨a3, c3, rfl, -⟩ := hs3
    go_wp2_with fail
    go_ret
    exact ⟨by simp, stepAny (stepAny HL1.out hb12) hb3⟩
  obtain ⟨hok, m, p, c, rfl, rfl, hm32, hc1536, hps, hcd, hcd', hoth⟩ := htl d' (by rw [he])
  subst he
  clear hte htl
  have HCW : Hid (∀ W v (i : Int), Sl eb W v d → Calls Try.prog 15 #[v, .int .i64 i] W fun e w' => e = .returned (.string ⟨(Nd.cont d i).toArray⟩) ∧ Below W.heap.size W w') := fun W v i hv => lcontent_w hv (by rw [HOK.out.1]; decide) i
  have HCW' : Hid (∀ W v (i : Int), Sl eb W v d' → Calls Try.prog 15 #[v, .int .i64 i] W fun e w' => e = .returned (.string ⟨(Nd.cont d' i).toArray⟩) ∧ Below W.heap.size W w') := fun W v i hv => lcontent_w hv (by rw [hok.1]; decide) i
  have hfin := fun k X h1 h2 h3 => over_put c s p k X h1 h2 h3
  obtain ⟨S, hS⟩ : ∃ S, S = 43 :: c := ⟨_, rfl⟩
  obtain ⟨T, hT⟩ : ∃ T, T = 43 :: Nd.over c p s := ⟨_, rfl⟩
  have hSl : S.length ≤ 1537 := by rw [hS, List.length_cons]; omega
  rw [← hS] at hcd hfin
  rw [← hT] at hcd' hfin
  have HFIN := Lib.hid hfin
  have HPS := Lib.hid hps
  have HOTH := Lib.hid hoth
  have HCD := Lib.hid hcd
  have HCD' := Lib.hid hcd'
  clear hS hT hfin hps hoth hcd hcd'
  go_enter Try.func6, Try.ntmps6
  go_upto_region 1 with fail
  rw [← HW1.out]
  go_upto_region 3 with (first
    | (go_at_call 11; (with_reducible refine (HAW.out _).mono ?_); rintro e w1 ⟨rfl, hb1⟩))
  obtain ⟨z0, z1, z2, z3, z4⟩ := HQ.out w1 hb1
  go_upto_region 5 with (first
    | (go_at_call 12; (with_reducible refine (HFE.out _ (stepAny HL1.out hb1)).mono ?_); rintro e w' ⟨rfl, rfl⟩)
    | (go_at_call 12; (with_reducible refine (HF1.out w1 _ rfl hb1).mono ?_); rintro e w' ⟨rfl, rfl⟩))
  clear z0 z1 z2 z3 z4
  have hb1a := stepAny hb1 (low_alloc w1 (.cells #[.int .i64 kd, .int .i64 (m : Int), .int .i64 (p : Int), .slice a1 s.length c1] 55))
  go_upto_region 6 with (go_at_call 13; (with_reducible refine (HDK2.out _ (stepAny HL1.out hb1a)).mono ?_); rintro e w2 ⟨vd, rfl, hsd, hb2⟩)
  have hb12 := stepAny hb1a hb2
  clear hb1a hb1 hb2
  obtain ⟨z0, z1, z2, z3, z4⟩ := HQ.out w2 hb12
  go_upto_region 7 with (go_at_call 27; (with_reducible refine (HWR.out _ _ hsd z4).mono ?_); rintro e w3 ⟨v3, rfl, hs3, hb3⟩)
  clear z0 z1 z2 z3 z4
  have hl3 := stepAny hb12 hb3
  have HL3 := Lib.hid hl3
  have HQ3 : Hid (∀ W, Below w3.heap.size w3 W → W.cell? ⟨w.heap.size, 1, none⟩ = some (.int .i64 (m : Int)) ∧ W.cell? ⟨w.heap.size, 2, none⟩ = some (.int .i64 (p : Int)) ∧ W.cell? ⟨w.heap.size, 3, none⟩ = some (.slice a1 s.length c1) ∧ Sl eb W (.slice a1 s.length c1) s) := fun W hW => (HQ.out W (stepAny hl3 hW)).2
  have HA : Hid (∀ W (i : Int), Below w3.heap.size w3 W → Calls Try.prog 15 #[vd, .int .i64 i] W fun e w' => e = .returned (.string ⟨(Nd.cont d i).toArray⟩) ∧ Below W.heap.size W w') := fun W i hW => HCW.out W vd i ((hsd.below hb3 (Nat.le_refl _)).below hW (Nat.le_refl _))
  have HB : Hid (∀ W (i : Int), Below w3.heap.size w3 W → Calls Try.prog 15 #[v3, .int .i64 i] W fun e w' => e = .returned (.string ⟨(Nd.cont d' i).toArray⟩) ∧ Below W.heap.size W w') := fun W i hW => HCW'.out W v3 i (hs3.below hW (Nat.le_refl _))
  have HA1 : Hid (∀ W, Below w3.heap.size w3 W → Calls Try.prog 15 #[vd, .int .i64 (m : Int)] W fun e w' => e = .returned (.string ⟨S.toArray⟩) ∧ Below W.heap.size W w') := fun W hW => by
    have h := HA.out W (m : Int) hW
    rw [HCD.out] at h
    exact h
  have HB1 : Hid (∀ W, Below w3.heap.size w3 W → Calls Try.prog 15 #[v3, .int .i64 (m : Int)] W fun e w' => e = .returned (.string ⟨T.toArray⟩) ∧ Below W.heap.size W w') := fun W hW => by
    have h := HB.out W (m : Int) hW
    rw [HCD'.out] at h
    exact h
  have HCK : Hid (∀ W, Below w3.heap.size w3 W → Calls Try.prog 17 #[v3] W fun e w' => e = .returned (.int .i64 0) ∧ Below W.heap.size W w') := fun W hW => by
    have h := vcheck_w (hs3.below hW (Nat.le_refl _)) (by rw [hok.1]; decide)
    rw [hok.check] at h
    exact h
  clear hl3 hsd hs3 hb12 hb3 HAW HFE HDK2 HQ HF1 HWR HCW HCW'
  go_upto_region 9 with fail
  have hl0 := Below.refl w3.heap.size w3
  have hld := low_drew w3
  go_region_held3 (fun w' => w'.cell? ⟨w.heap.size, 1, none⟩ = some (.int .i64 (m : Int))) (first | with_reducible exact (HQ3.out _ (by with_reducible assumption)).1 | go_keep) ((first
    | (go_at_call 15; (with_reducible refine (HA1.out _ (by with_reducible assumption)).mono ?_); rintro e w4 ⟨rfl, hb4⟩; have hl4 := stepAny hld hb4)
    | (go_at_call 15; (with_reducible refine (HB1.out _ (by with_reducible assumption)).mono ?_); rintro e w5 ⟨rfl, hb5⟩; have hl5 := stepAny hl4 hb5)))
  have hl6 := hl5.size
  obtain ⟨g0, cap0, w6, hcv, hmk, hb6⟩ := mk_conv' w5 w3.heap.size hl6 S (by omega)
  have HL6 := Lib.hid (stepAny hl5 hb6)
  have HMK := Lib.hid hmk
  clear hmk hb6 hl6 hl4 hb4 hb5 hl0 hld hl5
  go_wp2_with fail
  clear hcv
  go_loopw [10] (fun u wr => ∃ (X : List UInt8) (k g cap : Nat), u = .slice (some ⟨g, 0, none⟩) X.length cap ∧ Mk wr w3.heap.size g cap X ∧ Hid (X = S ++ List.replicate k 0) ∧ Hid (k = 0 ∨ (s ≠ [] ∧ X.length ≤ 1 + p + s.length)) ∧ X.length ≤ 3200 ∧ Below w3.heap.size w3 wr) (fun u _ => 4000 - slLen u)
  case atStart => exact ⟨S, 0, g0, cap0, rfl, HMK.out, by show _ = _; simp, Or.inl rfl, by omega, HL6.out⟩
  case round =>
    obtain ⟨X, k, g, cap, rfl, hmk, HX, HK, hX3, hbr⟩ := hrel
    obtain ⟨z1, z2, z3, z4⟩ := HQ3.out wr hbr
    by_cases hs0 : s.length = 0
    · have hsn : s = [] := List.eq_nil_of_length_eq_zero hs0
      have f1 : ¬ (0 : Int) < (s.length : Int) := by omega
      have HXP : Hid (X = T) := (HFIN.out k X HX.out HK.out (fun h => absurd hsn h)).1 hsn
      rw [HXP.out] at hmk
      have hTl : X.length = T.length := by rw [HXP.out]
      have hcv := conv_run wr (some ⟨g, 0, none⟩) T cap hmk.rd
      rw [← hTl] at hcv
      have HCV := Lib.hid hcv
      have HBR := Lib.hid hbr
      clear hTl hmk HXP hsn hs0 hcv hbr
      go_upto_region 15 with fail
      have hb8 := HBR.out
      have hcv := HCV.out
      go_upto_region 17 with (go_at_call 17; (with_reducible refine (HCK.out _ hb8).mono ?_); rintro e w9 ⟨rfl, hb9⟩)
      have HB19 := Lib.hid (stepAny hb8 hb9)
      clear hcv hb8 hb9 z1 z2 z3
      go_wp2_with fail
      go_loopw [11] (fun i wt => ∃ j : Nat, i = .int .i64 j ∧ j ≤ 32 ∧ Below w3.heap.size w3 wt) (fun i _ => 32 - (intOf i).toNat)
      case atStart => exact ⟨0, rfl, by omega, HB19.out⟩
      case round =>
        rename World => wt
        obtain ⟨j, rfl, hj, hbt⟩ := hrel
        have z1 := (HQ3.out wt hbt).1
        by_cases hlt : j < 32
        · have f5 : (j : Int) < 32 := by omega
          have f6 : (0 : Int) ≤ (j : Int) := by omega
          by_cases hjm : j = m
          · have f7 : ((j : Int) != (m : Int)) = false := by rw [hjm]; simp
            have HBT := Lib.hid hbt
            clear hjm hbt
            go_wp2_with fail
            go_roundw
            case rel => exact ⟨j + 1, by go_num, by omega, HBT.out⟩
            case measure => simp [intOf]; omega
          · have f7 : ((j : Int) != (m : Int)) = true := by rw [bne_iff_ne]; omega
            have HA2 := Lib.hid (HA.out wt (j : Int) hbt)
            have HB2 : Hid (∀ W, Below w3.heap.size w3 W → Calls Try.prog 15 #[v3, .int .i64 (j : Int)] W fun e w' => e = .returned (.string ⟨(Nd.cont d (j : Int)).toArray⟩) ∧ Below W.heap.size W w') := fun W hW => by
              have h := HB.out W (j : Int) hW
              rw [HOTH.out j hlt hjm] at h
              exact h
            have HBT := Lib.hid hbt
            generalize Nd.cont d (j : Int) = Y at *
            clear hjm hbt
            go_wp2_with (first
              | (go_at_call 15; (with_reducible refine HA2.out.mono ?_); rintro e wa ⟨rfl, hba⟩; have hba1 := stepAny HBT.out hba)
              | (go_at_call 15; (with_reducible refine (HB2.out _ hba1).mono ?_); rintro e wb ⟨rfl, hbb⟩; have hbb1 := stepAny hba1 hbb))
            go_roundw
            case rel => exact ⟨j + 1, by go_num, by omega, hbb1⟩
            case measure => simp [intOf]; omega
        · have f5 : ¬ (j : Int) < 32 := by omega
          have HBT := Lib.hid (stepAny (stepAny HL1.out HL3.out) hbt)
          clear hbt
          go_wp2_with fail
          go_ret
          exact ⟨rfl, HBT.out⟩
    · have hsn : s ≠ [] := fun h => hs0 (by rw [h]; rfl)
      have hps := HPS.out hsn
      have f1 : (0 : Int) < (s.length : Int) := by omega
      have e1 : IntKind.i64.wrap (1 + (p : Int)) = 1 + (p : Int) := IntWalk.i64_in _ (by omega)
      have e2 : IntKind.i64.wrap (1 + (p : Int) + (s.length : Int)) = 1 + (p : Int) + (s.length : Int) := IntWalk.i64_in _ (by omega)
      by_cases hlt : X.length < 1 + p + s.length
      · have f2 : (X.length : Int) < 1 + (p : Int) + (s.length : Int) := by omega
        have HMK2 := Lib.hid hmk
        have HBR := Lib.hid hbr
        clear hmk hbr
        go_upto_region 12 with fail
        clear f2
        have HC0 : Hid (∀ W : World, (W.alloc (.cells #[.int .u8 0] 5)).cell? ⟨W.heap.size, 0, none⟩ = some (eb 0)) := fun W => (Bk.new W _ [eb 0]).cell 0
        go_wp2_with (at_builtin; refine wpList_append_mk rfl (.tmp 67) (.tmp 68) 25 rfl w3.heap.size i0 Try.underlying25 hi0 hz0 hz1 hz2 g cap X.length X rfl (HMK2.out.below (low_alloc _ _)) rfl _ 0 rfl (HC0.out _) (by omega) (Nat.le_trans HBR.out.size (low_alloc _ _).size) ?_; intro g' cap' w7 hmk7 hmk7b)
        go_roundw
        case rel => exact ⟨X ++ [0], k + 1, g', cap', by rw [List.length_append, List.length_singleton], hmk7, by show _ = _; rw [HX.out, List.append_assoc, List.replicate_succ'], Or.inr ⟨hsn, by rw [List.length_append, List.length_singleton]; omega⟩, by rw [List.length_append, List.length_singleton]; omega, (stepAny HBR.out (low_alloc _ _)).trans hmk7b⟩
        case measure => simp [slLen]; omega
      · have f2 : ¬ (X.length : Int) < 1 + (p : Int) + (s.length : Int) := by omega
        have HMK2 := Lib.hid hmk
        have HBR := Lib.hid hbr
        clear hmk hbr
        go_upto_region 13 with fail
        go_upto_region 14 with fail
        have HXP : Hid (Jr.put X (1 + p) s = T) := (HFIN.out k X HX.out HK.out (fun _ => hlt)).2 hsn
        have f3 : 1 + (p : Int) ≤ (X.length : Int) := by omega
        have f4 : (0 : Int) ≤ 1 + (p : Int) := by omega
        have f5 : (X.length : Int) ≤ (cap : Int) := by have := HMK2.out.hn; omega
        have f6 : (1 + (p : Int)).toNat = 1 + p := by omega
        have f7 : ¬ cap = 1 + p := by have := HMK2.out.hn; omega
        have hbd := stepAny HBR.out (low_drew wr)
        have HMK3 := Lib.hid (HMK2.out.keep (w' := wr.drew) rfl)
        have HZ4 := Lib.hid (HQ3.out _ hbd).2.2.2
        have HGO : Hid (∀ W, wr.drew.grownBy W (some g) → Below w3.heap.size w3 W) := fun W hW => hbd.trans (below_of_grown hW HMK2.out.hb hbd.size)
        clear z4 f2 hs0 f1
        go_region_held3 (fun w' => w'.cell? ⟨w.heap.size, 2, none⟩ = some (.int .i64 (p : Int)) ∧ w'.cell? ⟨w.heap.size, 3, none⟩ = some (.slice a1 s.length c1)) (first | exact ⟨by with_reducible assumption, by with_reducible assumption⟩ | with_reducible exact (fun h => ⟨h.2.1, h.2.2.1⟩) (HQ3.out _ (by with_reducible assumption)) | go_keep) ((first
          | (refine step_copy_mk rfl (.tmp 78) (.tmp 80) 25 25 rfl 5 Try.underlying25 hszu w3.heap.size g cap X HMK3.out (1 + p) (X.length - (1 + p)) (cap - (1 + p)) rfl (by omega) (.slice a1 s.length c1) s rfl HZ4.out (by omega) ?_; intro w8 hmk8 hg8; have hb8 := HGO.out _ hg8)))
        rw [HXP.out] at hmk8
        have hTl : X.length = T.length := by rw [← HXP.out, Nd.put_len (by omega)]
        have hcv := conv_run w8 (some ⟨g, 0, none⟩) T cap hmk8.rd
        rw [← hTl] at hcv
        clear hTl hg8 hmk8 f3 f4 f5 f6 f7 hbd e1 e2 hlt hps
        clear HMK3 HMK2 HGO HXP
        go_upto_region 17 with (go_at_call 17; (with_reducible refine (HCK.out _ hb8).mono ?_); rintro e w9 ⟨rfl, hb9⟩)
        have HB19 := Lib.hid (stepAny hb8 hb9)
        clear hcv hb8 hb9 z1 z2 z3
        go_wp2_with fail
        go_loopw [11] (fun i wt => ∃ j : Nat, i = .int .i64 j ∧ j ≤ 32 ∧ Below w3.heap.size w3 wt) (fun i _ => 32 - (intOf i).toNat)
        case atStart => exact ⟨0, rfl, by omega, HB19.out⟩
        case round =>
          rename World => wt
          obtain ⟨j, rfl, hj, hbt⟩ := hrel
          have z1 := (HQ3.out wt hbt).1
          by_cases hlt : j < 32
          · have f5 : (j : Int) < 32 := by omega
            have f6 : (0 : Int) ≤ (j : Int) := by omega
            by_cases hjm : j = m
            · have f7 : ((j : Int) != (m : Int)) = false := by rw [hjm]; simp
              have HBT := Lib.hid hbt
              clear hjm hbt
              go_wp2_with fail
              go_roundw
              case rel => exact ⟨j + 1, by go_num, by omega, HBT.out⟩
              case measure => simp [intOf]; omega
            · have f7 : ((j : Int) != (m : Int)) = true := by rw [bne_iff_ne]; omega
              have HA2 := Lib.hid (HA.out wt (j : Int) hbt)
              have HB2 : Hid (∀ W, Below w3.heap.size w3 W → Calls Try.prog 15 #[v3, .int .i64 (j : Int)] W fun e w' => e = .returned (.string ⟨(Nd.cont d (j : Int)).toArray⟩) ∧ Below W.heap.size W w') := fun W hW => by
                have h := HB.out W (j : Int) hW
                rw [HOTH.out j hlt hjm] at h
                exact h
              have HBT := Lib.hid hbt
              generalize Nd.cont d (j : Int) = Y at *
              clear hjm hbt
              go_wp2_with (first
                | (go_at_call 15; (with_reducible refine HA2.out.mono ?_); rintro e wa ⟨rfl, hba⟩; have hba1 := stepAny HBT.out hba)
                | (go_at_call 15; (with_reducible refine (HB2.out _ hba1).mono ?_); rintro e wb ⟨rfl, hbb⟩; have hbb1 := stepAny hba1 hbb))
              go_roundw
              case rel => exact ⟨j + 1, by go_num, by omega, hbb1⟩
              case measure => simp [intOf]; omega
          · have f5 : ¬ (j : Int) < 32 := by omega
            have HBT := Lib.hid (stepAny (stepAny HL1.out HL3.out) hbt)
            clear hbt
            go_wp2_with fail
            go_ret
            exact ⟨rfl, HBT.out⟩
end Go.Proofs.Ytbklmpekpcneeaa
namespace Go.Proofs.Ytbklmpekpcneeaa.inodesContent
open Go.ChangeShapes Go.WideShapes Go.ChangeAt Go.RowKit
set_option linter.unusedVariables false

theorem own : ownKnob Try.prog.godebug = none := by kernel_rfl
theorem laidOut : laidOutB Try.prog = true := by kernel_rfl

set_option maxRecDepth 100000 in
theorem lifted (os : Os) (started : os.Started) (H : Type) (enc : TypeId × Value → H) :
    ReturnsInHanded {} Try.checked os 6 .any (Rows.inodesContentSpec.pre6 enc Try.prog Try.f6 Rows.inodesContentRow.domain false) (Rows.inodesContentSpec.post enc Try.prog Try.f6 false true false false) := by
  refine returnsInHanded_of_change (C := Try.checked) own started (by kernel_rfl) Try.func6
    (ChangeSpec.witness6 (enc := enc) (C := Try.checked) false ⟨#[], #[.slice none 0 0, .agg #[.int .i64 0, .int .i64 0, .int .i64 0, .slice none 0 0]], []⟩ 6 (by kernel_rfl) (by kernel_rfl) (by kernel_rfl) (by kernel_rfl)) ?_
  intro W base args ds gs before hval0 hW hcnd _
  have hval : ∀ (j : Nat) t v, Try.f6.params[j]? = some t → args[j]? = some v → Value.okWide Try.prog W .any base t v := hval0
  have hW' := hW
  obtain ⟨p, q, hA0, hV, rfl, hfz, hnd⟩ := hW
  have hA : DataW.TrodAll enc Try.prog W 0 (fun _ => true) true Try.f6.params.toList args.toList ds p := hA0
  rw [Try.params6] at hA hval
  obtain ⟨v0, vs0, d0, ds0, p0, q0, hargs, rfl, rfl, h0, r0⟩ := trodAll_cons hA
  obtain ⟨v1, vs1, d1, ds1, p1, q1, rfl, rfl, rfl, h1, r1⟩ := trodAll_cons r0
  obtain ⟨rfl, rfl, rfl⟩ := trodAll_nil r1
  obtain rfl : args = #[v0, v1] := by cases args; simp_all
  obtain ⟨rfl, rfl⟩ := trodVars_none hV
  have k0 := h0
  have lt0 : ∀ x ∈ p0, x.block < W.heap.size := by obtain ⟨m, hm⟩ := k0; exact DataW.trod_lt m _ _ _ hm
  have o0 := open_ops (hval 0 22 v0 rfl rfl) (Arg.of h0)
  have k1 := h1
  have lt1 : ∀ x ∈ p1, x.block < W.heap.size := by obtain ⟨m, hm⟩ := k1; exact DataW.trod_lt m _ _ _ hm
  have o1 := open_op (hval 1 55 v1 rfl rfl) (Arg.of h1)
  clear hA0 hval0
  refine (lcont_w o0 o1).mono fun e W' ⟨he, bel⟩ => ?_
  subst he
  exact ⟨_, rfl, _, _, _, [], _, [], hW', trodAll_mk1 (shut_bool Try.underlying4 _), (trodAll_cons_mk (Below.trod laidOut (by kernel_rfl) (of_decide_eq_true (by kernel_rfl)) k0 bel lt0) (trodAll_cons_mk (Below.trod laidOut (by kernel_rfl) (of_decide_eq_true (by kernel_rfl)) k1 bel lt1) trodAll_mk0)), rfl, bel.frame _, fun h => by cases h⟩

theorem over : Rows.inodesContentRow.holds Try.pinned (OpenSpec.ofChange Rows.inodesContentSpec) :=
  OpenClaim.holds_of_wide 6 Try.f6 rfl rfl rfl rfl rfl rfl rfl ⟨rfl, rfl, rfl, rfl, rfl⟩ rfl rfl rfl rfl rfl (by kernel_rfl) Try.func6 (by kernel_rfl)
    (of_decide_eq_true (by kernel_rfl)) (by unfold Func.isWrapper; first | (rw [if_pos (by decide +kernel)]; kernel_rfl) | (rw [if_neg (by decide +kernel)]; exact ⟨rfl, rfl⟩))
    (fun os started H enc _ => lifted os started H enc)

/-- The statement. -/
theorem proved : Rows.InodesContentSaid := over
#print axioms proved
end Go.Proofs.Ytbklmpekpcneeaa.inodesContent
