/-
  The walks of slices.Delete of one interrupt, and of the test that Take hands over.
-/
import Derived.Test.YtehniblcodkmaaaIj
import Derived.Lib.SliceRun
import Derived.Deep.MidRow
namespace Go.Proofs.Ytehniblcodkmaaa
open Go.RowKit

theorem Below.cellsSet {B b : Nat} {a : World} (hB : B ≤ b) : ∀ (vs : List Value) (o : Nat) (w : World), Below B a w → Below B a (w.setCells b o vs)
  | [], _, _, h => h
  | v :: r, o, w, h => by
    rw [World.setCells]
    exact Below.cellsSet hB r (o + 1) _ (h.setCell (p := ⟨b, o, none⟩) hB v)

theorem heap_setCells {b k : Nat} (hk : k ≠ b) : ∀ (vs : List Value) (o : Nat) (w : World), (w.setCells b o vs).heap[k]? = w.heap[k]?
  | [], _, _ => rfl
  | v :: r, o, w => by
    rw [World.setCells, heap_setCells hk r (o + 1) _]
    exact Below.heap_setCell _ _ _ _ hk

theorem zeroLine : ∀ w, (zeroValue 38).run Try.prog w = .ok (.agg #[.int .i64 0, .int .i64 0, .int .i64 0, .slice none 0 0]) w := fun _ => by kernel_rfl

theorem run_clear_one {P : Program} (w : World) (t e ty : TypeId) (z : Value) (cs : List Value) (ht : P.underlying t = some (.slice e)) (hv : ∀ w, (zeroValue e).run P w = .ok z w) (hz : (Builtin.zeroCells z.cells 1).toList = cs) (h1 : ∀ v ∈ cs, v.oneCell' = true) (b o c : Nat)
    (hc : ∀ j, j < cs.length → (w.cell? ⟨b, o + j, none⟩).isSome = true) (hf : ∀ j, j < cs.length → w.frozen? ⟨b, o + j, none⟩ = false) :
    (Builtin.clear_ #[t] ty #[.slice (some ⟨b, o, none⟩) 1 c]).run P w = .ok (.tuple #[]) (w.setCells b o cs) := by
  have hst := run_storeCells_cells (P := P) b o cs 0 w (by simpa using hc) (by simpa using hf) h1
  simp only [Nat.add_zero] at hst
  simp [Builtin.clear_, run_underlying ht, hv, hz, hst]

set_option maxRecDepth 20000 in
set_option maxHeartbeats 1600000 in
theorem delete_w (g k m cap : Nat) (es : List El) (w : World) (hlen : es.length = k + m + 1) (hn : k + m + 1 ≤ 1000) (hcap : k + m + 1 ≤ cap) (hcm : cap ≤ 9223372036854775807) (hg : g < w.heap.size)
    (hc : ∀ j, j < es.length * 4 → w.cell? ⟨g, j, none⟩ = (es.flatMap el)[j]?) (hf : ∀ j, w.frozen? ⟨g, j, none⟩ = false) :
    Calls Try.prog 39 #[.slice (some ⟨g, 0, none⟩) (k + m + 1) cap, .int .i64 k, .int .i64 (k + 1)] w fun e w' => e = .returned (.slice (some ⟨g, 0, none⟩) (k + m) cap) ∧ Sm 4 el w' (.slice (some ⟨g, 0, none⟩) (k + m) cap) (es.take k ++ es.drop (k + 1)) ∧ (∀ b, b ≠ g → w'.heap[b]? = w.heap[b]?) ∧ Below g w w' := by
  obtain ⟨i0, hi, hz0, hz1, hz2⟩ := info_parts Try.infoLine
  have hfl : (es.flatMap el).length = (k + m + 1) * 4 := by rw [flat_len el_len, hlen]
  have hsome : ∀ j, j < (k + m + 1) * 4 → (w.cell? ⟨g, j, none⟩).isSome = true := fun j hj => by rw [hc j (by omega), List.getElem?_eq_getElem (by omega)]; rfl
  have HSO := Lib.hid hsome
  have HC := Lib.hid hc
  have HF := Lib.hid hf
  clear hc hf hsome
  have f1 : (0 : Int) ≤ (k : Int) := by omega
  have f2 : (k : Int) ≤ (k : Int) + 1 := by omega
  have f3 : (k : Int) + 1 ≤ (k : Int) + (m : Int) + 1 := by omega
  have f4 : (k : Int) + (m : Int) + 1 ≤ (cap : Int) := by omega
  have f5 : ((k : Int) == (k : Int) + 1) = false := by rw [beq_eq_false_iff_ne]; omega
  have f6 : (0 : Int) ≤ (k : Int) + 1 := by omega
  have f7 : ((k : Int) + 1).toNat = k + 1 := by omega
  have f8 : (k : Int) ≤ (cap : Int) := by omega
  obtain ⟨adx, hA⟩ : ∃ adx, (if cap = k + 1 then some (⟨g, 0, none⟩ : Addr) else some ⟨g, (k + 1) * 4, none⟩) = some adx := by split <;> exact ⟨_, rfl⟩
  have hnews : ∀ j u, ((es.flatMap el).drop ((k + 1) * 4))[j]? = some u → w.drew.cell? (adx.add j) = some u := by
    intro j u hj
    rw [List.getElem?_drop] at hj
    have hj' : (k + 1) * 4 + j < (k + m + 1) * 4 := by have := (List.getElem?_eq_some_iff.1 hj).1; omega
    rw [if_neg (by omega)] at hA
    simp at hA
    subst hA
    have ha : (⟨g, (k + 1) * 4, none⟩ : Addr).add j = ⟨g, (k + 1) * 4 + j, none⟩ := by by_cases h0 : j = 0 <;> simp [Addr.add, h0]
    rw [ha]
    show w.cell? _ = _
    rw [HC.out _ (by omega), hj]
  have HNW := Lib.hid hnews
  have hone : ∀ u ∈ (es.flatMap el).drop ((k + 1) * 4), u.oneCell' = true := fun u hu => by
    obtain ⟨y, _, hy⟩ := List.mem_flatMap.1 (List.mem_of_mem_drop hu)
    exact el_one y u hy
  have HONE := Lib.hid hone
  have hdl : ((es.flatMap el).drop ((k + 1) * 4)).length = m * 4 := by rw [List.length_drop, hfl]; omega
  have HDL := Lib.hid hdl
  have HFL := Lib.hid hfl
  have HLEN := Lib.hid hlen
  generalize hD : (es.flatMap el).drop ((k + 1) * 4) = D at *
  have HDD := Lib.hid hD
  clear hnews hone hdl hfl hlen hD
  go_enter Try.func39, Try.ntmps39
  go_wp2_with fail
  go_region_held3 (fun _ => True) (trivial) ((refine step_append_room (by rfl) _ _ 28 (by rfl) 38 i0 4 Try.underlying28 hi hz1 g 0 k cap (by rfl) adx m (cap - (k + 1)) D (by rfl) HDL.out HNW.out HONE.out (by omega) (by intro j hj; exact ⟨by show (w.cell? _).isSome = true; rw [show 0 + k * 4 + j = k * 4 + j by omega]; exact HSO.out _ (by have := HDL.out; omega), HF.out _⟩) ?_))
  have hsome : ∀ j, j < (k + m + 1) * 4 → ((w.drew.setCells g (k * 4) D).cell? ⟨g, j, none⟩).isSome = true := fun j hj =>
    World.isSome_setCells g _ _ _ _ (by show (w.cell? _).isSome = true; exact HSO.out _ hj)
  have hfz : ∀ j, (w.drew.setCells g (k * 4) D).frozen? ⟨g, j, none⟩ = false := fun j => (World.frozen?_setCells g _ _ _ _).trans (HF.out j)
  have hcl : ∀ ty, (Builtin.clear_ #[28] ty #[Value.slice (some ⟨g, (k + m) * 4, none⟩) 1 (cap - (k + m))]).run Try.prog (w.drew.setCells g (k * 4) D) = .ok (.tuple #[]) ((w.drew.setCells g (k * 4) D).setCells g ((k + m) * 4) [.int .i64 0, .int .i64 0, .int .i64 0, .slice none 0 0]) := fun ty =>
    run_clear_one (P := Try.prog) _ 28 38 ty _ _ Try.underlying28 zeroLine (by kernel_rfl) (by intro v hv; simp at hv; rcases hv with rfl | rfl <;> rfl) g ((k + m) * 4) (cap - (k + m)) (fun j hj => hsome _ (by simp at hj; omega)) (fun j _ => hfz _)
  clear hsome hfz HNW
  go_wp2
  go_ret
  have hlen := HLEN.out
  have hdl := HDL.out
  have hfl := HFL.out
  have hb1 : Below g w (w.drew.setCells g (k * 4) D) := Below.cellsSet (Nat.le_refl _) _ _ _ (Below.refl g w).drew
  refine ⟨rfl, ⟨some ⟨g, 0, none⟩, cap, ?_, by simp; omega, by unfold maxLen; omega, by simp, fun i hi => ⟨g, 0, rfl, ?_, fun j hj => ?_⟩⟩, fun b hb => ?_, Below.cellsSet (Nat.le_refl _) _ _ _ hb1⟩
  · have : (es.take k ++ es.drop (k + 1)).length = k + m := by simp; omega
    rw [this]
  · exact Nat.lt_of_lt_of_le hg (Below.cellsSet (B := g) (Nat.le_refl _) _ _ _ hb1).size
  · have hi' : i < k + m := by simp at hi; omega
    rw [Nat.zero_add, World.cell?_setCells_out _ _ _ _ _ (fun _ _ => Or.inl (by simp; omega))]
    by_cases hik : i < k
    · rw [World.cell?_setCells_out _ _ _ _ _ (fun _ _ => Or.inl (by simp; omega))]
      show w.cell? _ = _
      have he : (es.take k ++ es.drop (k + 1))[i] = es[i]'(by omega) := by rw [List.getElem_append_left (by simp; omega), List.getElem_take]
      rw [HC.out _ (by omega), he, flat_get el_len es i j (by omega) hj]
    · obtain ⟨q, rfl⟩ : ∃ q, i = k + q := ⟨i - k, by omega⟩
      have hq : q * 4 + j < D.length := by omega
      have he : (es.take k ++ es.drop (k + 1))[k + q] = es[k + 1 + q]'(by omega) := by
        rw [List.getElem_append_right (by simp; omega)]
        simp
        congr 1
        omega
      have hin := World.cell?_setCells_in g D (k * 4) w.drew (fun j hj => by show (w.cell? _).isSome = true; exact HSO.out _ (by omega)) (q * 4 + j) hq
      rw [show (k + q) * 4 + j = k * 4 + (q * 4 + j) by omega, hin, he, ← List.getElem?_eq_getElem hq, ← HDD.out, List.getElem?_drop, ← flat_get el_len es (k + 1 + q) j (by omega) hj]
      congr 1
      omega
  · rw [heap_setCells hb, heap_setCells hb]
    rfl

theorem free1_w (bs : Nat) (T : TypeId) (m0 m1 m2 m3 m4 : Bool) (us : Value) (d t n : Int) (u : Value) (w : World) (hk : Bk w bs T (stC m0 m1 m2 m3 m4 us)) (hd : 1 ≤ d ∧ d ≤ 4) (xs : List UInt8) :
    Calls Try.prog 38 #[.agg #[.int .i64 d, .int .i64 t, .int .i64 n, u], .pointer (some ⟨bs, 0, none⟩)] w fun e w' => e = .returned (.bool (Iq.free [m0, m1, m2, m3, m4] (d, t, n, xs))) ∧ Below w.heap.size w w' := by
  have hlt := hk.lt
  obtain ⟨p0, p1, p2, p3, p4, p5, -⟩ := hk.box
  have h4 : d = 1 ∨ d = 2 ∨ d = 3 ∨ d = 4 := by omega
  clear hk hd
  rcases h4 with rfl | rfl | rfl | rfl
  all_goals
    go_enter Try.func38, Try.ntmps38
    go_wp2
    go_ret
    exact ⟨rfl, low_alloc _ _⟩
end Go.Proofs.Ytehniblcodkmaaa
