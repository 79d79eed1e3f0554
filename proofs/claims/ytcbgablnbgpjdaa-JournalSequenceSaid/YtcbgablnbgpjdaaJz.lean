/-
  An append that finds no room, onto a row of any mark: the new row is the call's own. An append of a make onto an own row that is full.
-/
import Derived.Test.YtcbgablnbgpjdaaJi
import Derived.Deep.AppendSrc
import Derived.Lib.AppendZerosOnto
namespace Go.Proofs.Ytcbgablnbgpjdaa
open Go.RowKit

theorem own_new_row (w : World) (base : Nat) (e : TypeId) (xs : List Value) (z : Value) (c n : Nat) (hn : xs.length = n) (hb : base ≤ w.heap.size) (hge : n ≤ c) (hcm : c ≤ maxLen) (hz : z.cells.size = 1) :
    (w.drew.alloc (.cells (xs.toArray ++ Builtin.zeroCells z.cells (c - n)) e)).ownsRow base e 1 (.slice (some ⟨w.heap.size, 0, none⟩) n c) n xs := by
  subst hn
  refine ⟨by simp, .inr ⟨w.heap.size, _, _, rfl, hb, heap_alloc_new w.drew _, hge, hcm, ?_, ?_⟩⟩
  · simp only [Array.size_append, List.size_toArray, size_zeroCells, hz]
    omega
  · simp only [Array.toList_append, Nat.mul_one]
    exact List.take_left

/-- The base is full: whatever it is marked by. -/
theorem run_append_full {P : Program} {w : World} (base : Nat) (t ty e : TypeId) (i : TypeInfo) (z : Value) (bytes : Nat) (ht : P.underlying t = some (.slice e)) (hi : P.info? e = some i) (hz : i.zero = some z) (hsize : i.size = 1) (hby : i.bytes = bytes) (hzs : z.cells.size = 1)
    (b off n : Nat) (xs : List Value) (hx : xs.length = n) (hold : ∀ j u, xs[j]? = some u → w.cell? ((⟨b, off, none⟩ : Addr).add j) = some u)
    (a : Addr) (m c : Nat) (news : List Value) (hl : news.length = m) (hnews : ∀ j u, news[j]? = some u → w.cell? (a.add j) = some u) (h1 : ∀ u ∈ news, u.oneCell' = true) (hm : 0 < m)
    (h63 : n + m ≤ maxLen) (hfit : Builtin.nextslicecap (n + m) n * bytes ≤ 281474976710656) (hbase : base ≤ w.heap.size) :
    ∃ v' w', (Builtin.append_ #[t, t] ty #[.slice (some ⟨b, off, none⟩) n n, .slice (some a) m c]).run P w = .ok v' w' ∧ w'.ownsRow base e 1 v' (n + m) (xs ++ news) ∧ Below base w w' := by
  subst hby
  have hr := run_append_grow_src (P := P) w t t ty e i z ht hi hz (some ⟨b, off, none⟩) n n xs
    (run_firstCells_some w.drew i.size n ⟨b, off, none⟩ n n xs (by rw [hsize, Nat.mul_one]; exact hx) (by simpa using hold))
    (.slice (some a) m c) m news (Src.ofSlice w ht a m c news (by rw [hsize, Nat.mul_one]; exact hl) hnews h1) (by omega) (by unfold maxLen at h63; omega) hfit
  refine ⟨_, _, hr, ?_, ?_⟩
  · exact own_new_row w base e (xs ++ news) z _ (n + m) (by simp [hx, hl]) hbase (grownCap_ge _ _ _ _) (grownCap_le_maxLen _ _ _ _ h63) hzs
  · exact ((Below.refl base w).drew).alloc hbase _

theorem zeros_list (z : Value) (hz : z.cells = #[z]) (k : Nat) : (Builtin.zeroCells z.cells k).toList = List.replicate k z := by
  apply List.ext_getElem?
  intro j
  rw [hz]
  by_cases h : j < k
  · simp [Builtin.zeroCells, h, Nat.mod_one]
  · simp [Builtin.zeroCells, h]

/-- append of a make of k onto a row of the call's own. -/
theorem run_append_make {P : Program} {w : World} (base : Nat) (t tn ty e : TypeId) (i : TypeInfo) (z : Value) (kn kq : IntKind) (ht : P.underlying t = some (.slice e)) (htn : P.underlying tn = some (.int kn)) (hi : P.info? e = some i) (hz : i.zero = some z) (hsize : i.size = 1) (hby : i.bytes = 1) (hzc : z.cells = #[z]) (hz1 : z.oneCell' = true)
    (v : Value) (n : Nat) (xs : List Value) (hown : w.ownsRow base e 1 v n xs) (k : Nat) (hn : 0 < n) (hk : 0 < k) (h63 : n + k ≤ 1000000) (hbase : base ≤ w.heap.size) :
    ∃ v' w', (Builtin.append_ #[t, tn] ty #[v, .int kq k]).run P w = .ok v' w' ∧ w'.ownsRow base e 1 v' (n + k) (xs ++ List.replicate k z) ∧ Below base w w' := by
  have hzs : z.cells.size = 1 := by rw [hzc]; rfl
  rcases hown.2 with ⟨rfl, rfl⟩ | ⟨g, cap, cur, rfl, hbg, hg, hnc, hcm, hcs, htake⟩
  · omega
  · have hl := hown.1
    rw [Nat.mul_one] at hl hcs htake
    by_cases hroom : n + k ≤ cap
    · have hst := run_storeCells_at (P := P) g n e (Builtin.zeroCells z.cells k).toList 0 cur w hg (by rw [zeros_list z hzc]; simp; omega) (by
        intro u hu
        rw [zeros_list z hzc] at hu
        rw [List.eq_of_mem_replicate hu]
        exact hz1)
      have hw : IntKind.i64.wrap (k : Int) = k := by rw [IntKind.wrap_i64]; omega
      have hneg : ¬ ((k : Int) < 0) := by omega
      have h48 : ¬ (281474976710656 < (k : Int)) := by omega
      have hk0 : ¬ (k = 0) := by omega
      have hadd : (⟨g, 0, none⟩ : Addr).add n = ⟨g, n, none⟩ := by unfold Addr.add; split <;> simp_all
      refine ⟨.slice (some ⟨g, 0, none⟩) (n + k) cap, w.setRow g (cur.toList.take (n + 0) ++ (Builtin.zeroCells z.cells k).toList ++ cur.toList.drop (n + 0 + (Builtin.zeroCells z.cells k).toList.length)).toArray, ?_, ?_, ?_⟩
      rotate_left
      · refine ⟨by simp [hl], .inr ⟨g, cap, _, rfl, hbg, setRow_heap w g cur _ e _ hg, hroom, hcm, ?_, ?_⟩⟩
        · rw [zeros_list z hzc]; simp; omega
        · rw [zeros_list z hzc]
          simp only [Nat.add_zero, Nat.mul_one, htake]
          exact List.take_left' (by simp [hl])
      · exact ⟨rfl, rfl, rfl, by simp [World.setRow], fun j hj => setRow_other w g j _ (by omega)⟩
      · simp [Builtin.append_, run_underlying ht, run_underlying htn, sizeOf, typeInfo, zeroValue, hi, hz, asInt, asIntOf, hw, hneg, h48, hk0, hsize, hby, hroom, hadd, hst]
    · have hr := Lib.run_append_grow_zeros (P := P) w t tn ty e i z kq kn ht htn hi hz (some ⟨g, 0, none⟩) n cap xs
        (run_firstCells_some w.drew i.size n ⟨g, 0, none⟩ n cap xs (by rw [hsize, Nat.mul_one]; exact hl) (by simpa using hown.cells (g := g) rfl)) k hk (by omega) (by omega) (by omega) (by rw [hby]; omega) (by rw [hby, Nat.mul_one]; have := nextslicecap_le (need := n + k) (old := cap) (by omega); omega)
      refine ⟨_, _, hr, ?_, ((Below.refl base w).drew).alloc hbase _⟩
      have h := own_new_row w base e (xs ++ List.replicate k z) z (grownCap w (n + k) cap e) (n + k) (by simp [hl]) hbase (grownCap_ge _ _ _ _) (grownCap_le_maxLen _ _ _ _ (by unfold maxLen; omega)) hzs
      have e1 : (xs ++ List.replicate k z).toArray = xs.toArray ++ Builtin.zeroCells z.cells k := by
        apply Array.toList_inj.1
        rw [Array.toList_append, zeros_list z hzc]
      rw [e1] at h
      exact h
end Go.Proofs.Ytcbgablnbgpjdaa
