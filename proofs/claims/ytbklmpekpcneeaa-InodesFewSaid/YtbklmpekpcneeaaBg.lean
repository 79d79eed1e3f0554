/-
  The walks of the view of inodes, the second part.
-/
import Derived.Test.YtbklmpekpcneeaaBa
import Derived.Test.YtbklmpekpcneeaaBf
import Derived.Great.Ranges
import Derived.Great.BuildSlice
set_option linter.unusedVariables false
set_option linter.unusedSimpArgs false
set_option maxRecDepth 100000
namespace Nd
/-- The blocks of the first n inodes, and the inodes of a view that has read them. -/
def opL (d : List UInt8) (n : Nat) : List Nat := used ((inos d).take n)
def opI (d : List UInt8) (n : Nat) : List Ino := (inos d).take n ++ List.replicate (32 - n) free
theorem opL_zero (d : List UInt8) : opL d 0 = [] := rfl
theorem opL_all (d : List UInt8) : opL d 32 = used (inos d) := by unfold opL; rw [List.take_of_length_le (by rw [inos_len]; omega)]
theorem inos_at (d : List UInt8) {n : Nat} (hn : n < 32) : (inos d)[n]'(by rw [inos_len]; exact hn) = raw d n := by
  have := raw_get d hn
  rw [List.getElem?_eq_getElem (by rw [inos_len]; omega)] at this
  simpa using this
theorem opL_step (d : List UInt8) {n : Nat} (hn : n < 32) : opL d (n + 1) = opL d n ++ used [raw d n] := by
  unfold opL
  rw [List.take_succ_eq_append_getElem (l := inos d) (by rw [inos_len]; omega), used_append, inos_at d hn]
theorem opL_free {d : List UInt8} {n : Nat} (hn : n < 32) (h : raw d n = free) : opL d (n + 1) = opL d n := by
  rw [opL_step d hn, h, used_free, List.append_nil]
theorem opL_sub (d : List UInt8) (n : Nat) : (opL d n).Sublist (used (inos d)) := by
  unfold opL
  conv => rhs; rw [← List.take_append_drop n (inos d)]
  rw [used_append]
  exact List.sublist_append_left _ _
theorem opI_zero (d : List UInt8) : opI d 0 = List.replicate 32 free := rfl
theorem opI_all (d : List UInt8) : opI d 32 = inos d := by unfold opI; rw [List.take_of_length_le (by rw [inos_len]; omega)]; simp
theorem opI_set (d : List UInt8) {n : Nat} (hn : n < 32) : (opI d n).set n (raw d n) = opI d (n + 1) := by
  unfold opI
  have h1 : ((inos d).take n).length = n := by rw [List.length_take, inos_len]; omega
  rw [List.set_append_right _ _ (by omega), h1, Nat.sub_self, show 32 - n = (32 - (n + 1)) + 1 by omega, List.replicate_succ, List.set_cons_zero, List.take_succ_eq_append_getElem (l := inos d) (by rw [inos_len]; omega), inos_at d hn, List.append_assoc]
  rfl
theorem opI_free {d : List UInt8} {n : Nat} (hn : n < 32) (h : raw d n = free) : opI d (n + 1) = opI d n := by
  rw [← opI_set d hn, h]
  apply List.ext_getElem?
  intro j
  by_cases e : n = j
  · subst e
    have h1 : ((inos d).take n).length = n := by rw [List.length_take, inos_len]; omega
    rw [List.getElem?_set_self (by unfold opI; rw [List.length_append, h1, List.length_replicate]; omega)]
    unfold opI
    rw [List.getElem?_append_right (by omega), h1, List.getElem?_replicate, if_pos (by omega)]
  · rw [List.getElem?_set_ne e]
theorem pl_zero {d : List UInt8} (hd : d.length = 12288) {n : Nat} (hn : n < 32) (h : zs (pl d n) = true) : raw d n = free ∧ formN d n := by
  unfold pl at h
  rw [zs_cut (by unfold at_; omega)] at h
  have h1 : raw d n = free := by
    unfold raw dec free
    have h0 := h 0 (by omega)
    rw [Nat.add_zero] at h0
    rw [h0, h 1 (by omega), h 2 (by omega)]
    simp only [Ino.mk.injEq]
    refine ⟨rfl, rfl, ?_⟩
    apply List.ext_getElem (by simp)
    intro i h1 h2
    simp only [List.getElem_map, List.getElem_range, List.getElem_replicate]
    have hi : i < 12 := by simpa using h1
    rw [Nat.add_assoc, h (3 + i) (by omega)]
    rfl
  exact ⟨h1, h 15 (by omega), .inl h1⟩
theorem raw_zero {d : List UInt8} {n : Nat} (h15 : g d (at_ n + 15) = 0) (h : raw d n = free) {j : Nat} (hj : j < 16) : g d (at_ n + j) = 0 := by
  have h2 := enc_dec (d := d) (p := at_ n) h15 hj
  have e : dec d (at_ n) = free := h
  rw [e] at h2
  rw [← h2]
  have hz : ∀ j, j < 16 → g (enc free) j = 0 := by decide
  exact hz j hj
section
variable {d : List UInt8} (hd : d.length = 12288)
include hd
theorem op_byte {n : Nat} (hn : n < 32) (h : g (pl d n) 15 ≠ 0) : check d = 4 := check_four hd fun hF => h (by
  unfold pl g
  rw [List.getD_eq_getElem?_getD, List.getElem?_take, if_pos (by omega), List.getElem?_drop, ← List.getD_eq_getElem?_getD]
  exact (hF.2.2.2.1 n hn).1)
omit hd in
theorem pl_last {n : Nat} (_hn : n < 32) : g (pl d n) 15 = g d (at_ n + 15) := by
  unfold pl g
  rw [List.getD_eq_getElem?_getD, List.getElem?_take, if_pos (by omega), List.getElem?_drop, ← List.getD_eq_getElem?_getD]
theorem op_pr {n : Nat} (hn : n < 32) (hz : zs (pl d n) = false) (h : pr d (raw d n) (opL d n) = false) : check d = 4 := check_four hd fun hF => by
  have hf := hF.2.2.2.1 n hn
  have hg : good d (raw d n) := hf.2.resolve_left fun e => by
    have : zs (pl d n) = true := by
      unfold pl
      rw [zs_cut (by unfold at_; omega)]
      exact fun j hj => raw_zero hf.1 e hj
    rw [this] at hz; cases hz
  have hN : (opL d n ++ used [raw d n]).Nodup := by
    rw [← opL_step d hn]
    exact (opL_sub d (n + 1)).nodup hF.2.2.2.2.2.1
  unfold pr at h
  rw [decide_eq_true hg, decide_eq_true hN] at h
  cases h
omit hd in
theorem op_yes {n : Nat} (hn : n < 32) (h15 : g d (at_ n + 15) = 0) (h : pr d (raw d n) (opL d n) = true) : formN d n ∧ (opL d (n + 1)).Nodup := by
  unfold pr at h
  rw [Bool.and_eq_true, decide_eq_true_eq, decide_eq_true_eq] at h
  rw [opL_step d hn]
  exact ⟨⟨h15, .inr h.1⟩, h.2⟩
end
/-- The first block. -/
def sup : List UInt8 := Jr.put (List.replicate 128 0) 0 [82, 70, 83, 49]
theorem sup_len : sup.length = 128 := rfl
theorem g_blk {d : List UInt8} {n j : Nat} (hj : j < 128) : g (Jr.blk d n) j = g d (n * 128 + j) := by
  unfold g Jr.blk
  rw [List.getD_eq_getElem?_getD, List.getElem?_take, if_pos hj, List.getElem?_drop, ← List.getD_eq_getElem?_getD]
theorem blk_len {d : List UInt8} (hd : d.length = 12288) {n : Nat} (hn : n < 96) : (Jr.blk d n).length = 128 := by unfold Jr.blk; rw [List.length_take, List.length_drop]; omega
theorem sup_iff {d : List UInt8} (hd : d.length = 12288) : Jr.blk d 0 = sup ↔ d.take 4 = [82, 70, 83, 49] ∧ ∀ i, i < 124 → g d (4 + i) = 0 := by
  have hs : ∀ i, g sup i = if i < 4 then g [82, 70, 83, 49] i else 0 := fun i => by
    unfold sup
    rw [g_put (by decide), g_rep]
    simp
  have h4 : ∀ i, i < 4 → g (d.take 4) i = g d i := fun i hi => by
    unfold g
    rw [List.getD_eq_getElem?_getD, List.getElem?_take, if_pos hi, ← List.getD_eq_getElem?_getD]
  have hl4 : (d.take 4).length = 4 := by rw [List.length_take, hd]; rfl
  constructor
  · intro h
    have hg : ∀ j, j < 128 → g d j = g sup j := fun j hj => by rw [← h, g_blk hj, Nat.zero_mul, Nat.zero_add]
    refine ⟨ext_g (by rw [hl4]; rfl) fun i hi => ?_, fun i hi => ?_⟩
    · rw [h4 i (by omega), hg i (by omega), hs, if_pos (by omega)]
    · rw [hg _ (by omega), hs, if_neg (by omega)]
  · rintro ⟨h1, h2⟩
    refine ext_g (by rw [blk_len hd (by decide), sup_len]) fun j hj => ?_
    rw [blk_len hd (by decide)] at hj
    rw [g_blk hj, Nat.zero_mul, Nat.zero_add, hs]
    by_cases c : j < 4
    · rw [if_pos c, ← h4 j c, h1]
    · rw [if_neg c, show j = 4 + (j - 4) by omega, h2 _ (by omega)]
/-- The bitmap that open builds, the first n bits of it. -/
def bmIn (L : List Nat) (i : Nat) : Bool := decide (i < 18) || decide (i ∈ L)
def bmTo (L : List Nat) (n : Nat) : List UInt8 := Ex.puts (List.replicate 128 0) ((List.range n).filter fun i => bmIn L i) true
theorem bmTo_len (L : List Nat) (n : Nat) : (bmTo L n).length = 128 := by unfold bmTo; rw [Ex.length_puts]; rfl
theorem bmTo_zero (L : List Nat) : bmTo L 0 = List.replicate 128 0 := rfl
theorem bmTo_yes {L : List Nat} {n : Nat} (h : bmIn L n = true) : bmTo L (n + 1) = Ex.putB (bmTo L n) n true := by
  unfold bmTo
  rw [List.range_succ, List.filter_append, List.filter_cons_of_pos (by simpa using h), List.filter_nil, Ex.puts_snoc]
theorem bmTo_no {L : List Nat} {n : Nat} (h : bmIn L n = false) : bmTo L (n + 1) = bmTo L n := by
  unfold bmTo
  rw [List.range_succ, List.filter_append, List.filter_cons_of_neg (by simp [h]), List.filter_nil, List.append_nil]
theorem getB_rep (n i : Nat) : Ex.getB (List.replicate n 0) (i : Nat) = false := by
  rw [Ex.getB_nat]
  simp only [List.getD_eq_getElem?_getD, List.getElem?_replicate]
  rw [Bool.and_eq_false_iff]
  right
  split <;> simp [Ex.bitB]
theorem bm_bit (L : List Nat) (j : Nat) : Ex.getB (bmTo L 96) (j : Nat) = (decide (j < 96) && bmIn L j) := by
  unfold bmTo
  rw [Ex.getB_puts true _ _ (fun i hi => by have := List.mem_range.1 (List.mem_filter.1 hi).1; simp only [List.length_replicate]; omega), getB_rep]
  by_cases h : j ∈ (List.range 96).filter fun i => bmIn L i
  · rw [if_pos h]
    rw [List.mem_filter, List.mem_range] at h
    rw [h.2, decide_eq_true h.1]; rfl
  · rw [if_neg h]
    rw [List.mem_filter, List.mem_range] at h
    symm
    by_cases c : j < 96
    · cases hb : bmIn L j
      · simp
      · exact absurd ⟨c, hb⟩ h
    · rw [decide_eq_false c]; rfl
theorem getB_take {xs : List UInt8} {n i : Nat} (h : i < 8 * n) : Ex.getB (xs.take n) (i : Nat) = Ex.getB xs (i : Nat) := by
  rw [Ex.getB_nat, Ex.getB_nat, List.getD_eq_getElem?_getD, List.getD_eq_getElem?_getD, List.getElem?_take, if_pos (by omega), List.length_take]
  congr 1
  rw [decide_eq_decide]
  omega
theorem bm_take_len (L : List Nat) : ((bmTo L 96).take 12).length = 12 := by rw [List.length_take, bmTo_len]; rfl
theorem bm_iff {d : List UInt8} (hd : d.length = 12288) (L : List Nat) : Jr.blk d 13 = bmTo L 96 ↔ (bits d = (bmTo L 96).take 12 ∧ ∀ i, i < 116 → g d (1676 + i) = 0) := by
  have hz : ∀ i, 12 ≤ i → g (bmTo L 96) i = 0 := fun i hi => by
    by_cases c : i < 128
    · apply UInt8.toNat_inj.1
      apply Nat.eq_of_testBit_eq
      intro b
      have h0 : (0 : UInt8).toNat = 0 := rfl
      rw [h0, Nat.zero_testBit]
      by_cases hb : b < 8
      · have := bm_bit L (8 * i + b)
        rw [Ex.getB_nat, bmTo_len, show (8 * i + b) / 8 = i by omega, show (8 * i + b) % 8 = b by omega, decide_eq_true (by omega : i < 128), decide_eq_false (by omega : ¬ 8 * i + b < 96)] at this
        simpa [Ex.bitB, g] using this
      · have := (g (bmTo L 96) i).toNat_lt
        have hp : 2 ^ 8 ≤ 2 ^ b := Nat.pow_le_pow_right (by omega) (by omega)
        exact Nat.testBit_lt_two_pow (by omega)
    · unfold g
      rw [List.getD_eq_getElem?_getD, List.getElem?_eq_none (by rw [bmTo_len]; omega)]
      rfl
  have ht : ∀ i, i < 12 → g ((bmTo L 96).take 12) i = g (bmTo L 96) i := fun i hi => by
    unfold g
    rw [List.getD_eq_getElem?_getD, List.getElem?_take, if_pos hi, ← List.getD_eq_getElem?_getD]
  constructor
  · intro h
    have hg : ∀ j, j < 128 → g d (1664 + j) = g (bmTo L 96) j := fun j hj => by rw [← h, g_blk hj]
    refine ⟨ext_g (by rw [bits_len hd, bm_take_len]) fun i hi => ?_, fun i hi => ?_⟩
    · rw [bits_len hd] at hi
      rw [g_bits hi, ht i hi, hg i (by omega)]
    · rw [show 1676 + i = 1664 + (12 + i) by omega, hg _ (by omega), hz _ (by omega)]
  · rintro ⟨h1, h2⟩
    refine ext_g (by rw [blk_len hd (by decide), bmTo_len]) fun j hj => ?_
    rw [blk_len hd (by decide)] at hj
    rw [g_blk hj, show 13 * 128 + j = 1664 + j by omega]
    by_cases c : j < 12
    · rw [← g_bits c, h1, ht j c]
    · rw [hz j (by omega), show 1664 + j = 1676 + (j - 12) by omega, h2 _ (by omega)]
section
variable {d : List UInt8} (hd : d.length = 12288)
include hd
theorem op_sup (h : Jr.blk d 0 ≠ sup) : check d = 4 := check_four hd fun hF => h ((sup_iff hd).2 ⟨hF.1, hF.2.1⟩)
theorem op_root (h : (raw d 0).kind ≠ 2) : check d = 4 := check_four hd fun hF => h hF.2.2.2.2.1
theorem op_bm (h : Jr.blk d 13 ≠ bmTo (opL d 32) 96) : check d = 4 := check_four hd fun hF => h ((bm_iff hd _).2 ⟨by
  refine Ex.ext (by rw [bits_len hd, bm_take_len]) fun j hj => ?_
  rw [bits_len hd] at hj
  rw [getB_take (by omega), bm_bit, opL_all, hF.2.2.2.2.2.2 j (by omega), decide_eq_true (by omega : j < 96)]
  unfold bmIn
  rw [Bool.decide_or]; rfl, hF.2.2.1⟩)
theorem op_end (h0 : Jr.blk d 0 = sup) (hf : ∀ n, n < 32 → formN d n) (hn : (opL d 32).Nodup) (hb : Jr.blk d 13 = bmTo (opL d 32) 96) (hk : (raw d 0).kind = 2) : check d = 0 ∧ bits d = (bmTo (opL d 32) 96).take 12 := by
  have h1 := (sup_iff hd).1 h0
  have h2 := (bm_iff hd _).1 hb
  refine ⟨check_some hd ⟨h1.1, h1.2, h2.2, hf, hk, by rw [← opL_all]; exact hn, fun i hi => ?_⟩, h2.1⟩
  rw [h2.1, getB_take (by omega), bm_bit, opL_all, decide_eq_true (by omega : i < 96)]
  unfold bmIn
  rw [Bool.decide_or]; rfl
end
end Nd
namespace Go.Proofs.Ytbklmpekpcneeaa
open Go.RowKit
set_option maxRecDepth 100000

set_option maxHeartbeats 400000 in
theorem bequal_w (va vb : Value) (xs ys : List UInt8) (w : World) (ha : Sl eb w va xs) (hb : Sl eb w vb ys) :
    Calls Try.prog 63 #[va, vb] w fun e w' => e = .returned (.bool (decide (xs = ys))) ∧ w = w' := by
  obtain ⟨a, ca, rfl, ha1, ha2, ha3, hra⟩ := ha
  obtain ⟨b, cb, rfl, hb1, hb2, hb3, hrb⟩ := hb
  have H1 := conv_run w a xs ca hra
  have H2 := conv_run w b ys cb hrb
  clear hra hrb
  go_enter Try.func63, Try.ntmps63
  go_wp2_with fail
  go_ret
  exact ⟨ret_bool (by rw [Bool.eq_iff_iff]; simp), rfl⟩

/-- An inode into a view, at the operation. -/
theorem wp_store_vino {P : Program} {w : World} {o : Oper} {ac : Act} {K : Act → World → Prop} {Q : Exit → Act → World → Prop} (ty : TypeId) (x y : Operand) (ho : o.op = .store ty x y) (a n k : Nat) (hx : ac.eval x = .pointer (some ⟨a, k, none⟩)) (hk : k = 1 + 14 * n) (z : Nd.Ino) (hz : z.bl.length = 12) (hy : ac.eval y = .agg (ic z).toArray) {dv bv : Value} {l : List Nd.Ino} (h : Vw w a dv bv l) (hn : n < 32)
    (hi : (P.info? ty).map (·.size) = some 14) (hw : ∀ w', Vw w' a dv bv (l.set n z) → w.grownBy w' (some a) → K (ac.put o.dst undef) w') : o.wp P ac w K Q := by
  subst hk
  refine wp_store_mid ty x y ho a (1 + 14 * n) (ic z).toArray hx hy (by simpa [ic_len hz] using h.k.there (1 + 14 * n) 14 (by rw [vc_len h.f]; omega)) (by simpa [ic_len hz] using hi) (all_oneCell_toArray (ic_one z)) ?_
  have this := h.k.setCells (ic z) (1 + 14 * n) w _ (by rw [vc_len h.f, ic_len hz]; omega)
  refine hw _ ⟨?_, h.f.set n hz⟩ this.2
  have h2 := this.1
  rw [vc_splice h.f hn hz] at h2
  exact h2

theorem step_store_vino {P : Program} {w : World} {ops : Array Oper} {o : Oper} {ac : Act} {K : Act → World → Prop} {Q : Exit → Act → World → Prop} {E : Prop} (hgd : o.guard = none) (ty : TypeId) (x y : Operand) (ho : o.op = .store ty x y) (a n k : Nat) (hx : ac.eval x = .pointer (some ⟨a, k, none⟩)) (hk : k = 1 + 14 * n) (z : Nd.Ino) (hz : z.bl.length = 12) (hy : ac.eval y = .agg (ic z).toArray) {dv bv : Value} {l : List Nd.Ino} (h : Vw w a dv bv l) (hn : n < 32)
    (hi : (P.info? ty).map (·.size) = some 14) (hw : ∀ w', Vw w' a dv bv (l.set n z) → w.grownBy w' (some a) → K (ac.put o.dst undef) w') : if Region.wanted o (yielded ops ac.tmps) = true then Oper.wp P o ac w K Q else E := by
  have hwt : Region.wanted o (yielded ops ac.tmps) = true := by simp [Region.wanted, hgd]
  rw [if_pos hwt]
  exact wp_store_vino ty x y ho a n k hx hk z hz hy h hn hi hw

/-- Cells out of a box, at an operation with a guard. -/
theorem wpList_load_if {P : Program} {w : World} {ops : Array Oper} {rest : List Oper} {o : Oper} {ac : Act} {Q : Exit → Act → World → Prop} (hw : Region.wanted o (yielded ops ac.tmps) = true) (ty : TypeId) (x : Operand) (ho : o.op = .load ty x) (b off : Nat) (hx : ac.eval x = .pointer (some ⟨b, off, none⟩)) (cs : List Value) (d : TypeDesc) (hc : w.rangeAt b off cs) (hu : P.underlying ty = some d) (hd : d.isRow = true) (hi : (P.info? ty).map (·.size) = some cs.length)
    (h : wpList P ops Q rest (ac.put o.dst (.agg cs.toArray)) w) : wpList P ops Q (o :: rest) ac w := by
  simp only [wpList, hw, if_true]
  exact .inl (wp_load_mid ty x ho b off hx cs d hc hu hd hi h)

/-- The new view. -/
theorem built_view (g n c : Nat) : Try.prog.built 85 [(0, .slice (some ⟨g, 0, none⟩) n c)] = some (vc (.slice (some ⟨g, 0, none⟩) n c) (List.replicate 32 Nd.free) (.slice none 0 0)).toArray := by kernel_rfl
theorem full_free : Nd.Full (List.replicate 32 Nd.free) := ⟨rfl, fun x hx => by rw [List.eq_of_mem_replicate hx]; rfl⟩
end Go.Proofs.Ytbklmpekpcneeaa
namespace Go.Proofs.Ytbklmpekpcneeaa
open Go.RowKit
set_option maxRecDepth 100000

/-- What open answers: the view of a disk that is formed. -/
structure Opn (w w' : World) (a g cap : Nat) (bv : Value) (d : List UInt8) : Prop where
  vw : Vw w' a (.slice (some ⟨g, 0, none⟩) 12288 cap) bv (Nd.inos d)
  own : w'.ownsRow w.heap.size 5 1 (.slice (some ⟨g, 0, none⟩) 12288 cap) 12288 (d.map eb)
  bits : Av (fun b => b = g ∨ b = a ∨ b < w.heap.size) (fun W => Sl eb W bv (Nd.bits d)) w'
  ne : a ≠ g
  la : w.heap.size ≤ a
  low : Below w.heap.size w w'

set_option maxHeartbeats 8000000 in
theorem vopen_w {v : Value} {d : List UInt8} {w : World} (hv : Sl eb w v d) (hl : d.length ≤ 100000) : Calls Try.prog 45 #[v] w fun e w' =>
    (Nd.check d ≠ 0 ∧ e = .returned (.tuple #[.pointer none, .int .i64 (Nd.check d)]) ∧ Below w.heap.size w w') ∨
    (Nd.check d = 0 ∧ ∃ a g cap bv, e = .returned (.tuple #[.pointer (some ⟨a, 0, none⟩), .int .i64 0]) ∧ Opn w w' a g cap bv d) := by
  by_cases hd : d.length = 12288
  rotate_left
  · obtain ⟨ad, c, rfl, -⟩ := hv
    have f1 : ((d.length : Int) != 12288) = true := by rw [bne_iff_ne]; omega
    have HR : Hid (Nd.check d = 1) := if_pos hd
    clear hd
    go_enter Try.func45, Try.ntmps45
    go_wp2_with fail
    go_ret2
    exact .inl ⟨by rw [HR.out]; decide, by rw [HR.out]; rfl, Below.refl _ _⟩
  have HC : Hid (Calls Try.prog 64 #[v] w fun e w' => ∃ g cap, e = .returned (.slice (some ⟨g, 0, none⟩) 12288 cap) ∧ w'.ownsRow w.heap.size 5 1 (.slice (some ⟨g, 0, none⟩) 12288 cap) 12288 (d.map eb) ∧ Below w.heap.size w w') := (bclone_w hv (by omega)).mono fun e w' h => by
    obtain ⟨v1, rfl, ho, hb⟩ := h
    rw [hd] at ho
    obtain ⟨g, c, rfl⟩ := own_form ho (by omega)
    exact ⟨g, c, rfl, ho, hb⟩
  obtain ⟨b0, off0, cap0, rfl, -⟩ := hv.disk hd
  have HD := Lib.hid hd
  have HFR : Hid (∀ g cap : Nat, (Try.zeroCells85.setIfInBounds 0 (.slice (some ⟨g, 0, none⟩) 12288 cap)) = (vc (.slice (some ⟨g, 0, none⟩) 12288 cap) (List.replicate 32 Nd.free) (.slice none 0 0)).toArray) := fun g cap => by kernel_rfl
  have HFE : Hid (List.replicate 32 Nd.free = Nd.opI d 0) := rfl
  generalize List.replicate 32 Nd.free = FR at HFR HFE
  obtain ⟨i0, hi0, hz0, hz1, hz2⟩ := info_parts Try.info5
  have hm1 : ∀ W : World, (Instr.makeSlice 25 (.int .i64 128) (.int .i64 128)).run Try.prog W = .ok (.slice (some ⟨W.heap.size, 0, none⟩) 128 128) (W.alloc (.cells ((List.replicate 128 (0 : UInt8)).map eb).toArray 5 (0, 0))) := fun W => by
    have h := run_make (P := Try.prog) W 25 5 i0 (.int .u8 0) Try.underlying25 hi0 hz0 .i64 .i64 128 128 (by decide) (by decide) (by rw [hz2]; decide) (by decide)
    rw [hz1] at h
    rw [show (List.replicate 128 (0 : UInt8)).map eb = List.replicate 128 (.int .u8 0) by simp [eb], ← toList_made]
    exact h
  have hszu : (Try.prog.info? 5).map (·.size) = some 1 := by kernel_rfl
  have HSP : Hid (splice ((List.replicate 128 (0 : UInt8)).map eb) 0 (([82, 70, 83, 49] : List UInt8).map eb) = Nd.sup.map eb) := by
    show _ = _
    unfold splice Nd.sup Jr.put
    simp only [List.map_append, List.map_take, List.map_drop, List.length_map, List.append_assoc]
  have HNK : Hid (∀ W : World, Bk (W.alloc (.cells ((List.replicate 128 (0 : UInt8)).map eb).toArray 5 (0, 0))) W.heap.size 5 ((List.replicate 128 (0 : UInt8)).map eb)) := fun W => Bk.new W _ _
  have HZL : Hid (((List.replicate 128 (0 : UInt8)).map eb).length = 128) := by show _ = _; rw [List.length_map, List.length_replicate]
  have HSL : Hid ((Nd.sup.map eb).length = 128) := by show _ = _; rw [List.length_map]; rfl
  have HB0 : Hid (Nd.bmTo (Nd.opL d 32) 0 = List.replicate 128 0) := rfl
  have HBZ : Hid ((List.replicate 128 (0 : UInt8)).map eb = (Nd.bmTo (Nd.opL d 32) 0).map eb) := rfl
  generalize hZL : (List.replicate 128 (0 : UInt8)).map eb = ZL at *
  generalize hZA : ZL.toArray = ZA at *
  have HOP := Lib.hid (fun h => Nd.op_sup hd h)
  have HOB := Lib.hid (fun h => Nd.op_bm hd h)
  have HOK := Lib.hid (fun h => Nd.op_root hd h)
  have HOE := Lib.hid (fun h0 hf hn hb hk => Nd.op_end hd h0 hf hn hb hk)
  have f1 : ((12288 : Int) != 12288) = false := rfl
  clear hv hl hZL hZA
  go_enter Try.func45, Try.ntmps45
  go_upto_region 4 with (first
    | (go_at_call 64; (with_reducible refine HC.out.mono ?_); rintro e w1 ⟨g, cap, rfl, ho1, hb1⟩)
    | (refine Go.Great.wpList_boxTo rfl 85 (.tmp 17) rfl (some 18) rfl w1.heap.size rfl (vc (.slice (some ⟨g, 0, none⟩) 12288 cap) FR (.slice none 0 0)).toArray (HFR.out g cap) ?_))
  obtain ⟨W2, hW2⟩ : ∃ W, W = w1.alloc (.cells (vc (.slice (some ⟨g, 0, none⟩) 12288 cap) FR (.slice none 0 0)).toArray 85 (0, 0)) := ⟨_, rfl⟩
  obtain ⟨a, ha⟩ : ∃ y, y = w1.heap.size := ⟨_, rfl⟩
  have hv2 : Vw W2 a (.slice (some ⟨g, 0, none⟩) 12288 cap) (.slice none 0 0) (Nd.opI d 0) := ⟨by rw [hW2, ha, ← HFE.out]; exact Bk.new w1 _ _, full_free⟩
  have ho2 := own_below ho1 (by rw [hW2]; exact low_alloc _ _ : Below w1.heap.size w1 W2)
  have hb2 : Below w.heap.size w W2 := stepAny hb1 (by rw [hW2]; exact low_alloc _ _)
  have hgw := ho1.lt g rfl
  have hla : w.heap.size ≤ a := by rw [ha]; exact hb1.size
  have hag : a ≠ g := by omega
  have hcn := (own_bk' ho1).2.1
  have hcm := (own_bk' ho1).2.2.1
  have hlg := hgw.1
  rw [← hW2, ← ha]
  clear hW2 ha ho1 hb1 hgw HC
  have HV2 := Lib.hid hv2
  have HO2 := Lib.hid ho2
  have HB2 := Lib.hid hb2
  clear hv2 ho2 hb2
  go_upto_region 6 with (refine wpList_copy_str rfl (.tmp 20) (.const (.string ⟨#[82, 70, 83, 49]⟩)) 25 9 rfl 5 Try.underlying25 hszu W2.heap.size 0 128 128 _ [82, 70, 83, 49] rfl rfl rfl ZL 5 (HNK.out W2) (by simp) (by rw [HZL.out]; simp) ?_; intro w3 hk3 hg3)
  rw [HSP.out] at hk3
  have hl3 : Below W2.heap.size W2 w3 := (low_alloc W2 _).trans (below_of_grown hg3 (Nat.le_refl _) (low_alloc W2 (.cells ZA 5 (0, 0))).size)
  have hss : Sl eb w3 (.slice (some ⟨W2.heap.size, 0, none⟩) 128 128) Nd.sup := by
    have h := Bk.own hk3 (Nat.le_refl _) (by rw [HSL.out]; decide)
    rw [HSL.out] at h
    exact own_sl0 h rfl
  have hv3 := HV2.out.below hl3 HV2.out.k.lt
  have ho3 := own_below HO2.out hl3
  have hb3 := stepAny HB2.out hl3
  have HBK : Hid (Calls Try.prog 43 #[.pointer (some ⟨a, 0, none⟩), .int .i64 0] w3 fun e w' => e = .returned (.slice (some ⟨g, 0, none⟩) 128 cap) ∧ w3 = w') := vblock_w g a 0 cap 0 (by decide) hcn hcm hv3.disk
  have heq := bequal_w (.slice (some ⟨g, 0, none⟩) 128 cap) (.slice (some ⟨W2.heap.size, 0, none⟩) 128 128) (Jr.blk d 0) Nd.sup w3 ((own_sl0 ho3 HD.out).cut 0 128 (by omega)) hss
  obtain ⟨s0, hs0⟩ : ∃ y, y = W2.heap.size := ⟨_, rfl⟩
  rw [← hs0] at heq ⊢
  have HV3 := Lib.hid hv3
  have HO3 := Lib.hid ho3
  have HB3 := Lib.hid hb3
  clear hk3 hg3 hl3 hss hv3 ho3 hb3 hs0 HV2 HO2 HB2
  by_cases h0 : Jr.blk d 0 = Nd.sup
  rotate_left
  · rw [decide_eq_false h0] at heq
    have HR := Lib.hid (HOP.out h0)
    have HEQ := Lib.hid heq
    clear h0 heq
    go_wp2_with (first
      | (go_at_call 43; (with_reducible refine HBK.out.mono ?_); rintro e w' ⟨rfl, rfl⟩)
      | (go_at_call 63; (with_reducible refine HEQ.out.mono ?_); rintro e w' ⟨rfl, rfl⟩))
    go_ret2
    exact .inl ⟨by rw [HR.out]; decide, by rw [HR.out]; rfl, HB3.out⟩
  rw [decide_eq_true h0] at heq
  have HEQ := Lib.hid heq
  have H0 := Lib.hid h0
  clear h0 heq
  have hmm := @run_makeMap Try.prog
  have HM0 : Hid (Mb Try.prog 3 4 (w3.alloc (.map #[] 0)) w3.heap.size (12 * 0) (Nd.mt (Nd.opL d 0))) := (Mb.made w3 Try.prog 3 4).as fun x _ => (Nd.mt_nil x).symm
  go_upto_region 9 with (first
    | (go_at_call 43; (with_reducible refine HBK.out.mono ?_); rintro e w' ⟨rfl, rfl⟩)
    | (go_at_call 63; (with_reducible refine HEQ.out.mono ?_); rintro e w' ⟨rfl, rfl⟩))
  obtain ⟨W4, hW4⟩ : ∃ W, W = w3.alloc (.map #[] 0) := ⟨_, rfl⟩
  obtain ⟨mb, hmbe⟩ : ∃ y, y = w3.heap.size := ⟨_, rfl⟩
  have hl4 : Below w3.heap.size w3 W4 := by rw [hW4]; exact low_alloc _ _
  have hv4 := HV3.out.below hl4 HV3.out.k.lt
  have ho4 := own_below HO3.out hl4
  have hb4 := stepAny HB3.out hl4
  have hm4 := HM0.out
  have hm_a : a ≠ mb := by have := HV3.out.k.lt; omega
  have hm_g : g ≠ mb := by have := (HO3.out.lt g rfl).2; omega
  have hlm : w.heap.size ≤ mb := by rw [hmbe]; exact HB3.out.size
  rw [← hW4, ← hmbe] at hm4
  rw [← hW4, ← hmbe]
  have HM1 := Lib.hid hm1
  clear hmbe hW4 hl4 HM0 HV3 HO3 HB3 HBK HEQ HOP hm1
  go_wp2_with fail
  go_loopw [7, 8, 9, 28] (fun _ _ _ i wr => ∃ k : Nat, i = .int .i64 k ∧ k ≤ 32 ∧ Vw wr a (.slice (some ⟨g, 0, none⟩) 12288 cap) (.slice none 0 0) (Nd.opI d k) ∧ wr.ownsRow w.heap.size 5 1 (.slice (some ⟨g, 0, none⟩) 12288 cap) 12288 (d.map eb) ∧ Mb Try.prog 3 4 wr mb (12 * k) (Nd.mt (Nd.opL d k)) ∧ Hid (∀ m, m < k → Nd.formN d m) ∧ Hid ((Nd.opL d k).Nodup) ∧ Below w.heap.size w wr) (fun _ _ _ i _ => 32 - (intOf i).toNat)
  case atStart => exact ⟨0, rfl, by omega, hv4, ho4, hm4, fun m h => absurd h (Nat.not_lt_zero _), List.nodup_nil, hb4⟩
  case round =>
    clear hv4 ho4 hm4 hb4
    obtain ⟨k, rfl, hk, hvr, hor, hmr, HF, HN, hbr⟩ := hrel
    by_cases hlt : k < 32
    · have hsl := own_sl0 hor HD.out
      have hpl := vplace_w g a 0 cap k hlt hcn hcm hvr.disk
      have hsc := hsl.cut (Nd.at_ k) 16 (by unfold Nd.at_; omega)
      rw [Nat.zero_add] at hpl hsc
      have hpl16 := Nd.pl_len HD.out hlt
      have hzr := vzero_w hsc (by rw [List.length_take]; omega)
      have hps := vparse_w hsc hpl16
      rw [show Nd.dec ((d.drop (Nd.at_ k)).take 16) 0 = Nd.raw d k from Nd.pl_dec d k] at hps
      have hzy := fun h => Nd.pl_zero HD.out hlt h
      have hzn := fun hz h => Nd.op_pr HD.out hlt hz h
      have hby := fun h => Nd.op_byte HD.out hlt h
      rw [Nd.pl_last hlt] at hby
      have hys := fun h15 h => Nd.op_yes (d := d) (n := k) hlt h15 h
      have hst := Nd.opI_set d hlt
      have hif := fun h => Nd.opI_free (d := d) hlt h
      have hlf := fun h => Nd.opL_free (d := d) hlt h
      have hls := Nd.opL_step d hlt
      unfold Nd.pl at hzy hzn
      generalize Nd.zs ((d.drop (Nd.at_ k)).take 16) = zz at *
      have HPL := Lib.hid hpl
      have HZR := Lib.hid hzr
      have HV := Lib.hid hvr
      have HO := Lib.hid hor
      have HM := Lib.hid hmr
      have HB := Lib.hid hbr
      have f5 : (0 : Int) ≤ (k : Int) := by omega
      have f6 : (k : Int) < 32 := by omega
      clear hsl hpl hsc hzr hvr hor hmr hbr
      cases zz with
      | true =>
        have HZ1 := Lib.hid (hzy rfl)
        have HIF := Lib.hid (hif HZ1.out.1)
        have HLF := Lib.hid (hlf HZ1.out.1)
        clear hzy hzn hby hys hst hif hlf hls hps hpl16
        go_wp2_with (first
          | (go_at_call 73; (with_reducible refine HPL.out.mono ?_); rintro e w' ⟨rfl, rfl⟩)
          | (go_at_call 74; (with_reducible refine HZR.out.mono ?_); rintro e w' ⟨rfl, rfl⟩))
        go_roundw
        case rel => exact ⟨k + 1, by go_num, by omega, by rw [HIF.out]; exact HV.out, HO.out, by rw [HLF.out]; exact HM.out.mono (by omega), fun m hm => by by_cases e : m = k; { subst e; exact HZ1.out.2 }; exact HF.out m (by omega), by rw [HLF.out]; exact HN.out, HB.out⟩
        case measure => simp [intOf]; omega
      | false =>
        have HPS := Lib.hid hps
        have HXN : Hid ((Nd.raw d k).bl.length = 12) := (Nd.raw_enc d k).n
        have HXE := Lib.hid (Nd.raw_enc d k)
        have HZN := Lib.hid (hzn rfl)
        have HYS := Lib.hid hys
        have HST := Lib.hid hst
        have HLS := Lib.hid hls
        have HBY := Lib.hid hby
        have HGE : Hid (∀ h : Nd.at_ k + 15 < d.length, d[Nd.at_ k + 15] = Nd.g d (Nd.at_ k + 15)) := fun h => (Nd.g_get h).symm
        obtain ⟨p, hp⟩ : ∃ p, p = Nd.at_ k := ⟨_, rfl⟩
        have hp2 : p + 16 ≤ 12288 := by rw [hp]; unfold Nd.at_; omega
        rw [← hp] at HPL HZR HPS HBY HYS HGE
        clear hzy hzn hby hys hst hif hlf hls hps hpl16 hp
        generalize Nd.raw d k = x at *
        go_upto_region 15 with (first
          | (go_at_call 73; (with_reducible refine HPL.out.mono ?_); rintro e w' ⟨rfl, rfl⟩)
          | (go_at_call 74; (with_reducible refine HZR.out.mono ?_); rintro e w' ⟨rfl, rfl⟩)
          | (go_at_call 75; (with_reducible refine HPS.out.mono ?_); rintro e w5 ⟨rfl, hb5⟩; unfold iv)
          | (refine wpList_store_part rfl 42 _ _ rfl w5.heap.size 0 14 (ic x) rfl rfl 42 [.int .i64 0, .int .i64 0, .int .i64 0, .int .i64 0, .int .i64 0, .int .i64 0, .int .i64 0, .int .i64 0, .int .i64 0, .int .i64 0, .int .i64 0, .int .i64 0, .int .i64 0, .int .i64 0] (Bk.new w5 _ [.int .i64 0, .int .i64 0, .int .i64 0, .int .i64 0, .int .i64 0, .int .i64 0, .int .i64 0, .int .i64 0, .int .i64 0, .int .i64 0, .int .i64 0, .int .i64 0, .int .i64 0, .int .i64 0]) (ic_len HXN.out) (by simp) Try.sizeII (ic_one _) ?_; intro w6 hk6 hg6))
        rw [splice_all _ _ (by rw [ic_len HXN.out]; rfl)] at hk6
        have hl56 : Below w5.heap.size w5 w6 := (low_alloc w5 _).trans (below_of_grown hg6 (Nat.le_refl _) (low_alloc w5 (.cells #[.int .i64 0, .int .i64 0, .int .i64 0, .int .i64 0, .int .i64 0, .int .i64 0, .int .i64 0, .int .i64 0, .int .i64 0, .int .i64 0, .int .i64 0, .int .i64 0, .int .i64 0, .int .i64 0] 42 (0, 0))).size)
        have hlo : Below wr.heap.size wr w6 := stepAny hb5 hl56
        obtain ⟨bx, hbx⟩ : ∃ y, y = w5.heap.size := ⟨_, rfl⟩
        have hbxl : wr.heap.size ≤ bx := by rw [hbx]; exact hb5.size
        rw [← hbx] at hk6 ⊢
        have hv6 := HV.out.below hlo HV.out.k.lt
        have ho6 := own_below HO.out hlo
        have hm6 := HM.out.below hlo HM.out.lt
        have hb6 := stepAny HB.out hlo
        have hax : a ≠ bx := by have := HV.out.k.lt; omega
        have hbm : bx ≠ mb := by have := HM.out.lt; omega
        have hgl := (ho6.lt g rfl).2
        have hav : Av (fun b => b = mb) (fun W => Sl eb W (.slice (some ⟨g, 0, none⟩) 12288 cap) d) w6 := fun W hW => own_sl0 (own_keep ho6 fun j hj => by
          have e : g = j := by simpa [Value.ownBlock] using hj
          subst e
          exact hW g hgl hm_g) HD.out
        have hpr := vproper_w hv6 hav hcn hcm HD.out hm_a hm6 (by omega) HN.out x HXE.out
        obtain ⟨z15, -⟩ := own_cell8 (i := p + 15) ho6 (by rw [HD.out]; omega) HD.out
        rw [HGE.out (by rw [HD.out]; omega)] at z15
        have hby := HBY.out
        have hys := HYS.out
        have hzn := HZN.out
        generalize Nd.g d (p + 15) = c at *
        unfold eb at z15
        have HV6 := Lib.hid hv6
        have HO6 := Lib.hid ho6
        have HB6 := Lib.hid hb6
        have HK6 := Lib.hid hk6
        clear hb5 hg6 hl56 hlo hbx hbxl hgl hav hv6 ho6 hm6 hb6 hk6 HPL HZR HPS HV HO HM HB HBY HYS HZN HGE
        by_cases hc : c = 0
        rotate_left
        · have HR := Lib.hid (hby hc)
          have f7 : ((c.toNat : Int) != 0) = true := eb_ne (y := 0) hc
          clear hby hys hzn hpr hc
          go_wp2_with fail
          go_ret2
          exact .inl ⟨by rw [HR.out]; decide, by rw [HR.out]; rfl, HB6.out⟩
        have f7 : ((c.toNat : Int) != 0) = false := by rw [hc]; rfl
        generalize Nd.pr d x (Nd.opL d k) = q at *
        have HPR := Lib.hid hpr
        clear hpr hby
        cases q with
        | false =>
          have HR := Lib.hid (hzn rfl)
          clear hys hzn hc
          go_wp2_with (first
            | (refine wpList_load_if (by rfl) 42 _ rfl bx 0 rfl (ic x) _ HK6.out.range Try.underlying42 rfl (by rw [ic_len HXN.out]; exact Try.sizeII) ?_)
            | (go_at_call 76; (with_reducible refine HPR.out.mono ?_); rintro e w7 ⟨rfl, -, hb7⟩))
          go_ret2
          exact .inl ⟨by rw [HR.out]; decide, by rw [HR.out]; rfl, HB6.out.trans (hb7.low.mono hlm)⟩
        | true =>
          have HY := Lib.hid (hys hc rfl)
          clear hys hzn hc
          go_upto_region 17 with (first
            | (refine wpList_load_if (by rfl) 42 _ rfl bx 0 rfl (ic x) _ HK6.out.range Try.underlying42 rfl (by rw [ic_len HXN.out]; exact Try.sizeII) ?_)
            | (go_at_call 76; (with_reducible refine HPR.out.mono ?_); rintro e w7 ⟨rfl, hm7, hb7⟩))
          have hm7 := hm7 (by first | trivial | rfl)
          rw [← HLS.out] at hm7
          have hv7 := HV6.out.but hb7 hm_a
          have hk7 := HK6.out.keep (hb7.rest bx HK6.out.lt hbm)
          have ho7 := own_keep HO6.out fun j hj => hb7.rest j (HO6.out.lt j hj).2 (by
            have e : g = j := by simpa [Value.ownBlock] using hj
            omega)
          have hl7 : Below w.heap.size w w7 := HB6.out.trans (hb7.low.mono hlm)
          have HS4 : Hid (w7.drew.rangeAt bx 0 (ic x)) := (hk7.keep rfl : Bk w7.drew bx 42 (ic x)).range
          have HS5 : Hid (∀ W, w7.drew.grownBy W (some a) → W.rangeAt bx 0 (ic x)) := fun W hW => (hk7.keep (hW.block bx hk7.lt (by simpa using hax.symm)) : Bk W bx 42 (ic x)).range
          have HV7 : Hid (Vw w7.drew a (.slice (some ⟨g, 0, none⟩) 12288 cap) (.slice none 0 0) (Nd.opI d k)) := ⟨hv7.k.keep rfl, hv7.f⟩
          have HO7 : Hid (∀ W, w7.drew.grownBy W (some a) → W.ownsRow w.heap.size 5 1 (.slice (some ⟨g, 0, none⟩) 12288 cap) 12288 (d.map eb)) := fun W hW => own_keep ho7 fun j hj => hW.block j (ho7.lt j hj).2 (by
            have e : g = j := by simpa [Value.ownBlock] using hj
            subst e
            simpa using hag.symm)
          have HM7 : Hid (∀ W, w7.drew.grownBy W (some a) → Mb Try.prog 3 4 W mb (12 * (k + 1)) (Nd.mt (Nd.opL d (k + 1)))) := fun W hW => (hm7.keep (hW.block mb hm7.lt (by simpa using hm_a.symm))).mono (by omega)
          have HL7 : Hid (∀ W, w7.drew.grownBy W (some a) → Below w.heap.size w W) := fun W hW => hl7.drew.trans (below_of_grown hW hla hl7.size)
          clear hm7 hv7 hk7 ho7 hl7 hb7 HV6 HO6 HB6 HK6 HPR
          refine wp_region_noPanic ?_
          refine wp_region_held_drew (S := fun w' => w'.rangeAt bx 0 (ic x)) (by kernel_rfl) HS4.out (fun _ => ?_)
          refine wpAnyH_take (i := 2) (oi := ⟨some 51, _, _, _, _, _⟩) (v := .agg (ic x).toArray) rfl (by kernel_rfl) (by kernel_rfl) (by kernel_rfl) (fun _ _ _ h => h) (yieldsIf_load_mid (by rfl) 42 _ rfl bx 0 rfl (ic x) _ (fun _ h => h) Try.underlying42 rfl (by rw [ic_len HXN.out]; exact Try.sizeII)) HS4.out ?req2
          (try simp only [Act.put, List.setIfInBounds_toArray, List.set_cons_zero, List.set_cons_succ])
          refine wpAnyH_take (i := 0) (oi := ⟨some 49, _, _, _, _, _⟩) (v := ?_) rfl (by kernel_rfl) (by kernel_rfl) (by kernel_rfl) (fun _ _ _ h => h) (Or.inl ⟨by rfl, ?hyq0⟩) HS4.out ?req0
          case hyq0 => ((intro w hSw; (try dsimp only at hSw); go_simp); first | done | with_reducible rfl)
          (try simp only [Act.put, List.setIfInBounds_toArray, List.set_cons_zero, List.set_cons_succ])
          refine wpAnyH_take (i := 1) (oi := ⟨some 50, _, _, _, _, _⟩) (v := ?_) rfl (by kernel_rfl) (by kernel_rfl) (by kernel_rfl) (fun _ _ _ h => h) (Or.inl ⟨by rfl, ?hyq1⟩) HS4.out ?req1
          case hyq1 => ((intro w hSw; (try dsimp only at hSw); go_simp); first | done | with_reducible rfl)
          (try simp only [Act.put, List.setIfInBounds_toArray, List.set_cons_zero, List.set_cons_succ])
          refine wpAnyH_take (i := 3) (oi := ⟨some 52, _, _, _, _, _⟩) (v := ?_) rfl (by kernel_rfl) (by kernel_rfl) (by kernel_rfl) (fun _ _ _ h => h) (Or.inl ⟨by rfl, ?hyq3⟩) HS4.out ?req3
          case hyq3 => ((intro w hSw; (try dsimp only at hSw); go_simp); first | done | with_reducible rfl)
          (try simp only [Act.put, List.setIfInBounds_toArray, List.set_cons_zero, List.set_cons_succ])
          refine wpAnyH_take (i := 4) (oi := ⟨some 53, _, _, _, _, _⟩) (v := ?_) rfl (by kernel_rfl) (by kernel_rfl) (by kernel_rfl) (fun _ _ _ h => h) (Or.inl ⟨by rfl, ?hyq4⟩) HS4.out ?req4
          case hyq4 => ((intro w hSw; (try dsimp only at hSw); go_simp); first | done | with_reducible rfl)
          (try simp only [Act.put, List.setIfInBounds_toArray, List.set_cons_zero, List.set_cons_succ])
          refine wpAnyH_take (i := 5) (oi := ⟨some 54, _, _, _, _, _⟩) (v := ?_) rfl (by kernel_rfl) (by kernel_rfl) (by kernel_rfl) (fun _ _ _ h => h) (Or.inl ⟨by rfl, ?hyq5⟩) HS4.out ?req5
          case hyq5 => ((intro w hSw; (try dsimp only at hSw); go_simp); first | done | with_reducible rfl)
          (try simp only [Act.put, List.setIfInBounds_toArray, List.set_cons_zero, List.set_cons_succ])
          refine wpAnyH_ready (rs := [6]) (by kernel_rfl) (by simp) ?_
          refine AllReadyH.cons rfl (fun K hK => ?_) AllReadyH.nil
          refine step_store_vino rfl 42 _ _ rfl a k _ rfl (by omega) x (HXN.out) rfl HV7.out hlt Try.sizeII ?_
          intro w9 hv9 hg9
          refine hK.out _ _ (HS5.out _ hg9) (fun _ => ?_)
          clear hK K
          (try simp only [Act.put, List.setIfInBounds_toArray, List.set_cons_zero, List.set_cons_succ])
          refine wpAnyH_done (by kernel_rfl) ?_ _
          refine NoPanic.normal ?_
          go_wp2_with fail
          go_roundw
          case rel => exact ⟨k + 1, by go_num, by omega, by rw [HST.out] at hv9; exact hv9, HO7.out _ hg9, HM7.out _ hg9, fun m hm => by by_cases e : m = k; { subst e; exact HY.out.1 }; exact HF.out m (by omega), HY.out.2, HL7.out _ hg9⟩
          case measure => simp [intOf]; omega
    · have hk32 : k = 32 := by omega
      have f5 : ¬ (k : Int) < 32 := by omega
      rw [hk32] at hvr hmr HF HN
      rw [Nd.opI_all] at hvr
      have hm1 := HM1.out wr
      have HVR := Lib.hid hvr
      have HOR := Lib.hid hor
      have HMR := Lib.hid hmr
      have HBR := Lib.hid hbr
      clear hvr hor hmr hbr hk32 hk hlt
      go_upto_region 20 with fail
      obtain ⟨W8, hW8⟩ : ∃ W, W = wr.alloc (.cells ZA 5 (0, 0)) := ⟨_, rfl⟩
      obtain ⟨m, hm⟩ : ∃ y, y = wr.heap.size := ⟨_, rfl⟩
      have hl8 : Below wr.heap.size wr W8 := by rw [hW8]; exact low_alloc _ _
      have hk8 : Bk W8 m 5 ((Nd.bmTo (Nd.opL d 32) 0).map eb) := by rw [hW8, hm, ← HBZ.out]; exact HNK.out wr
      have hma : m ≠ a := by have := HVR.out.k.lt; omega
      have hmg : m ≠ g := by have := (HOR.out.lt g rfl).2; omega
      have hmm : m ≠ mb := by have := HMR.out.lt; omega
      have HV8 := Lib.hid (HVR.out.below hl8 HVR.out.k.lt)
      have HO8 := Lib.hid (own_below HOR.out hl8)
      have HM8 := Lib.hid (HMR.out.below hl8 HMR.out.lt)
      have HL8 := Lib.hid (stepAny HBR.out hl8)
      have hlm8 : w.heap.size ≤ m := by rw [hm]; exact HBR.out.size
      rw [← hW8, ← hm]
      clear hW8 hm hl8 HVR HOR HMR HBR HNK HBZ HZL HM1 hm1 f5
      generalize Nd.opL d 32 = L at *
      go_wp2_with fail
      go_loopw [11, 57] (fun _ i wt => ∃ n : Nat, i = .int .i64 n ∧ n ≤ 96 ∧ Bk wt m 5 ((Nd.bmTo L n).map eb) ∧ But m W8 wt) (fun _ i _ => 96 - (intOf i).toNat)
      case atStart => exact ⟨0, rfl, by omega, hk8, But.refl _ _⟩
      case round =>
        rename World => wt
        clear hk8
        obtain ⟨n, rfl, hn, hkn, hbn⟩ := hrel
        by_cases hlt : n < 96
        · have hyes := fun h => Nd.bmTo_yes (L := L) (n := n) h
          have hno := fun h => Nd.bmTo_no (L := L) (n := n) h
          have hlk : (Instr.lookup 104 (.map (some mb)) (.int .i64 (n : Int)) false).run Try.prog wt = .ok (.bool (Nd.mt L (n : Int))) wt := (HM8.out.keep (hbn.rest mb HM8.out.lt hmm.symm)).look Try.underlying3 Try.underlying104 Try.underlying4 (Try.zeroBool wt) (WalkArith.wf_i64 (by omega))
          rw [Nd.mt_nat] at hlk
          have f6 : (n : Int) < 96 := by omega
          have f7 : (0 : Int) ≤ (n : Int) := by omega
          have hq8 : n / 8 < (Nd.bmTo L n).length := by rw [Nd.bmTo_len]; omega
          have hin : Nd.bmIn L n = (decide (n < 18) || decide (n ∈ L)) := rfl
          have y0 : wt.cell? ⟨m, n / 8, none⟩ = some (eb (Nd.bmTo L n)[n / 8]) := by rw [hkn.cell, List.getElem?_map, List.getElem?_eq_getElem hq8]; rfl
          have y1 := hkn.frozen (n / 8)
          have hon := set_on (Nd.bmTo L n)[n / 8] (k := n % 8) (Nat.mod_lt _ (by decide))
          have hst := hkn.set (n / 8) (eb (Ex.setB (Nd.bmTo L n)[n / 8] (n % 8) true))
          have hpb : ((Nd.bmTo L n).map eb).set (n / 8) (eb (Ex.setB (Nd.bmTo L n)[n / 8] (n % 8) true)) = (Ex.putB (Nd.bmTo L n) n true).map eb := by
            unfold Ex.putB; simp [List.getD, hq8]
          rw [hpb] at hst
          have hgs : But m W8 (wt.setCell ⟨m, n / 8, none⟩ (eb (Ex.setB (Nd.bmTo L n)[n / 8] (n % 8) true))) := hbn.set _ _
          generalize (Nd.bmTo L n)[n / 8] = c at *
          unfold eb at y0 hst hgs
          have HKN := Lib.hid hkn
          have HBN := Lib.hid hbn
          have HST := Lib.hid hst
          have HGS := Lib.hid hgs
          have HON := Lib.hid hon
          clear hpb hst hgs hon hkn hbn hq8
          have e1 : ((n : Int) / 8).toNat = n / 8 := by omega
          have e2 : (0 : Int) ≤ (n : Int) / 8 := by omega
          have e3 : (n : Int) / 8 < 128 := by omega
          have e4 : (0 : Int) ≤ (n : Int) % 8 := by omega
          by_cases h18 : n < 18
          · have HYS := Lib.hid (hyes (by rw [hin, decide_eq_true h18]; rfl))
            have f8 : (n : Int) < 18 := by omega
            clear hyes hno hlk hin
            go_upto_region 24 with fail
            go_region
            rw [HON.out]
            obtain ⟨W9, hW9⟩ : ∃ W, W = (wt.setCell ⟨m, n / 8, none⟩ (.int .u8 ((Ex.setB c (n % 8) true).toNat : Int))).drew := ⟨_, rfl⟩
            have hk9 : Bk W9 m 5 ((Ex.putB (Nd.bmTo L n) n true).map eb) := by rw [hW9]; exact HST.out.keep rfl
            have hb9 : But m W8 W9 := by rw [hW9]; exact ⟨HGS.out.low.drew, HGS.out.rest⟩
            rw [← hW9]
            rw [← HYS.out] at hk9
            clear hW9 HST HGS HON HKN HBN
            go_wp2_with fail
            go_roundw
            case rel => exact ⟨n + 1, by go_num, by omega, hk9, hb9⟩
            case measure => simp [intOf]; omega
          · have f8 : ¬ (n : Int) < 18 := by omega
            by_cases hmem : n ∈ L
            · have HYS := Lib.hid (hyes (by rw [hin, decide_eq_true hmem, Bool.or_true]))
              rw [decide_eq_true hmem] at hlk
              clear hyes hno hin hmem
              go_upto_region 24 with fail
              go_region
              rw [HON.out]
              obtain ⟨W9, hW9⟩ : ∃ W, W = (wt.setCell ⟨m, n / 8, none⟩ (.int .u8 ((Ex.setB c (n % 8) true).toNat : Int))).drew := ⟨_, rfl⟩
              have hk9 : Bk W9 m 5 ((Ex.putB (Nd.bmTo L n) n true).map eb) := by rw [hW9]; exact HST.out.keep rfl
              have hb9 : But m W8 W9 := by rw [hW9]; exact ⟨HGS.out.low.drew, HGS.out.rest⟩
              rw [← hW9]
              rw [← HYS.out] at hk9
              clear hW9 HST HGS HON HKN HBN
              go_wp2_with fail
              go_roundw
              case rel => exact ⟨n + 1, by go_num, by omega, hk9, hb9⟩
              case measure => simp [intOf]; omega
            · have HNO := Lib.hid (hno (by rw [hin, decide_eq_false hmem, decide_eq_false h18]; rfl))
              rw [decide_eq_false hmem] at hlk
              clear hyes hno hin hmem y0 y1 e1 e2 e3 e4
              go_wp2_with fail
              go_roundw
              case rel => exact ⟨n + 1, by go_num, by omega, by rw [HNO.out]; exact HKN.out, HBN.out⟩
              case measure => simp [intOf]; omega
        · have hn96 : n = 96 := by omega
          have f6 : ¬ (n : Int) < 96 := by omega
          rw [hn96] at hkn
          have hvt := HV8.out.but hbn hma.symm
          have hot := own_keep HO8.out fun j hj => hbn.rest j (HO8.out.lt j hj).2 (by
            have e : g = j := by simpa [Value.ownBlock] using hj
            omega)
          have hlt8 : Below w.heap.size w wt := HL8.out.trans (hbn.low.mono hlm8)
          have HBK : Hid (Calls Try.prog 43 #[.pointer (some ⟨a, 0, none⟩), .int .i64 13] wt fun e w' => e = .returned (.slice (some ⟨g, 1664, none⟩) 128 (cap - 1664)) ∧ wt = w') := by
            have h := vblock_w g a 0 cap 13 (by decide) hcn hcm hvt.disk
            rw [Nat.zero_add] at h
            exact h
          have hss : Sl eb wt (.slice (some ⟨m, 0, none⟩) 128 128) (Nd.bmTo L 96) := by
            have hlen : ((Nd.bmTo L 96).map eb).length = 128 := by rw [List.length_map, Nd.bmTo_len]
            have h := Bk.own hkn (Nat.le_refl _) (by rw [hlen]; decide)
            rw [hlen] at h
            exact own_sl0 h (Nd.bmTo_len L 96)
          have hcb := (own_sl0 hot HD.out).cut 1664 128 (by omega)
          rw [Nat.zero_add] at hcb
          have heq := bequal_w (.slice (some ⟨g, 1664, none⟩) 128 (cap - 1664)) (.slice (some ⟨m, 0, none⟩) 128 128) (Jr.blk d 13) (Nd.bmTo L 96) wt hcb hss
          have HVT := Lib.hid hvt
          have HOT := Lib.hid hot
          have HLT := Lib.hid hlt8
          have HKN := Lib.hid hkn
          clear hkn hbn hvt hot hlt8 hss hcb hn96 HV8 HO8 HL8 HM8
          by_cases hb13 : Jr.blk d 13 = Nd.bmTo L 96
          rotate_left
          · rw [decide_eq_false hb13] at heq
            have HR := Lib.hid (HOB.out hb13)
            have HEQ := Lib.hid heq
            clear hb13 heq
            go_wp2_with (first
              | (go_at_call 43; (with_reducible refine HBK.out.mono ?_); rintro e w' ⟨rfl, rfl⟩)
              | (go_at_call 63; (with_reducible refine HEQ.out.mono ?_); rintro e w' ⟨rfl, rfl⟩))
            go_ret2
            exact .inl ⟨by rw [HR.out]; decide, by rw [HR.out]; rfl, HLT.out⟩
          rw [decide_eq_true hb13] at heq
          have HEQ := Lib.hid heq
          have HB13 := Lib.hid hb13
          clear hb13 heq
          have z1 : wt.cell? ⟨a, 1, none⟩ = some (.int .i64 ((Nd.raw d 0).kind : Int)) := by
            have h := HVT.out.kind (n := 0) (by decide)
            rw [show (Nd.inos d).getD 0 Nd.free = Nd.raw d 0 by rw [List.getD_eq_getElem?_getD, Nd.raw_get d (by decide)]; rfl] at h
            exact h
          by_cases hk2 : (Nd.raw d 0).kind = 2
          rotate_left
          · have HR := Lib.hid (HOK.out hk2)
            have f8 : (((Nd.raw d 0).kind : Int) != 2) = true := by rw [bne_iff_ne]; omega
            generalize (Nd.raw d 0).kind = kd at *
            clear hk2
            go_wp2_with (first
              | (go_at_call 43; (with_reducible refine HBK.out.mono ?_); rintro e w' ⟨rfl, rfl⟩)
              | (go_at_call 63; (with_reducible refine HEQ.out.mono ?_); rintro e w' ⟨rfl, rfl⟩))
            go_ret2
            exact .inl ⟨by rw [HR.out]; decide, by rw [HR.out]; rfl, HLT.out⟩
          · have HR := Lib.hid (HOE.out H0.out (fun n hn => HF.out n hn) HN.out HB13.out hk2)
            have f8 : (((Nd.raw d 0).kind : Int) != 2) = false := by rw [hk2]; rfl
            generalize (Nd.raw d 0).kind = kd at *
            clear hk2
            obtain ⟨z9, y9⟩ := HVT.out.bits
            go_wp2_with (first
              | (go_at_call 43; (with_reducible refine HBK.out.mono ?_); rintro e w' ⟨rfl, rfl⟩)
              | (go_at_call 63; (with_reducible refine HEQ.out.mono ?_); rintro e w' ⟨rfl, rfl⟩))
            go_ret2
            refine .inr ⟨HR.out.1, a, g, cap, .slice (some ⟨m, 0, none⟩) 12 128, rfl, HVT.out.set_bits _, own_keep HOT.out fun j hj => Below.heap_setCell _ _ _ _ (by
              have e : g = j := by simpa [Value.ownBlock] using hj
              simp; omega), fun W' hW => ?_, hag, hla, HLT.out.setCell hla _⟩
            have hkW : Bk W' m 5 ((Nd.bmTo L 96).map eb) := HKN.out.keep ((hW m (by simpa [World.setCell] using HKN.out.lt) (by omega)).trans (Below.heap_setCell _ _ _ _ (by simp; omega)))
            have hlen : ((Nd.bmTo L 96).map eb).length = 128 := by rw [List.length_map, Nd.bmTo_len]
            have h := Bk.own hkW (Nat.le_refl _) (by rw [hlen]; decide)
            rw [hlen] at h
            have h2 := (own_sl0 h (Nd.bmTo_len L 96)).cut 0 12 (by omega)
            rw [HR.out.2]
            exact h2
end Go.Proofs.Ytbklmpekpcneeaa
namespace Nd
theorem get_at2 {d : List UInt8} {n : Int} (h : check d = 0) : get d n = lget (inos d) n := (lget_inos h n).symm
theorem get_off {d : List UInt8} {n : Int} (h : check d ≠ 0) : get d n = (free, check d) := if_pos h
theorem get_blen {d : List UInt8} (n : Int) : (get d n).1.bl.length = 12 := by
  by_cases h : check d = 0
  · rw [get_at2 h]; exact lget_bl (Full.inos d) n
  · rw [get_off h]; rfl
end Nd
namespace Go.Proofs.Ytbklmpekpcneeaa
open Go.RowKit
set_option maxRecDepth 100000

theorem step_store_part {P : Program} {w : World} {ops : Array Oper} {o : Oper} {ac : Act} {K : Act → World → Prop} {Q : Exit → Act → World → Prop} {E : Prop} (hgd : o.guard = none) (ty : TypeId) (x y : Operand) (ho : o.op = .store ty x y) (g k n : Nat) (cs : List Value) (hx : ac.eval x = .pointer (some ⟨g, k, none⟩)) (hy : ac.eval y = .agg cs.toArray) (T : TypeId) (l : List Value) (hb : Bk w g T l) (hn : cs.length = n) (hk : k + n ≤ l.length)
    (hi : (P.info? ty).map (·.size) = some n) (h1 : ∀ u ∈ cs, u.oneCell' = true)
    (h : ∀ w', Bk w' g T (splice l k cs) → w.grownBy w' (some g) → K (ac.put o.dst undef) w') : if Region.wanted o (yielded ops ac.tmps) = true then Oper.wp P o ac w K Q else E := by
  have hwt : Region.wanted o (yielded ops ac.tmps) = true := by simp [Region.wanted, hgd]
  rw [if_pos hwt]
  refine wp_store_mid ty x y ho g k cs.toArray hx hy (by simpa [hn] using hb.there k n hk) (by simpa [hn] using hi) (all_oneCell_toArray h1) ?_
  have this := hb.setCells cs k w l (by omega)
  exact h _ this.1 this.2

/-- The world of a view goes on. -/
theorem Opn.later {w w1 w2 : World} {a g cap : Nat} {bv : Value} {d : List UInt8} (h : Opn w w1 a g cap bv d) (hb : Below w1.heap.size w1 w2) : Opn w w2 a g cap bv d :=
  ⟨h.vw.below hb h.vw.k.lt, own_below h.own hb, h.bits.below hb, h.ne, h.la, stepAny h.low hb⟩

/-- The same, seen from an elder world; blocks between the two may be written. -/
theorem Opn.from {w W1 w4 w9 : World} {a g cap : Nat} {bv : Value} {d : List UInt8} (h : Opn W1 w4 a g cap bv d) (hlow : Below w.heap.size w w9) (hs : w4.heap.size ≤ w9.heap.size) (h1 : w.heap.size ≤ W1.heap.size) (hk : ∀ b, W1.heap.size ≤ b → b < w4.heap.size → w9.heap[b]? = w4.heap[b]?) : Opn w w9 a g cap bv d := by
  have hg := h.own.lt g rfl
  refine ⟨⟨h.vw.k.keep (hk a h.la h.vw.k.lt), h.vw.f⟩, own_base (own_keep h.own fun j hj => ?_) h1, fun W' hW => h.bits W' fun b hb hx => ?_, h.ne, Nat.le_trans h1 h.la, hlow⟩
  · exact hk j (h.own.lt j hj).1 (h.own.lt j hj).2
  · have hx1 : ¬ b = g := fun e => hx (.inl e)
    have hx2 : ¬ b = a := fun e => hx (.inr (.inl e))
    have hx3 : ¬ b < W1.heap.size := fun e => hx (.inr (.inr e))
    exact (hW b (by omega) (by omega)).trans (hk b (by omega) hb)

set_option maxHeartbeats 8000000 in
theorem vwith_w {v : Value} {d : List UInt8} {w : World} (hv : Sl eb w v d) (hl : d.length ≤ 100000) (n : Int) : Calls Try.prog 40 #[v, .int .i64 n] w fun e w' =>
    ∃ pv, e = .returned (.tuple #[pv, .agg (ic (Nd.get d n).1).toArray, .int .i64 (Nd.get d n).2]) ∧ Below w.heap.size w w' ∧
      ((Nd.get d n).2 = 0 → ∃ a g cap bv, pv = .pointer (some ⟨a, 0, none⟩) ∧ Opn w w' a g cap bv d) := by
  obtain ⟨W1, hW1⟩ : ∃ W, W = w.alloc (.cells #[.int .i64 0, .int .i64 0, .int .i64 0, .int .i64 0, .int .i64 0, .int .i64 0, .int .i64 0, .int .i64 0, .int .i64 0, .int .i64 0, .int .i64 0, .int .i64 0, .int .i64 0, .int .i64 0] 42 (0, 0)) := ⟨_, rfl⟩
  have hl1 : Below w.heap.size w W1 := by rw [hW1]; exact low_alloc _ _
  have hk1 : Bk W1 w.heap.size 42 [.int .i64 0, .int .i64 0, .int .i64 0, .int .i64 0, .int .i64 0, .int .i64 0, .int .i64 0, .int .i64 0, .int .i64 0, .int .i64 0, .int .i64 0, .int .i64 0, .int .i64 0, .int .i64 0] := by rw [hW1]; exact Bk.new w _ [.int .i64 0, .int .i64 0, .int .i64 0, .int .i64 0, .int .i64 0, .int .i64 0, .int .i64 0, .int .i64 0, .int .i64 0, .int .i64 0, .int .i64 0, .int .i64 0, .int .i64 0, .int .i64 0]
  have HW1 := Lib.hid hW1
  have HK1 := Lib.hid hk1
  have HL1 := Lib.hid hl1
  have HC := Lib.hid (vopen_w (hv.below hl1 (Nat.le_refl _)) hl)
  clear hW1 hl1 hk1 hv
  by_cases hc : Nd.check d = 0
  rotate_left
  · have HG := Lib.hid (Nd.get_off (n := n) hc)
    have HC2 : Hid (Calls Try.prog 45 #[v] W1 fun e w' => e = .returned (.tuple #[.pointer none, .int .i64 (Nd.check d)]) ∧ Below W1.heap.size W1 w') := HC.out.mono fun e w' h => by
      rcases h with ⟨-, h1, h2⟩ | ⟨h, -⟩
      · exact ⟨h1, h2⟩
      · exact absurd h hc
    have HN := Lib.hid hc
    have f1 : (Nd.check d != 0) = true := by rw [bne_iff_ne]; exact hc
    generalize Nd.check d = ec at *
    clear hc HC
    go_enter Try.func40, Try.ntmps40
    go_upto_region 1 with fail
    rw [← HW1.out]
    go_wp2_with (first
      | (go_at_call 45; (with_reducible refine HC2.out.mono ?_); rintro e w2 ⟨rfl, hb2⟩; have hk2 := HK1.out.below hb2 HK1.out.lt)
      | (refine wpList_store_part rfl 42 _ _ rfl w.heap.size 0 14 (ic Nd.free) rfl rfl 42 _ hk2 rfl (by simp) Try.sizeII (ic_one _) ?_; intro w3 hk3 hg3))
    rw [splice_all _ _ (by rfl)] at hk3
    (try simp only [Exit.inBlock, Exit.then])
    rw [HG.out]
    exact bodyPost_ret (results_tmp_ino_tmp rfl _ _ Nd.free rfl w.heap.size rfl _ hk3 _ Try.underlying42 rfl Try.sizeII) rfl ⟨_, rfl, (stepAny HL1.out hb2).trans (below_of_grown hg3 (Nat.le_refl _) (stepAny HL1.out hb2).size), fun h => absurd h HN.out⟩
  have HC2 : Hid (Calls Try.prog 45 #[v] W1 fun e w' => ∃ a g cap bv, e = .returned (.tuple #[.pointer (some ⟨a, 0, none⟩), .int .i64 0]) ∧ Opn W1 w' a g cap bv d) := HC.out.mono fun e w' h => by
    rcases h with ⟨h, -⟩ | ⟨-, h⟩
    · exact absurd hc h
    · exact h
  have HXN : Hid ((Nd.get d n).1.bl.length = 12) := Nd.get_blen n
  have HGT : Hid (Nd.lget (Nd.inos d) n = Nd.get d n) := Nd.lget_inos hc n
  clear HC hc
  obtain ⟨x, ec, hxe⟩ : ∃ x ec, Nd.get d n = (x, ec) := ⟨_, _, rfl⟩
  rw [hxe] at HXN HGT ⊢
  clear hxe
  go_enter Try.func40, Try.ntmps40
  go_upto_region 1 with fail
  rw [← HW1.out]
  go_upto_region 5 with (first
    | (go_at_call 45; (with_reducible refine HC2.out.mono ?_); rintro e w2 ⟨a, g, cap, bv, rfl, HO2⟩; have hk2 := HK1.out.below HO2.low HK1.out.lt; have hgt := vget_w HO2.vw n; rw [HGT.out] at hgt)
    | (go_at_call 71; (with_reducible refine hgt.mono ?_); rintro e w3 ⟨rfl, hb3⟩; have HO3 := HO2.later hb3; have hk3 := hk2.below hb3 hk2.lt)
    | (refine wpList_store_part rfl 42 _ _ rfl w3.heap.size 0 14 (ic x) rfl rfl 42 [.int .i64 0, .int .i64 0, .int .i64 0, .int .i64 0, .int .i64 0, .int .i64 0, .int .i64 0, .int .i64 0, .int .i64 0, .int .i64 0, .int .i64 0, .int .i64 0, .int .i64 0, .int .i64 0] (Bk.new w3 _ [.int .i64 0, .int .i64 0, .int .i64 0, .int .i64 0, .int .i64 0, .int .i64 0, .int .i64 0, .int .i64 0, .int .i64 0, .int .i64 0, .int .i64 0, .int .i64 0, .int .i64 0, .int .i64 0]) (ic_len HXN.out) (by simp) Try.sizeII (ic_one _) ?_; intro w4 hk4 hg4))
  rw [splice_all _ _ (by rw [ic_len HXN.out]; rfl)] at hk4
  have hl34 : Below w3.heap.size w3 w4 := (low_alloc w3 _).trans (below_of_grown hg4 (Nat.le_refl _) (low_alloc w3 (.cells #[.int .i64 0, .int .i64 0, .int .i64 0, .int .i64 0, .int .i64 0, .int .i64 0, .int .i64 0, .int .i64 0, .int .i64 0, .int .i64 0, .int .i64 0, .int .i64 0, .int .i64 0, .int .i64 0] 42 (0, 0))).size)
  have HO4 := HO3.later hl34
  have hk5 := hk3.below hl34 hk3.lt
  obtain ⟨bx, hbx⟩ : ∃ y, y = w3.heap.size := ⟨_, rfl⟩
  have hbne : bx ≠ w.heap.size := by have := hk3.lt; omega
  rw [← hbx] at hk4 ⊢
  have hs1 : W1.heap.size = w.heap.size + 1 := by rw [HW1.out]; simp
  have HS4 : Hid (w4.drew.rangeAt bx 0 (ic x)) := (hk4.keep rfl : Bk w4.drew bx 42 (ic x)).range
  have HS5 : Hid (∀ W, w4.drew.grownBy W (some w.heap.size) → W.rangeAt bx 0 (ic x)) := fun W hW => (hk4.keep (hW.block bx hk4.lt (by simpa using hbne)) : Bk W bx 42 (ic x)).range
  have HZ5 : Hid (Bk w4.drew w.heap.size 42 [.int .i64 0, .int .i64 0, .int .i64 0, .int .i64 0, .int .i64 0, .int .i64 0, .int .i64 0, .int .i64 0, .int .i64 0, .int .i64 0, .int .i64 0, .int .i64 0, .int .i64 0, .int .i64 0]) := hk5.keep rfl
  have HEND : Hid (∀ W, w4.drew.grownBy W (some w.heap.size) → Below w.heap.size w W ∧ Opn w W a g cap bv d) := fun W hW => by
    have hlow : Below w.heap.size w W := (stepAny HL1.out HO4.low).drew.trans (below_of_grown hW (Nat.le_refl _) (stepAny HL1.out HO4.low).size)
    refine ⟨hlow, HO4.from hlow hW.size (by omega) fun b h1 h2 => hW.block b h2 (by simp; omega)⟩
  clear hk2 hk3 hk4 hk5 hg4 hl34 hbx hbne hs1 HO2 HO3 HO4 hgt hb3 HC2 HK1 HL1 HW1
  refine wp_region_noPanic ?_
  refine wp_region_held_drew (S := fun w' => w'.rangeAt bx 0 (ic x)) (by kernel_rfl) HS4.out (fun _ => ?_)
  refine wpAnyH_take (i := 1) (oi := ⟨some 26, _, _, _, _, _⟩) (v := .agg (ic x).toArray) rfl (by kernel_rfl) (by kernel_rfl) (by kernel_rfl) (fun _ _ _ h => h) (yieldsIf_load_mid (by rfl) 42 _ rfl bx 0 rfl (ic x) _ (fun _ h => h) Try.underlying42 rfl (by rw [ic_len HXN.out]; exact Try.sizeII)) HS4.out ?rer1
  (try simp only [Act.put, List.setIfInBounds_toArray, List.set_cons_zero, List.set_cons_succ])
  refine wpAnyH_take (i := 0) (oi := ⟨some 25, _, _, _, _, _⟩) (v := ?_) rfl (by kernel_rfl) (by kernel_rfl) (by kernel_rfl) (fun _ _ _ h => h) (Or.inl ⟨by rfl, ?hyr0⟩) HS4.out ?rer0
  case hyr0 => ((intro w hSw; (try dsimp only at hSw); go_simp); first | done | with_reducible rfl)
  (try simp only [Act.put, List.setIfInBounds_toArray, List.set_cons_zero, List.set_cons_succ])
  refine wpAnyH_take (i := 2) (oi := ⟨some 27, _, _, _, _, _⟩) (v := ?_) rfl (by kernel_rfl) (by kernel_rfl) (by kernel_rfl) (fun _ _ _ h => h) (Or.inl ⟨by rfl, ?hyr2⟩) HS4.out ?rer2
  case hyr2 => ((intro w hSw; (try dsimp only at hSw); go_simp); first | done | with_reducible rfl)
  (try simp only [Act.put, List.setIfInBounds_toArray, List.set_cons_zero, List.set_cons_succ])
  refine wpAnyH_take (i := 3) (oi := ⟨some 4, _, _, _, _, _⟩) (v := ?_) rfl (by kernel_rfl) (by kernel_rfl) (by kernel_rfl) (fun _ _ _ h => h) (Or.inl ⟨by rfl, ?hyr3⟩) HS4.out ?rer3
  case hyr3 => ((intro w hSw; (try dsimp only at hSw); go_simp); first | done | with_reducible rfl)
  (try simp only [Act.put, List.setIfInBounds_toArray, List.set_cons_zero, List.set_cons_succ])
  refine wpAnyH_ready (rs := [4]) (by kernel_rfl) (by simp) ?_
  refine AllReadyH.cons rfl (fun K hK => ?_) AllReadyH.nil
  refine step_store_part rfl 42 _ _ rfl w.heap.size 0 14 (ic x) rfl rfl 42 [.int .i64 0, .int .i64 0, .int .i64 0, .int .i64 0, .int .i64 0, .int .i64 0, .int .i64 0, .int .i64 0, .int .i64 0, .int .i64 0, .int .i64 0, .int .i64 0, .int .i64 0, .int .i64 0] HZ5.out (ic_len HXN.out) (by simp) Try.sizeII (ic_one _) ?_
  intro w9 hk9 hg9
  refine hK.out _ _ (HS5.out _ hg9) (fun _ => ?_)
  clear hK K
  (try simp only [Act.put, List.setIfInBounds_toArray, List.set_cons_zero, List.set_cons_succ])
  refine wpAnyH_take (i := 5) (oi := ⟨some 6, _, _, _, _, _⟩) (v := ?_) rfl (by kernel_rfl) (by kernel_rfl) (by kernel_rfl) (fun _ _ _ h => h) (Or.inl ⟨by rfl, ?hyr5⟩) (HS5.out _ hg9) ?rer5
  case hyr5 => ((intro w hSw; (try dsimp only at hSw); go_simp); first | done | with_reducible rfl)
  (try simp only [Act.put, List.setIfInBounds_toArray, List.set_cons_zero, List.set_cons_succ])
  refine wpAnyH_done (by kernel_rfl) ?_ _
  refine NoPanic.normal ?_
  go_wp2_with fail
  rw [splice_all _ _ (by rw [ic_len HXN.out]; rfl)] at hk9
  (try simp only [Exit.inBlock, Exit.then])
  exact bodyPost_ret (results_tmp_ino_tmp rfl _ _ x HXN.out w.heap.size rfl _ hk9 _ Try.underlying42 rfl Try.sizeII) rfl ⟨_, rfl, (HEND.out _ hg9).1, fun _ => by first | exact ⟨a, g, cap, bv, rfl, (HEND.out _ hg9).2⟩ | exact ⟨a, rfl, g, cap, bv, (HEND.out _ hg9).2⟩⟩

theorem vcheck_w {v : Value} {d : List UInt8} {w : World} (hv : Sl eb w v d) (hl : d.length ≤ 100000) : Calls Try.prog 17 #[v] w fun e w' => e = .returned (.int .i64 (Nd.check d)) ∧ Below w.heap.size w w' := by
  have HC : Hid (Calls Try.prog 45 #[v] w fun e w' => ∃ pv, e = .returned (.tuple #[pv, .int .i64 (Nd.check d)]) ∧ Below w.heap.size w w') := (vopen_w hv hl).mono fun e w' h => by
    rcases h with ⟨-, h1, h2⟩ | ⟨h0, a, g, cap, bv, h1, h2⟩
    · exact ⟨_, h1, h2⟩
    · rw [h0]; exact ⟨_, h1, h2.low⟩
  generalize Nd.check d = c at *
  clear hv
  go_enter Try.func17, Try.ntmps17
  go_wp2_with (go_at_call 45; (with_reducible refine HC.out.mono ?_); rintro e w' ⟨pv, rfl, hb⟩)
  go_ret
  exact ⟨rfl, hb⟩

set_option maxHeartbeats 8000000 in
theorem vGet_w {v : Value} {d : List UInt8} {w : World} (hv : Sl eb w v d) (hl : d.length ≤ 100000) (n : Int) : Calls Try.prog 19 #[v, .int .i64 n] w fun e w' => e = .returned (.tuple #[.agg (ic (Nd.get d n).1).toArray, .int .i64 (Nd.get d n).2]) ∧ Below w.heap.size w w' := by
  obtain ⟨W1, hW1⟩ : ∃ W, W = w.alloc (.cells #[.int .i64 0, .int .i64 0, .int .i64 0, .int .i64 0, .int .i64 0, .int .i64 0, .int .i64 0, .int .i64 0, .int .i64 0, .int .i64 0, .int .i64 0, .int .i64 0, .int .i64 0, .int .i64 0] 42 (0, 0)) := ⟨_, rfl⟩
  have hl1 : Below w.heap.size w W1 := by rw [hW1]; exact low_alloc _ _
  have hk1 : Bk W1 w.heap.size 42 [.int .i64 0, .int .i64 0, .int .i64 0, .int .i64 0, .int .i64 0, .int .i64 0, .int .i64 0, .int .i64 0, .int .i64 0, .int .i64 0, .int .i64 0, .int .i64 0, .int .i64 0, .int .i64 0] := by rw [hW1]; exact Bk.new w _ [.int .i64 0, .int .i64 0, .int .i64 0, .int .i64 0, .int .i64 0, .int .i64 0, .int .i64 0, .int .i64 0, .int .i64 0, .int .i64 0, .int .i64 0, .int .i64 0, .int .i64 0, .int .i64 0]
  have HW1 := Lib.hid hW1
  have HK1 := Lib.hid hk1
  have HL1 := Lib.hid hl1
  have HXN : Hid ((Nd.get d n).1.bl.length = 12) := Nd.get_blen n
  have HC : Hid (Calls Try.prog 40 #[v, .int .i64 n] W1 fun e w' => ∃ pv, e = .returned (.tuple #[pv, .agg (ic (Nd.get d n).1).toArray, .int .i64 (Nd.get d n).2]) ∧ Below W1.heap.size W1 w') := (vwith_w (hv.below hl1 (Nat.le_refl _)) hl n).mono fun e w' h => by
    obtain ⟨pv, h1, h2, -⟩ := h
    exact ⟨pv, h1, h2⟩
  obtain ⟨x, ec, hxe⟩ : ∃ x ec, Nd.get d n = (x, ec) := ⟨_, _, rfl⟩
  rw [hxe] at HXN HC ⊢
  clear hW1 hl1 hk1 hv hxe
  go_enter Try.func19, Try.ntmps19
  go_upto_region 1 with fail
  rw [← HW1.out]
  go_wp2_with (first
    | (go_at_call 40; (with_reducible refine HC.out.mono ?_); rintro e w2 ⟨pv, rfl, hb2⟩; have hk2 := HK1.out.below hb2 HK1.out.lt)
    | (refine wpList_store_part rfl 42 _ _ rfl w2.heap.size 0 14 (ic x) rfl rfl 42 [.int .i64 0, .int .i64 0, .int .i64 0, .int .i64 0, .int .i64 0, .int .i64 0, .int .i64 0, .int .i64 0, .int .i64 0, .int .i64 0, .int .i64 0, .int .i64 0, .int .i64 0, .int .i64 0] (Bk.new w2 _ [.int .i64 0, .int .i64 0, .int .i64 0, .int .i64 0, .int .i64 0, .int .i64 0, .int .i64 0, .int .i64 0, .int .i64 0, .int .i64 0, .int .i64 0, .int .i64 0, .int .i64 0, .int .i64 0]) (ic_len HXN.out) (by simp) Try.sizeII (ic_one _) ?_; intro w3 hk3 hg3; rw [splice_all _ _ (by rw [ic_len HXN.out]; rfl)] at hk3; have hl3 : Below w2.heap.size w2 w3 := (low_alloc w2 _).trans (below_of_grown hg3 (Nat.le_refl _) (low_alloc w2 (.cells #[.int .i64 0, .int .i64 0, .int .i64 0, .int .i64 0, .int .i64 0, .int .i64 0, .int .i64 0, .int .i64 0, .int .i64 0, .int .i64 0, .int .i64 0, .int .i64 0, .int .i64 0, .int .i64 0] 42 (0, 0))).size); have hk4 := hk2.below hl3 hk2.lt)
    | (refine wpList_load_ino rfl 42 _ rfl w2.heap.size rfl 42 x HXN.out hk3 _ Try.underlying42 rfl Try.sizeII ?_; unfold iv)
    | (refine wpList_store_part rfl 42 _ _ rfl w.heap.size 0 14 (ic x) rfl rfl 42 [.int .i64 0, .int .i64 0, .int .i64 0, .int .i64 0, .int .i64 0, .int .i64 0, .int .i64 0, .int .i64 0, .int .i64 0, .int .i64 0, .int .i64 0, .int .i64 0, .int .i64 0, .int .i64 0] hk4 (ic_len HXN.out) (by simp) Try.sizeII (ic_one _) ?_; intro w5 hk5 hg5))
  rw [splice_all _ _ (by rw [ic_len HXN.out]; rfl)] at hk5
  (try simp only [Exit.inBlock, Exit.then])
  have hl4 : Below w.heap.size w w3 := (stepAny HL1.out hb2).trans (hl3.mono (stepAny HL1.out hb2).size)
  exact bodyPost_ret (results_ino_tmp rfl _ _ x HXN.out w.heap.size rfl _ hk5 _ Try.underlying42 rfl Try.sizeII) rfl ⟨rfl, hl4.trans (below_of_grown hg5 (Nat.le_refl _) hl4.size)⟩
end Go.Proofs.Ytbklmpekpcneeaa
namespace Go.Proofs.Ytbklmpekpcneeaa
open Go.RowKit
set_option maxRecDepth 100000

/-- A view at a, its disk D in a row of the call's own, its bitmap B, which does not hang on the box x. -/
def Vs (B0 x : Nat) (W : World) (a g cap : Nat) (l : List Nd.Ino) (D B : List UInt8) : Prop :=
  ∃ bv, Vw W a (.slice (some ⟨g, 0, none⟩) 12288 cap) bv l ∧ W.ownsRow B0 5 1 (.slice (some ⟨g, 0, none⟩) 12288 cap) 12288 (D.map eb) ∧ Av (fun b => b = g ∨ b = a ∨ b < B0 ∨ b = x) (fun W => Sl eb W bv B) W ∧ a ≠ g ∧ B0 ≤ a

section
variable {w W W' : World} {B0 x a g cap : Nat} {l l' : List Nd.Ino} {d D B : List UInt8}
theorem Opn.vs {bv : Value} (h : Opn w W a g cap bv d) : Vs w.heap.size W.heap.size W a g cap (Nd.inos d) d (Nd.bits d) := ⟨bv, h.vw, h.own, h.bits.more fun b hb => by rcases hb with h | h | h | h <;> simp_all, h.ne, h.la⟩
theorem Vs.later (h : Vs B0 x W a g cap l D B) (hb : Below W.heap.size W W') : Vs B0 x W' a g cap l D B := by
  obtain ⟨bv, h1, h2, h3, h4, h5⟩ := h
  exact ⟨bv, h1.below hb h1.k.lt, own_below h2 hb, h3.below hb, h4, h5⟩
theorem Vs.at (h : Vs B0 x W a g cap l D B) : a ≠ g ∧ B0 ≤ a ∧ B0 ≤ g ∧ a < W.heap.size ∧ g < W.heap.size ∧ 12288 ≤ cap ∧ cap ≤ maxLen := by
  obtain ⟨bv, h1, h2, h3, h4, h5⟩ := h
  exact ⟨h4, h5, (h2.lt g rfl).1, h1.k.lt, (h2.lt g rfl).2, (own_bk' h2).2.1, (own_bk' h2).2.2.1⟩
theorem Vs.full (h : Vs B0 x W a g cap l D B) : Nd.Full l := by
  obtain ⟨bv, h1, -⟩ := h
  exact h1.f
/-- The box is written. -/
theorem Vs.box (h : Vs B0 x W a g cap l D B) (hg : W.grownBy W' (some x)) (hxa : x ≠ a) (hxg : x ≠ g) : Vs B0 x W' a g cap l D B := by
  obtain ⟨bv, h1, h2, h3, h4, h5⟩ := h
  refine ⟨bv, ⟨h1.k.keep (hg.block a h1.k.lt (by simpa using hxa.symm)), h1.f⟩, own_keep h2 fun j hj => ?_, h3.keep hg.size fun b hb hne => hg.block b hb (by simp; intro e; exact hne (.inr (.inr (.inr e)))), h4, h5⟩
  have e : g = j := by simpa [Value.ownBlock] using hj
  subst e
  exact hg.block g (h2.lt g rfl).2 (by simpa using hxg.symm)
/-- The view itself is written: its inodes. -/
theorem Vs.ino {bv : Value} (h : Vs B0 x W a g cap l D B) (h0 : Vw W a (.slice (some ⟨g, 0, none⟩) 12288 cap) bv l) (hv : Vw W' a (.slice (some ⟨g, 0, none⟩) 12288 cap) bv l') (hg : W.grownBy W' (some a)) : Vs B0 x W' a g cap l' D B := by
  obtain ⟨bv2, h1, h2, h3, h4, h5⟩ := h
  have e : bv2 = bv := by
    have e1 := h1.bits.1
    have e2 := h0.bits.1
    rw [e1] at e2
    exact Option.some.inj e2
  subst e
  refine ⟨bv2, hv, own_keep h2 fun j hj => ?_, h3.keep hg.size fun b hb hne => hg.block b hb (by simp; intro e; exact hne (.inr (.inl e))), h4, h5⟩
  have e : g = j := by simpa [Value.ownBlock] using hj
  subst e
  exact hg.block g (h2.lt g rfl).2 (by simpa using h4.symm)
/-- The disk is written. -/
theorem Vs.row {D' : List UInt8} (h : Vs B0 x W a g cap l D B) (ho : W'.ownsRow B0 5 1 (.slice (some ⟨g, 0, none⟩) 12288 cap) 12288 (D'.map eb)) (hg : W.grownBy W' (some g)) : Vs B0 x W' a g cap l D' B := by
  obtain ⟨bv, h1, h2, h3, h4, h5⟩ := h
  exact ⟨bv, ⟨h1.k.keep (hg.block a h1.k.lt (by simpa using h4)), h1.f⟩, ho, h3.keep hg.size fun b hb hne => hg.block b hb (by simp; intro e; exact hne (.inl e)), h4, h5⟩
theorem Vs.own (h : Vs B0 x W a g cap l D B) : W.ownsRow B0 5 1 (.slice (some ⟨g, 0, none⟩) 12288 cap) 12288 (D.map eb) := by
  obtain ⟨bv, h1, h2, h3, h4, h5⟩ := h
  exact h2
theorem Vs.vw (h : Vs B0 x W a g cap l D B) : ∃ bv, Vw W a (.slice (some ⟨g, 0, none⟩) 12288 cap) bv l := by
  obtain ⟨bv, h1, h2, h3, h4, h5⟩ := h
  exact ⟨bv, h1⟩
theorem Vs.drew (h : Vs B0 x W a g cap l D B) : Vs B0 x W.drew a g cap l D B := h.later (low_drew W)
theorem Vs.block (h : Vs B0 x W a g cap l D B) (k : Nat) (hk : k < 96) : Calls Try.prog 43 #[.pointer (some ⟨a, 0, none⟩), .int .i64 (k : Int)] W fun e w' => e = .returned (.slice (some ⟨g, k * 128, none⟩) 128 (cap - k * 128)) ∧ W = w' := by
  obtain ⟨bv, h1, h2, h3, h4, h5⟩ := h
  have h := vblock_w g a 0 cap k hk (own_bk' h2).2.1 (own_bk' h2).2.2.1 h1.disk
  rw [Nat.zero_add] at h
  exact h
theorem Vs.take (h : Vs B0 x W a g cap l D B) (hx : x < W.heap.size) (hB : B.length = 12) (n : Nat) (hn : n ≤ 1000) : Calls Try.prog 62 #[.pointer (some ⟨a, 0, none⟩), .int .i64 (n : Int)] W fun e w' =>
    ((Nd.takeN B n).2.2 ≠ 0 ∧ e = .returned (.tuple #[.slice none 0 0, .bool false]) ∧ Below W.heap.size W w') ∨
    ((Nd.takeN B n).2.2 = 0 ∧ ∃ v1, e = .returned (.tuple #[v1, .bool true]) ∧ Av (fun b => b < W.heap.size) (fun W => Sl ei W v1 (Nd.takeN B n).1) w' ∧ Vs B0 x w' a g cap l D (Nd.takeN B n).2.1 ∧ But a W w') := by
  obtain ⟨bv, h1, h2, h3, h4, h5⟩ := h
  have hg := h2.lt g rfl
  refine (vtake_w (X := fun b => b = g ∨ b = a ∨ b < B0 ∨ b = x) (fun b hb => by have := h1.k.lt; rcases hb with rfl | rfl | hb | rfl <;> omega) h1 h3 hB n hn).mono fun e w' h => ?_
  rcases h with h | ⟨e1, v1, bv', e2, s1, v2, a2, b2⟩
  · exact .inl h
  · refine .inr ⟨e1, v1, e2, s1, ⟨bv', v2, own_keep h2 fun j hj => ?_, a2, h4, h5⟩, b2⟩
    have e : g = j := by simpa [Value.ownBlock] using hj
    subst e
    exact b2.rest g hg.2 h4.symm
theorem Vs.drop (h : Vs B0 x W a g cap l D B) (hx : x < W.heap.size) (hB : B.length = 12) (n : Nat) (hn : n < 96) : Calls Try.prog 42 #[.pointer (some ⟨a, 0, none⟩), .int .i64 (n : Int)] W fun e w' =>
    e = .returned (.tuple #[]) ∧ Vs B0 x w' a g cap l D (Nd.dropB B n) ∧ But a W w' := by
  obtain ⟨bv, h1, h2, h3, h4, h5⟩ := h
  have hg := h2.lt g rfl
  refine (vdrop_w (X := fun b => b = g ∨ b = a ∨ b < B0 ∨ b = x) (fun b hb => by have := h1.k.lt; rcases hb with rfl | rfl | hb | rfl <;> omega) h1 h3 hB n hn).mono fun e w' h => ?_
  obtain ⟨e1, bv', v2, a2, b2⟩ := h
  refine ⟨e1, ⟨bv', v2, own_keep h2 fun j hj => ?_, a2, h4, h5⟩, b2⟩
  have e : g = j := by simpa [Value.ownBlock] using hj
  subst e
  exact b2.rest g hg.2 h4.symm
theorem Vs.done (h : Vs B0 x W a g cap l D B) (hD : D.length = 12288) (hB : B.length = 12) : Calls Try.prog 44 #[.pointer (some ⟨a, 0, none⟩)] W fun e w' => e = .returned (.slice (some ⟨g, 0, none⟩) 12288 cap) ∧ w'.ownsRow B0 5 1 (.slice (some ⟨g, 0, none⟩) 12288 cap) 12288 ((Nd.putB (Nd.doneTo D l 32) B).map eb) ∧ But g W w' := by
  obtain ⟨bv, h1, h2, h3, h4, h5⟩ := h
  exact vdone_w h1 h2 hD h4 (h3.less fun b _ hy => .inl hy) hB
end

/-- A list that hangs on no block of X lies in none of them. -/
theorem av_apart {w : World} {X : Nat → Prop} {b off n c : Nat} {xs : List Nat} (h : Av X (fun W => Sl ei W (.slice (some ⟨b, off, none⟩) n c) xs) w) (h0 : 0 < xs.length) {k : Nat} (hX : X k) (hk : k < w.heap.size) : b ≠ k := fun e => by
  subst e
  have h2 := h { w with heap := w.heap.setIfInBounds b (.cells #[] 0 (0, 0)) } fun j hj hx => by
    have hne : b ≠ j := fun e => hx (e ▸ hX)
    simp [Array.getElem?_setIfInBounds, hne]
  obtain ⟨a2, c2, e, -, -, -, hr⟩ := h2
  injection e with e1 e2 e3
  subst e1
  have hc := (hr.at 0 h0).2
  rw [cell_of_row _ b (off + 0) #[] 0 (0, 0) (by simp [hk])] at hc
  simp at hc

theorem vwith_bad {v : Value} {d : List UInt8} {w : World} (hv : Sl eb w v d) (hl : d.length ≤ 100000) (n : Int) (_he : (Nd.get d n).2 ≠ 0) : Calls Try.prog 40 #[v, .int .i64 n] w fun e w' =>
    ∃ pv, e = .returned (.tuple #[pv, .agg (ic (Nd.get d n).1).toArray, .int .i64 (Nd.get d n).2]) ∧ Below w.heap.size w w' := (vwith_w hv hl n).mono fun _ _ h => by
  obtain ⟨pv, h1, h2, -⟩ := h
  exact ⟨pv, h1, h2⟩
theorem vwith_ok {v : Value} {d : List UInt8} {w : World} (hv : Sl eb w v d) (hl : d.length ≤ 100000) (m : Nat) (he : (Nd.get d (m : Int)).2 = 0) (hx : (Nd.get d (m : Int)).1 = Nd.raw d m) : Calls Try.prog 40 #[v, .int .i64 (m : Int)] w fun e w' =>
    ∃ a g cap, e = .returned (.tuple #[.pointer (some ⟨a, 0, none⟩), .agg (ic (Nd.raw d m)).toArray, .int .i64 0]) ∧ Vs w.heap.size w'.heap.size w' a g cap (Nd.inos d) d (Nd.bits d) ∧ Below w.heap.size w w' := (vwith_w hv hl (m : Int)).mono fun _ _ h => by
  obtain ⟨pv, h1, h2, h3⟩ := h
  obtain ⟨a, g, cap, bv, rfl, h4⟩ := h3 he
  rw [he, hx] at h1
  exact ⟨a, g, cap, h1, h4.vs, h2⟩
end Go.Proofs.Ytbklmpekpcneeaa
namespace Nd
theorem usage_chk {d : List UInt8} (h : check d ≠ 0) : usage d = (0, 0, check d) := if_pos h
theorem usage_yes {d : List UInt8} (h : check d = 0) : usage d = (((cntTo d 32 : Nat) : Int), ((Ex.countTo (bits d) 96 : Nat) : Int) - 18, 0) := by
  unfold usage
  rw [if_neg (by simp [h]), cntTo_all]
theorem inos_getD (d : List UInt8) {k : Nat} (hk : k < 32) : (inos d).getD k free = raw d k := by rw [List.getD_eq_getElem?_getD, raw_get d hk]; rfl
theorem countTo_le (xs : List UInt8) : ∀ k, Ex.countTo xs k ≤ k
  | 0 => Nat.le_refl 0
  | k + 1 => by
    have h := countTo_le xs k
    rw [Ex.countTo_step]
    split <;> omega
end Nd
namespace Go.Proofs.Ytbklmpekpcneeaa
open Go.RowKit
set_option maxRecDepth 100000

set_option maxHeartbeats 8000000 in
theorem vusage_w {v : Value} {d : List UInt8} {w : World} (hv : Sl eb w v d) (hl : d.length ≤ 100000) : Calls Try.prog 16 #[v] w fun e w' =>
    e = .returned (.tuple #[.int .i64 (Nd.usage d).1, .int .i64 (Nd.usage d).2.1, .int .i64 (Nd.usage d).2.2]) ∧ Below w.heap.size w w' := by
  have HC := Lib.hid (vopen_w hv hl)
  by_cases hc : Nd.check d = 0
  rotate_left
  · have HR := Lib.hid (Nd.usage_chk hc)
    have HC2 : Hid (Calls Try.prog 45 #[v] w fun e w' => e = .returned (.tuple #[.pointer none, .int .i64 (Nd.check d)]) ∧ Below w.heap.size w w') := HC.out.mono fun e w' h => by
      rcases h with ⟨-, h1, h2⟩ | ⟨h, -⟩
      · exact ⟨h1, h2⟩
      · exact absurd h hc
    have f1 : (Nd.check d != 0) = true := by rw [bne_iff_ne]; exact hc
    generalize Nd.check d = ec at *
    clear hc HC hv
    go_enter Try.func16, Try.ntmps16
    go_wp2_with (go_at_call 45; (with_reducible refine HC2.out.mono ?_); rintro e w2 ⟨rfl, hb2⟩)
    go_ret3
    rw [HR.out]
    exact ⟨rfl, hb2⟩
  have HC2 : Hid (Calls Try.prog 45 #[v] w fun e w' => ∃ a g cap bv, e = .returned (.tuple #[.pointer (some ⟨a, 0, none⟩), .int .i64 0]) ∧ Opn w w' a g cap bv d) := HC.out.mono fun e w' h => by
    rcases h with ⟨h, -⟩ | ⟨-, h⟩
    · exact absurd hc h
    · exact h
  have HR := Lib.hid (Nd.usage_yes hc)
  have hd : d.length = 12288 := (Nd.check_ok.1 hc).1
  have HBL : Hid ((Nd.bits d).length = 12) := Nd.bits_len hd
  have HCS := Lib.hid (fun k hk => Nd.cntTo_step d (k := k) hk)
  have HC0 : Hid (Nd.cntTo d 0 = 0) := rfl
  have HGD := Lib.hid (fun k hk => Nd.inos_getD d (k := k) hk)
  have HEN := Lib.hid (fun k => (Nd.raw_enc d k).n)
  have HFI := Lib.hid (Nd.Full.inos d)
  have HCL := Lib.hid (Nd.countTo_le (Nd.bits d) 96)
  have HS448 : Hid ((Try.prog.info? 83).map (·.size) = some 448) := by show _ = _; kernel_rfl
  have HFM : Hid (∀ dv bv, ((vc dv (Nd.inos d) bv).drop 1).take 448 = (Nd.inos d).flatMap ic) := fun dv bv => by
    unfold vc
    rw [List.drop_succ_cons, List.drop_zero, List.take_append_of_le_length (by rw [fm_len _ HFI.out.2, HFI.out.1]; decide), List.take_of_length_le (by rw [fm_len _ HFI.out.2, HFI.out.1]; decide)]
  clear hv hl hc hd HC
  go_enter Try.func16, Try.ntmps16
  go_upto_region 5 with (first
    | (go_at_call 45; (with_reducible refine HC2.out.mono ?_); rintro e w2 ⟨a, g, cap, bv, rfl, HO2⟩)
    | (refine wpList_load_part rfl 83 _ rfl a 1 448 rfl 85 _ HO2.vw.k (by rw [vc_len HO2.vw.f]; decide) _ Try.underlying83 rfl HS448.out ?_; rw [HFM.out]))
  have HO := Lib.hid HO2
  clear HO2
  go_wp2_with fail
  go_loopw [2, 7, 20] (fun nv _ i wr => ∃ k : Nat, i = .int .i64 k ∧ k ≤ 32 ∧ (∃ q : Nat, nv = .int .i64 q ∧ q ≤ k ∧ Hid (q = Nd.cntTo d k)) ∧ Below w2.heap.size w2 wr) (fun _ _ i _ => 32 - (intOf i).toNat)
  case atStart => exact ⟨0, rfl, by omega, ⟨0, rfl, Nat.le_refl _, HC0.out.symm⟩, Below.refl _ _⟩
  case round =>
    obtain ⟨k, rfl, hk, ⟨q, rfl, hqk, HQ⟩, hbt⟩ := hrel
    by_cases hlt : k < 32
    · have hix := run_index_inos (Nd.inos d) HFI.out k hlt
      rw [HGD.out k hlt] at hix
      have hst := HCS.out k hlt
      have hxl := HEN.out k
      generalize Nd.raw d k = y at *
      have HYL := Lib.hid hxl
      have HIX := Lib.hid hix
      have HST := Lib.hid hst
      have HBT := Lib.hid hbt
      have f5 : (0 : Int) ≤ (k : Int) := by omega
      have f6 : (k : Int) < 32 := by omega
      unfold iv at HIX
      clear hix hxl hbt hst
      go_upto_region 7 with (first
        | (refine wpList_index_by rfl 83 _ _ rfl _ _ (.agg (ic y).toArray) rfl rfl HIX.out ?_)
        | (refine wpList_store_part rfl 42 _ _ rfl wr.heap.size 0 14 (ic y) rfl rfl 42 [.int .i64 0, .int .i64 0, .int .i64 0, .int .i64 0, .int .i64 0, .int .i64 0, .int .i64 0, .int .i64 0, .int .i64 0, .int .i64 0, .int .i64 0, .int .i64 0, .int .i64 0, .int .i64 0] (Bk.new wr _ [.int .i64 0, .int .i64 0, .int .i64 0, .int .i64 0, .int .i64 0, .int .i64 0, .int .i64 0, .int .i64 0, .int .i64 0, .int .i64 0, .int .i64 0, .int .i64 0, .int .i64 0, .int .i64 0]) (ic_len HYL.out) (by simp) Try.sizeII (ic_one _) ?_; intro w3 hk3 hg3))
      rw [splice_all _ _ (by rw [ic_len HYL.out]; rfl)] at hk3
      have hl3 : Below wr.heap.size wr w3 := (low_alloc wr (.cells #[.int .i64 0, .int .i64 0, .int .i64 0, .int .i64 0, .int .i64 0, .int .i64 0, .int .i64 0, .int .i64 0, .int .i64 0, .int .i64 0, .int .i64 0, .int .i64 0, .int .i64 0, .int .i64 0] 42 (0, 0))).trans (below_of_grown hg3 (Nat.le_refl _) (low_alloc wr (.cells #[.int .i64 0, .int .i64 0, .int .i64 0, .int .i64 0, .int .i64 0, .int .i64 0, .int .i64 0, .int .i64 0, .int .i64 0, .int .i64 0, .int .i64 0, .int .i64 0, .int .i64 0, .int .i64 0] 42 (0, 0))).size)
      have z0 : w3.cell? ⟨wr.heap.size, 0, none⟩ = some (.int .i64 (y.kind : Int)) := hk3.cell 0
      have HL3 := Lib.hid (stepAny HBT.out hl3)
      clear hk3 hg3 hl3
      by_cases hy : y.kind = 0
      · have HN : Hid (q = Nd.cntTo d (k + 1)) := by
          show _ = _
          rw [HST.out, if_pos hy]; exact HQ.out
        have f7 : ((y.kind : Int) != 0) = false := by rw [hy]; rfl
        clear hy
        go_wp2_with fail
        go_roundw
        case rel => exact ⟨k + 1, by go_num, by omega, ⟨q, rfl, by omega, HN⟩, HL3.out⟩
        case measure => simp [intOf]; omega
      · have HN : Hid (q + 1 = Nd.cntTo d (k + 1)) := by
          show _ = _
          rw [HST.out, if_neg hy]; exact congrArg (· + 1) HQ.out
        have f7 : ((y.kind : Int) != 0) = true := by rw [bne_iff_ne]; omega
        clear hy
        go_wp2_with fail
        go_roundw
        case rel => exact ⟨k + 1, by go_num, by omega, ⟨q + 1, by go_num, by omega, HN⟩, HL3.out⟩
        case measure => simp [intOf]; omega
    · have hk32 : k = 32 := by omega
      have f5 : ¬ (k : Int) < 32 := by omega
      rw [hk32] at HQ
      have HOR := Lib.hid (HO.out.later hbt)
      obtain ⟨z9, -⟩ := HOR.out.vw.bits
      have hsl : Sl eb wr bv (Nd.bits d) := HOR.out.bits.here
      have HCN : Hid (Calls Try.prog 46 #[bv] wr fun e w' => e = .returned (.int .i64 ((Ex.countTo (Nd.bits d) 96 : Nat) : Int)) ∧ wr = w') := by
        have h := ecount_w hsl (by rw [HBL.out]; decide)
        rw [HBL.out] at h
        exact h
      have hcl := HCL.out
      generalize Ex.countTo (Nd.bits d) 96 = cc at *
      have e1 : IntKind.i64.wrap ((cc : Int) - 18) = (cc : Int) - 18 := IntWalk.i64_in _ (by omega)
      clear hbt hsl hk32 hlt
      go_wp2_with (go_at_call 46; (with_reducible refine HCN.out.mono ?_); rintro e w' ⟨rfl, rfl⟩)
      go_ret3
      rw [HR.out, ← HQ.out]
      exact ⟨rfl, HOR.out.low⟩
end Go.Proofs.Ytbklmpekpcneeaa
namespace Nd
def newI (k : Nat) : Ino := ⟨k, 0, List.replicate 12 0⟩
def dirI (i : Nat) : Ino := ⟨2, 128, (List.replicate 12 0).set 0 i⟩
theorem alloc_file_end {d : List UInt8} (hd : d.length = 12288) (hF : Formed d) {n : Nat} (hn : n < 32) (hf : ∀ m, m < n → (raw d m).kind ≠ 0) (h0 : (raw d n).kind = 0) : alloc d 1 = ((n : Int), putB (doneTo d ((inos d).set n (newI 1)) 32) (bits d), 0) := by
  rw [done_upd hd hF (bits_len hd) hn rfl (fun _ _ => rfl), alloc_file (check_some hd hF) hn hf h0]
  unfold upd
  rw [putB_bits hd]
  rfl
theorem alloc_dir_end {d : List UInt8} (hd : d.length = 12288) (hF : Formed d) {n i : Nat} (hn : n < 32) (hf : ∀ m, m < n → (raw d m).kind ≠ 0) (h0 : (raw d n).kind = 0) (h1 : 18 ≤ i) (h2 : i < 96) (ht : takeN (bits d) 1 = ([i], Ex.putB (bits d) i true, 0)) :
    alloc d 2 = ((n : Int), putB (doneTo (zeroB d i) ((inos d).set n (dirI i)) 32) (Ex.putB (bits d) i true), 0) := by
  have hb : (Ex.putB (bits d) i true).length = 12 := by rw [Ex.length_putB, bits_len hd]
  rw [done_upd (zeroB_len hd h2) hF hb hn (by simp [dirI]) (fun j hj => by rw [zeroB_g hd h2, if_neg (by omega)]), alloc_dir hd (check_some hd hF) hn hf h0 h1 h2 ht, zero_put hd hb h1 h2]
  rfl
theorem zeroB_as (d : List UInt8) (i : Nat) : Jr.put d (i * 128) (List.replicate 128 0) = zeroB d i := rfl
end Nd
namespace Go.Proofs.Ytbklmpekpcneeaa
open Go.RowKit
set_option maxRecDepth 100000

section
variable {P : Program} {w : World} {ops : Array Oper} {rest : List Oper} {o : Oper} {a : Act} {Q : Exit → Act → World → Prop}
/-- clear of a part of a row of bytes of the call's own. -/
theorem wpList_clear_own8 (hgd : o.guard = none) (x : Operand) (t : TypeId) (ho : o.op = .call { callee := .builtin .clear, args := #[x], argTypes := #[t] }) (e : TypeId) (ht : P.underlying t = some (.slice e)) (hv : ∀ w, (zeroValue e).run P w = .ok (.int .u8 0) w)
    (base g n cap : Nat) (xs : List UInt8) (hown : w.ownsRow base e 1 (.slice (some ⟨g, 0, none⟩) n cap) n (xs.map eb)) (off m dCap : Nat) (hx : a.eval x = .slice (some ⟨g, off, none⟩) m dCap) (hfit : off + m ≤ n)
    (h : ∀ w', w'.ownsRow base e 1 (.slice (some ⟨g, 0, none⟩) n cap) n ((Jr.put xs off (List.replicate m 0)).map eb) → w.grownBy w' (some g) → wpList P ops Q rest (a.put o.dst (.tuple #[])) w') : wpList P ops Q (o :: rest) a w := by
  obtain ⟨hbg, hnc, hcm, cur, hbk, hcl, hct⟩ := own_bk' hown
  refine wpList_clear_bk hgd x t ho e (.int .u8 0) ht hv rfl rfl (some ⟨g, off, none⟩) g off m dCap hx (fun _ => rfl) cur e hbk (by omega) ?_
  intro w' hb' hg'
  refine h w' ?_ hg'
  have hl2 : (splice cur off (List.replicate m (Value.int .u8 0))).length = cap := by
    unfold splice
    rw [List.length_append, List.length_append, List.length_take, List.length_drop, List.length_replicate]
    omega
  have hz := bk_own (n := n) hbg hnc hcm hb' hl2
  have e1 : List.replicate m (Value.int .u8 0) = (List.replicate m (0 : UInt8)).map eb := by rw [List.map_replicate]; rfl
  rw [e1, splice_take _ _ _ _ (by rw [List.length_map, List.length_replicate]; omega) (by omega), hct, splice_put] at hz
  exact hz
end
theorem Try.zero8 (w : World) : (zeroValue 5).run Try.prog w = .ok (.int .u8 0) w := by kernel_rfl

theorem valloc1_w (y : Nd.Ino) (W : World) : Calls Try.prog 68 #[.agg (ic y).toArray] W fun e w' => e = .returned (.bool (decide (y.kind = 0))) ∧ Below W.heap.size W w' := by
  have hl1 : Below W.heap.size W (W.alloc (.cells (ic y).toArray 42 (0, 0))) := low_alloc _ _
  have hk1 : Bk (W.alloc (.cells (ic y).toArray 42 (0, 0))) W.heap.size 42 (ic y) := Bk.new W _ _
  have z0 : (W.alloc (.cells (ic y).toArray 42 (0, 0))).cell? ⟨W.heap.size, 0, none⟩ = some (.int .i64 (y.kind : Int)) := hk1.cell 0
  have HL := Lib.hid hl1
  clear hl1 hk1
  by_cases hy : y.kind = 0
  · have f1 : ((y.kind : Int) == 0) = true := by rw [hy]; rfl
    have HR : Hid (decide (y.kind = 0) = true) := decide_eq_true hy
    clear hy
    go_enter Try.func68, Try.ntmps68
    go_wp2_with fail
    go_ret
    exact ⟨ret_bool HR.out.symm, HL.out⟩
  · have f1 : ((y.kind : Int) == 0) = false := by rw [beq_eq_false_iff_ne]; omega
    have HR : Hid (decide (y.kind = 0) = false) := decide_eq_false hy
    clear hy
    go_enter Try.func68, Try.ntmps68
    go_wp2_with fail
    go_ret
    exact ⟨ret_bool HR.out.symm, HL.out⟩

set_option maxHeartbeats 4000000 in
theorem vfirst_w {w : World} {a : Nat} {dv bv : Value} {l : List Nd.Ino} (h : Vw w a dv bv l) : Calls Try.prog 67 #[.slice (some ⟨a, 1, none⟩) 32 32, .func (.func 68) #[] #[]] w fun e w' => Below w.heap.size w w' ∧
    ((∃ n : Nat, e = .returned (.int .i64 (n : Int)) ∧ n < 32 ∧ (l.getD n Nd.free).kind = 0 ∧ ∀ m, m < n → (l.getD m Nd.free).kind ≠ 0) ∨ (e = .returned (.int .i64 (-1)) ∧ ∀ m, m < 32 → (l.getD m Nd.free).kind ≠ 0)) := by
  have HV := Lib.hid h
  have HC := Lib.hid valloc1_w
  have eg := enters_of Try.func68 (by kernel_rfl) rfl
  clear h
  go_enter Try.func67, Try.ntmps67
  go_wp2_with fail
  go_loopw [5, 8] (fun _ i wr => ∃ k : Nat, k ≤ 32 ∧ i = .int .i64 k ∧ Hid (∀ m, m < k → (l.getD m Nd.free).kind ≠ 0) ∧ Below w.heap.size w wr) (fun _ i _ => 32 - (intOf i).toNat)
  case atStart => exact ⟨0, by omega, rfl, fun j hj => absurd hj (Nat.not_lt_zero _), Below.refl _ _⟩
  case round =>
    obtain ⟨k, hk, rfl, HN, hb⟩ := hrel
    have HB := Lib.hid hb
    by_cases hlt : k < 32
    · have hv := HV.out.below hb HV.out.k.lt
      have hyl := hv.f.2
      have HYY : Hid (l.getD k Nd.free = l.getD k Nd.free) := rfl
      have HST : Hid ((l.getD k Nd.free).kind ≠ 0 → ∀ m, m < k + 1 → (l.getD m Nd.free).kind ≠ 0) := fun h m hm => by by_cases e : m = k; { subst e; exact h }; exact HN.out m (by omega)
      have HHV := Lib.hid hv
      obtain ⟨y, hy⟩ : ∃ y, l.getD k Nd.free = y := ⟨_, rfl⟩
      have HYE := Lib.hid hy
      rw [hy] at HST
      have f5 : (0 : Int) ≤ (k : Int) := by omega
      have f6 : (k : Int) < 32 := by omega
      have HCY := Lib.hid (fun W => valloc1_w y W)
      clear hb hv hyl HYY hy
      by_cases h0 : y.kind = 0
      · have HC2 : Hid (∀ W, Calls Try.prog 68 #[.agg (ic y).toArray] W fun e w' => e = .returned (.bool true) ∧ Below W.heap.size W w') := fun W => (HCY.out W).mono fun e w' h => by rw [decide_eq_true h0] at h; exact h
        have H0 := Lib.hid h0
        clear h0
        go_wp2_with (first
          | (refine wpList_load_vino rfl 42 _ rfl a k _ rfl (by omega) HHV.out hlt y HYE.out _ Try.underlying42 rfl Try.sizeII ?_; unfold iv)
          | ((with_reducible refine (HC2.out _).mono ?_); rintro e w1 ⟨rfl, h1⟩))
        go_ret
        exact ⟨stepAny HB.out h1, .inl ⟨k, rfl, hlt, by rw [HYE.out]; exact H0.out, HN.out⟩⟩
      · have HC2 : Hid (∀ W, Calls Try.prog 68 #[.agg (ic y).toArray] W fun e w' => e = .returned (.bool false) ∧ Below W.heap.size W w') := fun W => (HCY.out W).mono fun e w' h => by rw [decide_eq_false h0] at h; exact h
        have HN2 := Lib.hid (HST.out h0)
        clear h0
        go_wp2_with (first
          | (refine wpList_load_vino rfl 42 _ rfl a k _ rfl (by omega) HHV.out hlt y HYE.out _ Try.underlying42 rfl Try.sizeII ?_; unfold iv)
          | ((with_reducible refine (HC2.out _).mono ?_); rintro e w1 ⟨rfl, h1⟩))
        go_roundw
        case rel => exact ⟨k + 1, by omega, by go_num, HN2, stepAny HB.out h1⟩
        case measure => simp [intOf]; omega
    · have f6 : ¬ (k : Int) < 32 := by omega
      have hk32 : k = 32 := by omega
      rw [hk32] at HN
      clear hk32 hb
      go_wp2_with fail
      go_ret
      exact ⟨HB.out, .inr ⟨rfl, HN.out⟩⟩
end Go.Proofs.Ytbklmpekpcneeaa
namespace Go.Proofs.Ytbklmpekpcneeaa
open Go.RowKit
set_option maxRecDepth 100000

set_option maxHeartbeats 16000000 in
theorem valloc_w {v : Value} {d : List UInt8} {w : World} (hv : Sl eb w v d) (hl : d.length ≤ 100000) (kd : Int) : Calls Try.prog 34 #[v, .int .i64 kd] w fun e w' =>
    ∃ v', e = .returned (.tuple #[.int .i64 (Nd.alloc d kd).1, v', .int .i64 (Nd.alloc d kd).2.2]) ∧ Sl eb w' v' (Nd.alloc d kd).2.1 ∧ Below w.heap.size w w' := by
  have HC := Lib.hid (vopen_w hv hl)
  by_cases hc : Nd.check d = 0
  rotate_left
  · have HR := Lib.hid (Nd.alloc_chk (k := kd) hc)
    have HC2 : Hid (Calls Try.prog 45 #[v] w fun e w' => e = .returned (.tuple #[.pointer none, .int .i64 (Nd.check d)]) ∧ Below w.heap.size w w') := HC.out.mono fun e w' h => by
      rcases h with ⟨-, h1, h2⟩ | ⟨h, -⟩
      · exact ⟨h1, h2⟩
      · exact absurd h hc
    have f1 : (Nd.check d != 0) = true := by rw [bne_iff_ne]; exact hc
    generalize Nd.check d = ec at *
    clear hc HC hv
    go_enter Try.func34, Try.ntmps34
    go_wp2_with (go_at_call 45; (with_reducible refine HC2.out.mono ?_); rintro e w2 ⟨rfl, hb2⟩)
    go_ret3
    rw [HR.out]
    exact ⟨_, rfl, Sl.nil _ _, hb2⟩
  have HC2 : Hid (Calls Try.prog 45 #[v] w fun e w' => ∃ a g cap bv, e = .returned (.tuple #[.pointer (some ⟨a, 0, none⟩), .int .i64 0]) ∧ Opn w w' a g cap bv d) := HC.out.mono fun e w' h => by
    rcases h with ⟨h, -⟩ | ⟨-, h⟩
    · exact absurd hc h
    · exact h
  obtain ⟨hd, hF⟩ := Nd.check_ok.1 hc
  clear HC hv
  by_cases hk : kd ≠ 1 ∧ kd ≠ 2
  · have HR := Lib.hid (Nd.alloc_arg (k := kd) hc hk)
    have f2 : (kd != 1) = true := by rw [bne_iff_ne]; exact hk.1
    have f3 : (kd != 2) = true := by rw [bne_iff_ne]; exact hk.2
    clear hk hc hd hF
    go_enter Try.func34, Try.ntmps34
    go_wp2_with (go_at_call 45; (with_reducible refine HC2.out.mono ?_); rintro e w2 ⟨a, g, cap, bv, rfl, HO2⟩)
    go_ret3
    rw [HR.out]
    exact ⟨_, rfl, Sl.nil _ _, HO2.low⟩
  have HGD := Lib.hid (fun m hm => Nd.inos_getD d (k := m) hm)
  have HFL := Lib.hid (fun hf => Nd.alloc_full (d := d) (k := kd) hc (by omega) hf)
  have HD := Lib.hid hd
  have HBT : Hid ((Nd.bits d).length = 12) := Nd.bits_len hd
  have HFE := Lib.hid (fun n hn hf h0 => Nd.alloc_file_end hd hF (n := n) hn hf h0)
  have HDE := Lib.hid (fun n i hn hf h0 h1 h2 ht => Nd.alloc_dir_end hd hF (n := n) (i := i) hn hf h0 h1 h2 ht)
  have HNE := Lib.hid (fun n hn hf h0 ht => Nd.alloc_none (d := d) (n := n) hc hn hf h0 ht)
  have HZL := Lib.hid (fun k hk => Nd.zeroB_len hd (k := k) hk)
  have HTO := Lib.hid (Nd.take_one (b := Nd.bits d))
  have HGT : Hid (∀ (g' : Nat → Prop) (_ : ∀ m, m < 32 → g' m), True) := fun _ _ => trivial
  have HRES : Hid (∀ n, n < 32 → ((Nd.inos d).getD n Nd.free).kind = (Nd.raw d n).kind) := fun n hn => by rw [HGD.out n hn]
  rcases (by omega : kd = 1 ∨ kd = 2) with e | e
  · have f4 : kd = 1 := e
    clear hk hc hd hF e HDE HNE HTO HZL HGT
    subst f4
    go_enter Try.func34, Try.ntmps34
    go_upto_region 7 with (first
      | (go_at_call 45; (with_reducible refine HC2.out.mono ?_); rintro e w2 ⟨a, g, cap, bv, rfl, HO2⟩; have hfi := vfirst_w HO2.vw)
      | (go_at_call 67; (with_reducible refine hfi.mono ?_); rintro e w3 ⟨hb3, ⟨n, rfl, hn, h0, hf⟩ | ⟨rfl, hf⟩⟩))
    · have h0r : (Nd.raw d n).kind = 0 := by rw [← HRES.out n hn]; exact h0
      have hfr : ∀ m, m < n → (Nd.raw d m).kind ≠ 0 := fun m hm => by rw [← HRES.out m (by omega)]; exact hf m hm
      have HEND := Lib.hid (HFE.out n hn hfr h0r)
      have hvs3 := (HO2.later hb3).vs
      have hl3 := stepAny HO2.low hb3
      have f5 : ¬ (n : Int) < 0 := by omega
      have f6 : (0 : Int) ≤ (n : Int) := by omega
      have f7 : (n : Int) < 32 := by omega
      clear h0 hf h0r hfr hfi HFL HFE HO2 hb3 HRES HGD
      go_upto_region 16 with (refine wpList_store_part rfl 42 _ _ rfl w3.heap.size 0 14 (ic (Nd.newI 1)) rfl rfl 42 [.int .i64 0, .int .i64 0, .int .i64 0, .int .i64 0, .int .i64 0, .int .i64 0, .int .i64 0, .int .i64 0, .int .i64 0, .int .i64 0, .int .i64 0, .int .i64 0, .int .i64 0, .int .i64 0] (Bk.new w3 _ [.int .i64 0, .int .i64 0, .int .i64 0, .int .i64 0, .int .i64 0, .int .i64 0, .int .i64 0, .int .i64 0, .int .i64 0, .int .i64 0, .int .i64 0, .int .i64 0, .int .i64 0, .int .i64 0]) rfl (by simp) Try.sizeII (ic_one _) ?_; intro w4 hk4 hg4)
      have HXN : Hid ((Nd.newI 1).bl.length = 12) := rfl
      rw [splice_all _ _ (by rw [ic_len HXN.out]; rfl)] at hk4
      have hl34 : Below w3.heap.size w3 w4 := (low_alloc w3 (.cells #[.int .i64 0, .int .i64 0, .int .i64 0, .int .i64 0, .int .i64 0, .int .i64 0, .int .i64 0, .int .i64 0, .int .i64 0, .int .i64 0, .int .i64 0, .int .i64 0, .int .i64 0, .int .i64 0] 42 (0, 0))).trans (below_of_grown hg4 (Nat.le_refl _) (low_alloc w3 (.cells #[.int .i64 0, .int .i64 0, .int .i64 0, .int .i64 0, .int .i64 0, .int .i64 0, .int .i64 0, .int .i64 0, .int .i64 0, .int .i64 0, .int .i64 0, .int .i64 0, .int .i64 0, .int .i64 0] 42 (0, 0))).size)
      have hvs4 := hvs3.later hl34
      have hl4 := stepAny hl3 hl34
      obtain ⟨bx, hbx⟩ : ∃ y, y = w3.heap.size := ⟨_, rfl⟩
      have hbxa : bx ≠ a := by have := hvs3.at; omega
      rw [← hbx] at hk4 hvs4 ⊢
      clear hbx hvs3 hl34 hg4 hl3
      generalize Nd.newI 1 = x at *
      obtain ⟨bv4, hvw4⟩ := hvs4.vw
      have HS4 : Hid (w4.drew.rangeAt bx 0 (ic x)) := (hk4.keep rfl : Bk w4.drew bx 42 (ic x)).range
      have HS5 : Hid (∀ W, w4.drew.grownBy W (some a) → W.rangeAt bx 0 (ic x)) := fun W hW => (hk4.keep (hW.block bx hk4.lt (by simpa using hbxa)) : Bk W bx 42 (ic x)).range
      have HVSD := Lib.hid hvs4.drew
      have HVW : Hid (Vw w4.drew a (.slice (some ⟨g, 0, none⟩) 12288 cap) bv4 (Nd.inos d)) := ⟨hvw4.k.keep rfl, hvw4.f⟩
      have hla4 := hvs4.at.2.1
      have HL9 : Hid (∀ W, w4.drew.grownBy W (some a) → Below w.heap.size w W) := fun W hW => hl4.drew.trans (below_of_grown hW hla4 hl4.size)
      clear hk4 hvs4 hvw4 hl4
      refine wp_region_noPanic ?_
      refine wp_region_held_drew (S := fun w' => w'.rangeAt bx 0 (ic x)) (by kernel_rfl) HS4.out (fun _ => ?_)
      refine wpAnyH_take (i := 2) (oi := ⟨some 56, _, _, _, _, _⟩) (v := .agg (ic x).toArray) rfl (by kernel_rfl) (by kernel_rfl) (by kernel_rfl) (fun _ _ _ h => h) (yieldsIf_load_mid (by rfl) 42 _ rfl bx 0 rfl (ic x) _ (fun _ h => h) Try.underlying42 rfl (by rw [ic_len HXN.out]; exact Try.sizeII)) HS4.out ?req2
      (try simp only [Act.put, List.setIfInBounds_toArray, List.set_cons_zero, List.set_cons_succ])
      refine wpAnyH_take (i := 0) (oi := ⟨some 54, _, _, _, _, _⟩) (v := ?_) rfl (by kernel_rfl) (by kernel_rfl) (by kernel_rfl) (fun _ _ _ h => h) (Or.inl ⟨by rfl, ?hyq0⟩) HS4.out ?req0
      case hyq0 => ((intro w hSw; (try dsimp only at hSw); go_simp); first | done | with_reducible rfl)
      (try simp only [Act.put, List.setIfInBounds_toArray, List.set_cons_zero, List.set_cons_succ])
      refine wpAnyH_take (i := 1) (oi := ⟨some 55, _, _, _, _, _⟩) (v := ?_) rfl (by kernel_rfl) (by kernel_rfl) (by kernel_rfl) (fun _ _ _ h => h) (Or.inl ⟨by rfl, ?hyq1⟩) HS4.out ?req1
      case hyq1 => ((intro w hSw; (try dsimp only at hSw); go_simp); first | done | with_reducible rfl)
      (try simp only [Act.put, List.setIfInBounds_toArray, List.set_cons_zero, List.set_cons_succ])
      refine wpAnyH_take (i := 3) (oi := ⟨some 57, _, _, _, _, _⟩) (v := ?_) rfl (by kernel_rfl) (by kernel_rfl) (by kernel_rfl) (fun _ _ _ h => h) (Or.inl ⟨by rfl, ?hyq3⟩) HS4.out ?req3
      case hyq3 => ((intro w hSw; (try dsimp only at hSw); go_simp); first | done | with_reducible rfl)
      (try simp only [Act.put, List.setIfInBounds_toArray, List.set_cons_zero, List.set_cons_succ])
      refine wpAnyH_take (i := 4) (oi := ⟨some 58, _, _, _, _, _⟩) (v := ?_) rfl (by kernel_rfl) (by kernel_rfl) (by kernel_rfl) (fun _ _ _ h => h) (Or.inl ⟨by rfl, ?hyq4⟩) HS4.out ?req4
      case hyq4 => ((intro w hSw; (try dsimp only at hSw); go_simp); first | done | with_reducible rfl)
      (try simp only [Act.put, List.setIfInBounds_toArray, List.set_cons_zero, List.set_cons_succ])
      refine wpAnyH_take (i := 5) (oi := ⟨some 59, _, _, _, _, _⟩) (v := ?_) rfl (by kernel_rfl) (by kernel_rfl) (by kernel_rfl) (fun _ _ _ h => h) (Or.inl ⟨by rfl, ?hyq5⟩) HS4.out ?req5
      case hyq5 => ((intro w hSw; (try dsimp only at hSw); go_simp); first | done | with_reducible rfl)
      (try simp only [Act.put, List.setIfInBounds_toArray, List.set_cons_zero, List.set_cons_succ])
      refine wpAnyH_ready (rs := [6]) (by kernel_rfl) (by simp) ?_
      refine AllReadyH.cons rfl (fun K hK => ?_) AllReadyH.nil
      refine step_store_vino rfl 42 _ _ rfl a n _ rfl (by omega) x (HXN.out) rfl HVW.out hn Try.sizeII ?_
      intro w9 hv9 hg9
      refine hK.out _ _ (HS5.out _ hg9) (fun _ => ?_)
      clear hK K
      (try simp only [Act.put, List.setIfInBounds_toArray, List.set_cons_zero, List.set_cons_succ])
      refine wpAnyH_done (by kernel_rfl) ?_ _
      refine NoPanic.normal ?_
      have hvs9 := HVSD.out.ino HVW.out hv9 hg9
      have hdn := hvs9.done HD.out HBT.out
      have hat := hvs9.at
      have hl9 := HL9.out w9 hg9
      go_wp2_with (go_at_call 44; (with_reducible refine hdn.mono ?_); rintro e w10 ⟨rfl, ho10, hb10⟩)
      go_ret3
      rw [HEND.out]
      exact ⟨_, rfl, own_sl0 ho10 (by rw [Nd.putB_len (Nd.doneTo_len HD.out hvs9.full.2 32 (Nat.le_refl _)) HBT.out]), hl9.trans (hb10.low.mono hat.2.2.1)⟩
    · have hfr : ∀ m, m < 32 → (Nd.raw d m).kind ≠ 0 := fun m hm => by rw [← HRES.out m hm]; exact hf m hm
      have HR := Lib.hid (HFL.out hfr)
      have hl3 := stepAny HO2.low hb3
      clear hf hfr HFL HFE HRES HGD
      go_wp2_with fail
      go_ret3
      rw [HR.out]
      exact ⟨_, rfl, Sl.nil _ _, hl3⟩
  · have f4 : kd = 2 := e
    clear hk hc hd hF e HFE HGT
    subst f4
    go_enter Try.func34, Try.ntmps34
    go_upto_region 7 with (first
      | (go_at_call 45; (with_reducible refine HC2.out.mono ?_); rintro e w2 ⟨a, g, cap, bv, rfl, HO2⟩; have hfi := vfirst_w HO2.vw)
      | (go_at_call 67; (with_reducible refine hfi.mono ?_); rintro e w3 ⟨hb3, ⟨n, rfl, hn, h0, hf⟩ | ⟨rfl, hf⟩⟩))
    rotate_left
    · have hfr : ∀ m, m < 32 → (Nd.raw d m).kind ≠ 0 := fun m hm => by rw [← HRES.out m hm]; exact hf m hm
      have HR := Lib.hid (HFL.out hfr)
      have hl3 := stepAny HO2.low hb3
      clear hf hfr HFL HDE HNE HRES HGD HTO HZL
      go_wp2_with fail
      go_ret3
      rw [HR.out]
      exact ⟨_, rfl, Sl.nil _ _, hl3⟩
    have h0r : (Nd.raw d n).kind = 0 := by rw [← HRES.out n hn]; exact h0
    have hfr : ∀ m, m < n → (Nd.raw d m).kind ≠ 0 := fun m hm => by rw [← HRES.out m (by omega)]; exact hf m hm
    have HDE2 := Lib.hid (fun i h1 h2 ht => HDE.out n i hn hfr h0r h1 h2 ht)
    have HNE2 := Lib.hid (fun ht => HNE.out n hn hfr h0r ht)
    have hvs3 := (HO2.later hb3).vs
    have hl3 := stepAny HO2.low hb3
    have f5 : ¬ (n : Int) < 0 := by omega
    have f6 : (0 : Int) ≤ (n : Int) := by omega
    have f7 : (n : Int) < 32 := by omega
    clear h0 hf h0r hfr hfi HFL HDE HNE HO2 hb3 HRES HGD
    go_upto_region 11 with (refine wpList_store_part rfl 42 _ _ rfl w3.heap.size 0 14 (ic (Nd.newI 2)) rfl rfl 42 [.int .i64 0, .int .i64 0, .int .i64 0, .int .i64 0, .int .i64 0, .int .i64 0, .int .i64 0, .int .i64 0, .int .i64 0, .int .i64 0, .int .i64 0, .int .i64 0, .int .i64 0, .int .i64 0] (Bk.new w3 _ [.int .i64 0, .int .i64 0, .int .i64 0, .int .i64 0, .int .i64 0, .int .i64 0, .int .i64 0, .int .i64 0, .int .i64 0, .int .i64 0, .int .i64 0, .int .i64 0, .int .i64 0, .int .i64 0]) rfl (by simp) Try.sizeII (ic_one _) ?_; intro w4 hk4 hg4)
    have HXN : Hid ((Nd.newI 2).bl.length = 12) := rfl
    rw [splice_all _ _ (by rw [ic_len HXN.out]; rfl)] at hk4
    have hl34 : Below w3.heap.size w3 w4 := (low_alloc w3 (.cells #[.int .i64 0, .int .i64 0, .int .i64 0, .int .i64 0, .int .i64 0, .int .i64 0, .int .i64 0, .int .i64 0, .int .i64 0, .int .i64 0, .int .i64 0, .int .i64 0, .int .i64 0, .int .i64 0] 42 (0, 0))).trans (below_of_grown hg4 (Nat.le_refl _) (low_alloc w3 (.cells #[.int .i64 0, .int .i64 0, .int .i64 0, .int .i64 0, .int .i64 0, .int .i64 0, .int .i64 0, .int .i64 0, .int .i64 0, .int .i64 0, .int .i64 0, .int .i64 0, .int .i64 0, .int .i64 0] 42 (0, 0))).size)
    have hvs4 := hvs3.later hl34
    have hl4 := stepAny hl3 hl34
    obtain ⟨bx, hbx⟩ : ∃ y, y = w3.heap.size := ⟨_, rfl⟩
    have hbxa : bx ≠ a := by have := hvs3.at; omega
    have hbxg : bx ≠ g := by have := hvs3.at; omega
    have hbxl : w.heap.size ≤ bx := by rw [hbx]; exact hl3.size
    rw [← hbx] at hk4 hvs4 ⊢
    clear hbx hvs3 hl34 hg4 hl3
    have hat4 := hvs4.at
    have htk := hvs4.take hk4.lt HBT.out 1 (by decide)
    rcases HTO.out with ht | ⟨i, hi1, hi2, hi3, ht⟩
    · have HR := Lib.hid (HNE2.out ht)
      rw [ht] at htk
      have HTK : Hid (Calls Try.prog 62 #[.pointer (some ⟨a, 0, none⟩), .int .i64 1] w4 fun e w' => e = .returned (.tuple #[.slice none 0 0, .bool false]) ∧ Below w4.heap.size w4 w') := htk.mono fun e w' h => by
        rcases h with ⟨-, h1, h2⟩ | ⟨h, -⟩
        · exact ⟨h1, h2⟩
        · exact absurd h (by decide)
      have HL4 := Lib.hid hl4
      clear htk ht HNE2 HDE2 HTO HZL hl4
      go_wp2_with (go_at_call 62; (with_reducible refine HTK.out.mono ?_); rintro e w5 ⟨rfl, hb5⟩)
      go_ret3
      rw [HR.out]
      exact ⟨_, rfl, Sl.nil _ _, stepAny HL4.out hb5⟩
    have HEND := Lib.hid (HDE2.out i hi1 hi2 ht)
    rw [ht] at htk
    have HTK : Hid (Calls Try.prog 62 #[.pointer (some ⟨a, 0, none⟩), .int .i64 1] w4 fun e w' => ∃ b2 off2 c2, e = .returned (.tuple #[.slice (some ⟨b2, off2, none⟩) 1 c2, .bool true]) ∧ Av (fun b => b < w4.heap.size) (fun W => Sl ei W (.slice (some ⟨b2, off2, none⟩) 1 c2) [i]) w' ∧ Vs w.heap.size bx w' a g cap (Nd.inos d) d (Ex.putB (Nd.bits d) i true) ∧ But a w4 w') := htk.mono fun e w' h => by
      rcases h with ⟨h, -⟩ | ⟨-, v1, h1, h2, h3, h4⟩
      · exact absurd rfl h
      · obtain ⟨a2, c2, rfl, -, -, -, hr⟩ := id h2.here
        obtain ⟨b2, off2, rfl, -⟩ := hr.form (by simp)
        exact ⟨b2, off2, c2, h1, h2, h3, h4⟩
    have HBT2 : Hid ((Ex.putB (Nd.bits d) i true).length = 12) := by show _ = _; rw [Ex.length_putB]; exact HBT.out
    have HZD := Lib.hid (HZL.out i hi2)
    have HL4 := Lib.hid hl4
    have HK4 := Lib.hid hk4
    have hlt4 := hk4.lt
    clear htk ht HNE2 HDE2 HTO HZL hl4 hvs4 hi3 hk4
    go_upto_region 14 with (go_at_call 62; (with_reducible refine HTK.out.mono ?_); rintro e w5 ⟨b2, off2, c2, rfl, hs5, hv5, hb5⟩)
    have hk5 := HK4.out.keep (hb5.rest bx hlt4 hbxa)
    have hbb := av_apart hs5 (by simp) (k := bx) hlt4 hk5.lt
    have y0 : w5.cell? ⟨b2, off2, none⟩ = some (.int .i64 (i : Int)) := by
      obtain ⟨a3, c3, e3, -, -, -, hr⟩ := hs5.here
      injection e3 with e4 e5 e6
      subst e4
      exact (hr.at 0 (by simp)).2
    have z1 : w5.cell? ⟨bx, 1, none⟩ = some (.int .i64 0) := hk5.cell 1
    have z2 : w5.cell? ⟨bx, 2, none⟩ = some (.int .i64 0) := hk5.cell 2
    have x1 := hk5.frozen 1
    have x2 := hk5.frozen 2
    have hk6 : Bk ((w5.setCell ⟨bx, 1, none⟩ (.int .i64 128)).setCell ⟨bx, 2, none⟩ (.int .i64 (i : Int))).drew bx 42 (ic (Nd.dirI i)) := ((hk5.set 1 (.int .i64 128)).set 2 (.int .i64 (i : Int))).keep rfl
    have hv6 : Vs w.heap.size bx ((w5.setCell ⟨bx, 1, none⟩ (.int .i64 128)).setCell ⟨bx, 2, none⟩ (.int .i64 (i : Int))).drew a g cap (Nd.inos d) d (Ex.putB (Nd.bits d) i true) := ((hv5.box grown_set hbxa hbxg).box grown_set hbxa hbxg).drew
    have y6 : ((w5.setCell ⟨bx, 1, none⟩ (.int .i64 128)).setCell ⟨bx, 2, none⟩ (.int .i64 (i : Int))).drew.cell? ⟨b2, off2, none⟩ = some (.int .i64 (i : Int)) := by
      show ((w5.setCell ⟨bx, 1, none⟩ (.int .i64 128)).setCell ⟨bx, 2, none⟩ (.int .i64 (i : Int))).cell? ⟨b2, off2, none⟩ = _
      rw [cell_far8 grown_set hbb _ (by simpa [World.setCell] using World.block_lt_of_cell? w5 _ y0), cell_far8 grown_set hbb _ (World.block_lt_of_cell? w5 _ y0)]
      exact y0
    have hl6 : Below w.heap.size w ((w5.setCell ⟨bx, 1, none⟩ (.int .i64 128)).setCell ⟨bx, 2, none⟩ (.int .i64 (i : Int))).drew := ((HL4.out.trans (hb5.low.mono hat4.2.1)).setCell hbxl _ |>.setCell hbxl _).drew
    have HK6 := Lib.hid hk6
    have HV6 := Lib.hid hv6
    have HY6 := Lib.hid y6
    have HL6 := Lib.hid hl6
    clear hk6 hv6 y6 hl6 hk5 hs5 hv5 hb5 HK4 HL4 HTK
    go_region
    generalize ((w5.setCell ⟨bx, 1, none⟩ (.int .i64 128)).setCell ⟨bx, 2, none⟩ (.int .i64 (i : Int))).drew = w6 at *
    clear y0 z1 z2 x1 x2
    have y6 := HY6.out
    have HBK := Lib.hid (HV6.out.block i hi2)
    go_upto_region 16 with (first
      | (go_at_call 43; (with_reducible refine HBK.out.mono ?_); rintro e w' ⟨rfl, rfl⟩)
      | (refine wpList_clear_own8 rfl (.tmp 53) 25 rfl 5 Try.underlying25 Try.zero8 w.heap.size g 12288 cap d HV6.out.own (i * 128) 128 (cap - i * 128) rfl (by omega) ?_; intro w7 ho7 hg7))
    rw [Nd.zeroB_as] at ho7
    have hvs4 := HV6.out.row ho7 hg7
    have hk4 := HK6.out.keep (hg7.block bx HK6.out.lt (by simpa using hbxg))
    have hl4 := HL6.out.trans (below_of_grown hg7 hat4.2.2.1 HL6.out.size)
    have HXN : Hid ((Nd.dirI i).bl.length = 12) := by show _ = _; simp [Nd.dirI]
    clear y6 HBK HY6 HK6 HV6 HL6 ho7 hg7
    generalize Nd.dirI i = x at *
    obtain ⟨bv4, hvw7⟩ := hvs4.vw
    have HS4 : Hid (w7.drew.rangeAt bx 0 (ic x)) := (hk4.keep rfl : Bk w7.drew bx 42 (ic x)).range
    have HS5 : Hid (∀ W, w7.drew.grownBy W (some a) → W.rangeAt bx 0 (ic x)) := fun W hW => (hk4.keep (hW.block bx hk4.lt (by simpa using hbxa)) : Bk W bx 42 (ic x)).range
    have HVSD := Lib.hid hvs4.drew
    have HVW : Hid (Vw w7.drew a (.slice (some ⟨g, 0, none⟩) 12288 cap) bv4 (Nd.inos d)) := ⟨hvw7.k.keep rfl, hvw7.f⟩
    have hla4 := hvs4.at.2.1
    have HL9 : Hid (∀ W, w7.drew.grownBy W (some a) → Below w.heap.size w W) := fun W hW => hl4.drew.trans (below_of_grown hW hla4 hl4.size)
    clear hk4 hvs4 hvw7 hl4
    refine wp_region_noPanic ?_
    refine wp_region_held_drew (S := fun w' => w'.rangeAt bx 0 (ic x)) (by kernel_rfl) HS4.out (fun _ => ?_)
    refine wpAnyH_take (i := 2) (oi := ⟨some 56, _, _, _, _, _⟩) (v := .agg (ic x).toArray) rfl (by kernel_rfl) (by kernel_rfl) (by kernel_rfl) (fun _ _ _ h => h) (yieldsIf_load_mid (by rfl) 42 _ rfl bx 0 rfl (ic x) _ (fun _ h => h) Try.underlying42 rfl (by rw [ic_len HXN.out]; exact Try.sizeII)) HS4.out ?rez2
    (try simp only [Act.put, List.setIfInBounds_toArray, List.set_cons_zero, List.set_cons_succ])
    refine wpAnyH_take (i := 0) (oi := ⟨some 54, _, _, _, _, _⟩) (v := ?_) rfl (by kernel_rfl) (by kernel_rfl) (by kernel_rfl) (fun _ _ _ h => h) (Or.inl ⟨by rfl, ?hyz0⟩) HS4.out ?rez0
    case hyz0 => ((intro w hSw; (try dsimp only at hSw); go_simp); first | done | with_reducible rfl)
    (try simp only [Act.put, List.setIfInBounds_toArray, List.set_cons_zero, List.set_cons_succ])
    refine wpAnyH_take (i := 1) (oi := ⟨some 55, _, _, _, _, _⟩) (v := ?_) rfl (by kernel_rfl) (by kernel_rfl) (by kernel_rfl) (fun _ _ _ h => h) (Or.inl ⟨by rfl, ?hyz1⟩) HS4.out ?rez1
    case hyz1 => ((intro w hSw; (try dsimp only at hSw); go_simp); first | done | with_reducible rfl)
    (try simp only [Act.put, List.setIfInBounds_toArray, List.set_cons_zero, List.set_cons_succ])
    refine wpAnyH_take (i := 3) (oi := ⟨some 57, _, _, _, _, _⟩) (v := ?_) rfl (by kernel_rfl) (by kernel_rfl) (by kernel_rfl) (fun _ _ _ h => h) (Or.inl ⟨by rfl, ?hyz3⟩) HS4.out ?rez3
    case hyz3 => ((intro w hSw; (try dsimp only at hSw); go_simp); first | done | with_reducible rfl)
    (try simp only [Act.put, List.setIfInBounds_toArray, List.set_cons_zero, List.set_cons_succ])
    refine wpAnyH_take (i := 4) (oi := ⟨some 58, _, _, _, _, _⟩) (v := ?_) rfl (by kernel_rfl) (by kernel_rfl) (by kernel_rfl) (fun _ _ _ h => h) (Or.inl ⟨by rfl, ?hyz4⟩) HS4.out ?rez4
    case hyz4 => ((intro w hSw; (try dsimp only at hSw); go_simp); first | done | with_reducible rfl)
    (try simp only [Act.put, List.setIfInBounds_toArray, List.set_cons_zero, List.set_cons_succ])
    refine wpAnyH_take (i := 5) (oi := ⟨some 59, _, _, _, _, _⟩) (v := ?_) rfl (by kernel_rfl) (by kernel_rfl) (by kernel_rfl) (fun _ _ _ h => h) (Or.inl ⟨by rfl, ?hyz5⟩) HS4.out ?rez5
    case hyz5 => ((intro w hSw; (try dsimp only at hSw); go_simp); first | done | with_reducible rfl)
    (try simp only [Act.put, List.setIfInBounds_toArray, List.set_cons_zero, List.set_cons_succ])
    refine wpAnyH_ready (rs := [6]) (by kernel_rfl) (by simp) ?_
    refine AllReadyH.cons rfl (fun K hK => ?_) AllReadyH.nil
    refine step_store_vino rfl 42 _ _ rfl a n _ rfl (by omega) x (HXN.out) rfl HVW.out hn Try.sizeII ?_
    intro w9 hv9 hg9
    refine hK.out _ _ (HS5.out _ hg9) (fun _ => ?_)
    clear hK K
    (try simp only [Act.put, List.setIfInBounds_toArray, List.set_cons_zero, List.set_cons_succ])
    refine wpAnyH_done (by kernel_rfl) ?_ _
    refine NoPanic.normal ?_
    have hvs9 := HVSD.out.ino HVW.out hv9 hg9
    have hdn := hvs9.done HZD.out HBT2.out
    have hat := hvs9.at
    have hl9 := HL9.out w9 hg9
    go_wp2_with (go_at_call 44; (with_reducible refine hdn.mono ?_); rintro e w10 ⟨rfl, ho10, hb10⟩)
    go_ret3
    rw [HEND.out]
    exact ⟨_, rfl, own_sl0 ho10 (by rw [Nd.putB_len (Nd.doneTo_len HZD.out hvs9.full.2 32 (Nat.le_refl _)) HBT2.out]), hl9.trans (hb10.low.mono hat.2.2.1)⟩
end Go.Proofs.Ytbklmpekpcneeaa
namespace Nd
theorem dropTo_drop {d : List UInt8} {x : Ino} (hx : x.bl.length = 12) {k : Nat} (hk : k < 12) : dropB (dropTo d x.bl k) (bk x k) = dropTo d x.bl (k + 1) := (dropTo_step hx hk).symm
theorem free_end {d : List UInt8} (hd : d.length = 12288) (hF : Formed d) {m : Nat} (hm : m < 32) (h : (get d (m : Int)).2 = 0) (h0 : m ≠ 0) : (putB (doneTo d ((inos d).set m free) 32) (dropTo d (raw d m).bl 12), (0 : Int)) = freeN d (m : Int) := by
  rw [done_upd hd hF (dropTo_len hd _ _) hm rfl (fun _ _ => rfl), free_yes h h0]
  rfl
end Nd
namespace Go.Proofs.Ytbklmpekpcneeaa
open Go.RowKit
set_option maxRecDepth 100000

set_option maxHeartbeats 8000000 in
theorem vfree_w {v : Value} {d : List UInt8} {w : World} (hv : Sl eb w v d) (hl : d.length ≤ 100000) (n : Int) : Calls Try.prog 36 #[v, .int .i64 n] w fun e w' =>
    ∃ v', e = .returned (.tuple #[v', .int .i64 (Nd.freeN d n).2]) ∧ Sl eb w' v' (Nd.freeN d n).1 ∧ Below w.heap.size w w' := by
  by_cases he : (Nd.get d n).2 = 0
  rotate_left
  · have HC := Lib.hid (vwith_bad hv hl n he)
    have HR := Lib.hid (Nd.free_bad he)
    have HXN : Hid ((Nd.get d n).1.bl.length = 12) := Nd.get_blen n
    have f1 : ((Nd.get d n).2 != 0) = true := by rw [bne_iff_ne]; exact he
    obtain ⟨x, ec, hxe⟩ : ∃ x ec, Nd.get d n = (x, ec) := ⟨_, _, rfl⟩
    rw [hxe] at HXN HC HR f1
    simp only at f1
    clear he hxe
    go_enter Try.func36, Try.ntmps36
    go_wp2_with (first
      | (go_at_call 40; (with_reducible refine HC.out.mono ?_); rintro e w2 ⟨pv, rfl, hb2⟩)
      | (refine wpList_store_part rfl 42 _ _ rfl w2.heap.size 0 14 (ic x) rfl rfl 42 [.int .i64 0, .int .i64 0, .int .i64 0, .int .i64 0, .int .i64 0, .int .i64 0, .int .i64 0, .int .i64 0, .int .i64 0, .int .i64 0, .int .i64 0, .int .i64 0, .int .i64 0, .int .i64 0] (Bk.new w2 _ [.int .i64 0, .int .i64 0, .int .i64 0, .int .i64 0, .int .i64 0, .int .i64 0, .int .i64 0, .int .i64 0, .int .i64 0, .int .i64 0, .int .i64 0, .int .i64 0, .int .i64 0, .int .i64 0]) (ic_len HXN.out) (by simp) Try.sizeII (ic_one _) ?_; intro w3 hk3 hg3))
    go_ret2
    rw [HR.out]
    exact ⟨_, rfl, Sl.nil _ _, stepAny hb2 ((low_alloc w2 (.cells #[.int .i64 0, .int .i64 0, .int .i64 0, .int .i64 0, .int .i64 0, .int .i64 0, .int .i64 0, .int .i64 0, .int .i64 0, .int .i64 0, .int .i64 0, .int .i64 0, .int .i64 0, .int .i64 0] 42 (0, 0))).trans (below_of_grown hg3 (Nat.le_refl _) (low_alloc w2 (.cells #[.int .i64 0, .int .i64 0, .int .i64 0, .int .i64 0, .int .i64 0, .int .i64 0, .int .i64 0, .int .i64 0, .int .i64 0, .int .i64 0, .int .i64 0, .int .i64 0, .int .i64 0, .int .i64 0] 42 (0, 0))).size))⟩
  obtain ⟨m, rfl, hm, hx, hgd, hbk⟩ := Nd.get_some2 he
  have hd : d.length = 12288 := (Nd.get_ok he).1
  have hF : Nd.Formed d := (Nd.get_ok he).2.1
  have HXN : Hid ((Nd.raw d m).bl.length = 12) := (Nd.raw_enc d m).n
  have HWO := Lib.hid (vwith_ok hv hl m he hx)

  by_cases h0 : m = 0
  · have HR : Hid (Nd.freeN d (m : Int) = ([], 12)) := by
      show _ = _
      subst h0
      exact Nd.free_root he
    have f1 : ((m : Int) == 0) = true := by rw [h0]; rfl
    clear he h0 hx hgd hbk hd hF
    go_enter Try.func36, Try.ntmps36
    go_wp2_with (first
      | (go_at_call 40; (with_reducible refine HWO.out.mono ?_); rintro e w2 ⟨a, g, cap, rfl, hvs2, hb2⟩)
      | (refine wpList_store_part rfl 42 _ _ rfl w2.heap.size 0 14 (ic (Nd.raw d m)) rfl rfl 42 [.int .i64 0, .int .i64 0, .int .i64 0, .int .i64 0, .int .i64 0, .int .i64 0, .int .i64 0, .int .i64 0, .int .i64 0, .int .i64 0, .int .i64 0, .int .i64 0, .int .i64 0, .int .i64 0] (Bk.new w2 _ [.int .i64 0, .int .i64 0, .int .i64 0, .int .i64 0, .int .i64 0, .int .i64 0, .int .i64 0, .int .i64 0, .int .i64 0, .int .i64 0, .int .i64 0, .int .i64 0, .int .i64 0, .int .i64 0]) (ic_len HXN.out) (by simp) Try.sizeII (ic_one _) ?_; intro w3 hk3 hg3))
    go_ret2
    rw [HR.out]
    exact ⟨_, rfl, Sl.nil _ _, stepAny hb2 ((low_alloc w2 (.cells #[.int .i64 0, .int .i64 0, .int .i64 0, .int .i64 0, .int .i64 0, .int .i64 0, .int .i64 0, .int .i64 0, .int .i64 0, .int .i64 0, .int .i64 0, .int .i64 0, .int .i64 0, .int .i64 0] 42 (0, 0))).trans (below_of_grown hg3 (Nat.le_refl _) (low_alloc w2 (.cells #[.int .i64 0, .int .i64 0, .int .i64 0, .int .i64 0, .int .i64 0, .int .i64 0, .int .i64 0, .int .i64 0, .int .i64 0, .int .i64 0, .int .i64 0, .int .i64 0, .int .i64 0, .int .i64 0] 42 (0, 0))).size))⟩
  have f1 : ((m : Int) == 0) = false := by rw [beq_eq_false_iff_ne]; omega
  have HEND := Lib.hid (Nd.free_end hd hF hm he h0)
  have HDS := Lib.hid (fun k hk => Nd.dropTo_drop (d := d) (k := k) HXN.out hk)
  have HDL := Lib.hid (fun k => Nd.dropTo_len hd (Nd.raw d m).bl k)
  have HB96 : Hid (∀ i, i < 12 → Nd.bk (Nd.raw d m) i < 96) := fun i hi => by rcases hbk i hi with h | h <;> omega
  have HS12 : Hid ((Try.prog.info? 40).map (·.size) = some 12) := by show _ = _; kernel_rfl
  have HBL : Hid (((ic (Nd.raw d m)).drop 2).take 12 = (Nd.raw d m).bl.map ei) := by
    show _ = _
    show ((Nd.raw d m).bl.map ei).take 12 = _
    rw [List.take_of_length_le (by rw [List.length_map, HXN.out]; exact Nat.le_refl _)]
  have HD := Lib.hid hd
  have HD0 : Hid (Nd.dropTo d (Nd.raw d m).bl 0 = Nd.bits d) := rfl
  clear hv he hx hgd hbk hd hF h0
  go_enter Try.func36, Try.ntmps36
  go_upto_region 2 with (first
    | (go_at_call 40; (with_reducible refine HWO.out.mono ?_); rintro e w2 ⟨a, g, cap, rfl, hvs2, hb2⟩)
    | (refine wpList_store_part rfl 42 _ _ rfl w2.heap.size 0 14 (ic (Nd.raw d m)) rfl rfl 42 [.int .i64 0, .int .i64 0, .int .i64 0, .int .i64 0, .int .i64 0, .int .i64 0, .int .i64 0, .int .i64 0, .int .i64 0, .int .i64 0, .int .i64 0, .int .i64 0, .int .i64 0, .int .i64 0] (Bk.new w2 _ [.int .i64 0, .int .i64 0, .int .i64 0, .int .i64 0, .int .i64 0, .int .i64 0, .int .i64 0, .int .i64 0, .int .i64 0, .int .i64 0, .int .i64 0, .int .i64 0, .int .i64 0, .int .i64 0]) (ic_len HXN.out) (by simp) Try.sizeII (ic_one _) ?_; intro w3 hk3 hg3))
  rw [splice_all _ _ (by rw [ic_len HXN.out]; rfl)] at hk3
  have hl23 : Below w2.heap.size w2 w3 := (low_alloc w2 (.cells #[.int .i64 0, .int .i64 0, .int .i64 0, .int .i64 0, .int .i64 0, .int .i64 0, .int .i64 0, .int .i64 0, .int .i64 0, .int .i64 0, .int .i64 0, .int .i64 0, .int .i64 0, .int .i64 0] 42 (0, 0))).trans (below_of_grown hg3 (Nat.le_refl _) (low_alloc w2 (.cells #[.int .i64 0, .int .i64 0, .int .i64 0, .int .i64 0, .int .i64 0, .int .i64 0, .int .i64 0, .int .i64 0, .int .i64 0, .int .i64 0, .int .i64 0, .int .i64 0, .int .i64 0, .int .i64 0] 42 (0, 0))).size)
  have hvs := hvs2.later hl23
  have hl3 := stepAny hb2 hl23
  obtain ⟨bx, hbx⟩ : ∃ y, y = w2.heap.size := ⟨_, rfl⟩
  have hbxa : bx ≠ a := by have := hvs2.at; omega
  have hbxg : bx ≠ g := by have := hvs2.at; omega
  have hbxl : w.heap.size ≤ bx := by rw [hbx]; exact hb2.size
  rw [← hbx] at hk3 ⊢
  rw [← hbx] at hvs
  clear hbx hvs2 hl23 hg3 hb2 HWO
  have HVS := Lib.hid hvs
  have HL3 := Lib.hid hl3
  have hat := hvs.at
  clear hvs hl3
  go_upto_region 6 with fail
  go_upto_region 7 with (refine wpList_load_part rfl 40 _ rfl bx 2 12 rfl 42 (ic (Nd.raw d m)) hk3 (by rw [ic_len HXN.out]; decide) _ Try.underlying40 rfl HS12.out ?_; rw [HBL.out])
  go_wp2_with fail
  go_loopw [10, 25] (fun _ i wr => ∃ k : Nat, i = .int .i64 k ∧ k ≤ 12 ∧ Vs w.heap.size bx wr a g cap (Nd.inos d) d (Nd.dropTo d (Nd.raw d m).bl k) ∧ Below w.heap.size w wr ∧ bx < wr.heap.size) (fun _ i _ => 12 - (intOf i).toNat)
  case atStart => exact ⟨0, rfl, by omega, by rw [HD0.out]; exact HVS.out, HL3.out, hk3.lt⟩
  case round =>
    clear HVS HL3 hk3
    obtain ⟨k, rfl, hk, hvr, hlr, hbxw⟩ := hrel
    by_cases hlt : k < 12
    · have hix := run_index_ints (Nd.raw d m).bl HXN.out k hlt
      have eq1 : (Nd.raw d m).bl.getD k 0 = Nd.bk (Nd.raw d m) k := rfl
      rw [eq1] at hix
      have hdr := hvr.drop hbxw (HDL.out k) (Nd.bk (Nd.raw d m) k) (HB96.out k hlt)
      rw [HDS.out k hlt] at hdr
      generalize Nd.bk (Nd.raw d m) k = q at *
      have HIX := Lib.hid hix
      have HDR := Lib.hid hdr
      have HLR := Lib.hid hlr
      have f5 : (0 : Int) ≤ (k : Int) := by omega
      have f6 : (k : Int) < 12 := by omega
      clear hix eq1 hvr hdr hlr
      go_wp2_with (first
        | (refine wpList_index_by rfl 40 _ _ rfl _ _ (.int .i64 (q : Int)) rfl rfl HIX.out ?_)
        | (go_at_call 42; (with_reducible refine HDR.out.mono ?_); rintro e w5 ⟨rfl, hv5, hb5⟩))
      go_roundw
      case rel => exact ⟨k + 1, by go_num, by omega, hv5, HLR.out.trans (hb5.low.mono hat.2.1), Nat.lt_of_lt_of_le hbxw hb5.size⟩
      case measure => simp [intOf]; omega
    · have hk12 : k = 12 := by omega
      have f5 : ¬ (k : Int) < 12 := by omega
      rw [hk12] at hvr
      obtain ⟨bv, hvw⟩ := hvr.vw
      have HVR := Lib.hid hvr
      have HVW := Lib.hid hvw
      have HLR := Lib.hid hlr
      have HDL12 := Lib.hid (HDL.out 12)
      have f7 : (0 : Int) ≤ (m : Int) := by omega
      have f8 : (m : Int) < 32 := by omega
      clear hvr hlr hvw hk12 hk hlt HDL HDS
      go_wp2_with (first
        | (refine wpList_store_vino rfl 42 _ _ rfl a m _ rfl (by omega) Nd.free rfl rfl HVW.out hm Try.sizeII ?_; intro w6 hv6 hg6; have hvs6 := HVR.out.ino HVW.out hv6 hg6; have hdn := hvs6.done HD.out HDL12.out)
        | (go_at_call 44; (with_reducible refine hdn.mono ?_); rintro e w7 ⟨rfl, ho7, hb7⟩))
      go_ret2
      rw [← HEND.out]
      have hl6 : Below w.heap.size w w6 := HLR.out.trans (below_of_grown hg6 hat.2.1 HLR.out.size)
      exact ⟨_, rfl, own_sl0 ho7 (by rw [Nd.putB_len (Nd.doneTo_len HD.out hvs6.full.2 32 (Nat.le_refl _)) HDL12.out]), hl6.trans (hb7.low.mono hat.2.2.1)⟩
end Go.Proofs.Ytbklmpekpcneeaa
