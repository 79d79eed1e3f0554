/-
  The walks of the reference of inodes, the second part.
-/
import Derived.Test.YtbklmpekpcneeaaBd
import Derived.Test.YtbklmpekpcneeaaBa
set_option linter.unusedVariables false
set_option linter.unusedSimpArgs false
namespace Nd
/-- The inode and the disk behind k blocks of Truncate. -/
def trX (x : Ino) (s k : Nat) : Ino := ⟨x.kind, x.size, (List.range 12).map fun i => if i < k ∧ s ≤ i * 128 then 0 else bk x i⟩
def trL (x : Ino) (s k : Nat) : List Nat := ((List.range k).filter fun i => decide (s ≤ i * 128)).map (bk x)
def trD (d : List UInt8) (x : Ino) (s k : Nat) : List UInt8 := putB d (drops (bits d) (trL x s k))
theorem trX_len (x : Ino) (s k : Nat) : (trX x s k).bl.length = 12 := by simp [trX]
theorem trX_bk (x : Ino) (s k : Nat) {i : Nat} (hi : i < 12) : bk (trX x s k) i = if i < k ∧ s ≤ i * 128 then 0 else bk x i := by
  unfold trX
  conv => lhs; unfold bk
  simp only
  rw [List.getD_eq_getElem?_getD, List.getElem?_eq_getElem (by simpa using hi)]
  simp [bk]
theorem trX_zero {x : Ino} (hx : x.bl.length = 12) (s : Nat) : trX x s 0 = x := by
  rw [Ino.eta]
  refine ⟨rfl, rfl, ?_⟩
  rw [bl_eq hx]
  unfold trX
  simp
theorem trX_step {x : Ino} (s : Nat) {k : Nat} (hk : k < 12) : trX x s (k + 1) = if s ≤ k * 128 then setBl (trX x s k) k 0 else trX x s k := by
  have h : ∀ y : Ino, y.bl.length = 12 → y.kind = x.kind → y.size = x.size → (∀ i, i < 12 → bk y i = bk (trX x s (k + 1)) i) → trX x s (k + 1) = y := fun y hl h1 h2 h3 => by
    rw [Ino.eta]
    refine ⟨h1.symm, h2.symm, ?_⟩
    rw [bl_eq (trX_len x s (k + 1)), bl_eq hl]
    apply List.map_congr_left
    intro i hi
    exact (h3 i (List.mem_range.1 hi)).symm
  split
  · rename_i hs
    refine h _ (by rw [setBl_len, trX_len]) rfl rfl fun i hi => ?_
    rw [bk_setBl (by rw [trX_len]; omega), trX_bk x s _ hi, trX_bk x s _ hi]
    by_cases e : k = i
    · subst e; rw [if_pos rfl, if_pos ⟨by omega, hs⟩]
    · rw [if_neg e]
      by_cases c : i < k ∧ s ≤ i * 128
      · rw [if_pos c, if_pos ⟨by omega, c.2⟩]
      · rw [if_neg c, if_neg (by omega)]
  · rename_i hs
    refine h _ (trX_len x s k) rfl rfl fun i hi => ?_
    rw [trX_bk x s _ hi, trX_bk x s _ hi]
    by_cases c : i < k ∧ s ≤ i * 128
    · rw [if_pos c, if_pos ⟨by omega, c.2⟩]
    · rw [if_neg c, if_neg]
      intro h2
      have : i = k := by omega
      subst this
      exact hs h2.2
theorem trX_same {x : Ino} (s : Nat) {k : Nat} (hk : k < 12) (h0 : bk x k = 0) : trX x s (k + 1) = trX x s k := by
  rw [trX_step s hk]
  split
  · have hb : bk (trX x s k) k = 0 := by rw [trX_bk x s k hk, h0]; simp
    rw [Ino.eta]
    refine ⟨rfl, rfl, ?_⟩
    unfold setBl
    apply List.ext_getElem (by simp)
    intro i h1 h2
    rw [List.getElem_set]
    split
    · rename_i e; subst e
      unfold bk at hb
      rw [List.getD_eq_getElem?_getD, List.getElem?_eq_getElem h2] at hb
      exact hb.symm
    · rfl
  · rfl
theorem trX_all (x : Ino) (s : Nat) : (trX x s 12).bl = (cut x s).bl := by
  unfold trX cut
  simp only
  apply List.map_congr_left
  intro i hi
  have := List.mem_range.1 hi
  by_cases c : s ≤ i * 128
  · rw [if_pos ⟨this, c⟩, if_pos c]
  · rw [if_neg (fun h => c h.2), if_neg c]
theorem trX_cut (x : Ino) (s : Nat) : (⟨(trX x s 12).kind, s, (trX x s 12).bl⟩ : Ino) = cut x s := by rw [trX_all]; rfl
theorem trL_step (x : Ino) (s k : Nat) : trL x s (k + 1) = if s ≤ k * 128 then trL x s k ++ [bk x k] else trL x s k := by
  unfold trL
  rw [List.range_succ, List.filter_append, List.map_append]
  by_cases h : s ≤ k * 128
  · rw [if_pos h, List.filter_cons_of_pos (by simpa using h)]; rfl
  · rw [if_neg h, List.filter_cons_of_neg (by simpa using h)]; simp
section
variable {d : List UInt8} (hd : d.length = 12288)
include hd
theorem trB_len (x : Ino) (s k : Nat) : (drops (bits d) (trL x s k)).length = 12 := by rw [drops_len, bits_len hd]
theorem trD_len (x : Ino) (s k : Nat) : (trD d x s k).length = 12288 := putB_len hd (trB_len hd x s k)
theorem trD_zero (x : Ino) (s : Nat) : trD d x s 0 = d := putB_bits hd
theorem trD_step (x : Ino) (s : Nat) {k : Nat} (h : bk x k ≠ 0) (hs : s ≤ k * 128) : putB (trD d x s k) (Ex.putB (bits (trD d x s k)) (bk x k) false) = trD d x s (k + 1) := by
  have hl := trB_len hd x s k
  unfold trD
  rw [bits_putB hd hl, putB_putB hd hl (by rw [Ex.length_putB, hl]), trL_step, if_pos hs, drops_snoc, if_neg h]
omit hd in
theorem trD_same (x : Ino) (s : Nat) {k : Nat} (h : bk x k = 0 ∨ ¬ s ≤ k * 128) : trD d x s (k + 1) = trD d x s k := by
  unfold trD
  rw [trL_step]
  split
  · rename_i hs
    rw [drops_snoc, if_pos (h.resolve_right (fun c => c hs))]
  · rfl
theorem trunc_form {m : Nat} {x : Ino} (_ : raw d m = x) {s : Nat} (hs : s ≤ 1536) (hb : ∀ i, i < 12 → bk x i = 0 ∨ (18 ≤ bk x i ∧ bk x i < 96)) : putB (wipe d (cut x s) s) (drops (bits d) (lost x s)) = wipe (trD d x s 12) (cut x s) s := by
  have hbl := trB_len hd x s 12
  have hb96 : ∀ i, bk (cut x s) i < 96 := fun i => by
    by_cases hi : i < 12
    · rw [cut_bk x s hi]
      split
      · omega
      · have := hb i hi; omega
    · unfold bk
      rw [List.getD_eq_getElem?_getD, List.getElem?_eq_none (by rw [cut_len]; omega)]; decide
  have e : lost x s = trL x s 12 := rfl
  have hw := wipe_len (size := s) hd hb96
  have hw2 := wipe_len (size := s) (trD_len hd x s 12) hb96
  rw [e]
  refine ext_g (by rw [putB_len hw hbl, hw2]) fun i _ => ?_
  rw [putB_g hw hbl]
  have ei : i = 128 * (i / 128) + i % 128 := by omega
  have h1 := wipe_g (x := cut x s) (size := s) hd hb96 (k := i / 128) (j := i % 128) (by omega)
  have h2 := wipe_g (x := cut x s) (size := s) (trD_len hd x s 12) hb96 (k := i / 128) (j := i % 128) (by omega)
  rw [← ei] at h1 h2
  rw [h1, h2]
  unfold trD
  rw [putB_g hd hbl]
  by_cases c : 1664 ≤ i ∧ i < 1676
  · rw [if_pos c, if_neg]
    · rw [if_pos c]
    rintro ⟨c1, c2, c3, -⟩
    have h12 : s / 128 < 12 := by omega
    rw [cut_bk x s h12] at c2 c3
    split at c2
    · exact c2 rfl
    · rename_i c4
      rw [if_neg c4] at c3
      have := hb _ h12
      omega
  · rw [if_neg c, if_neg c]
end
/-- The bytes that are wiped so far. -/
def wipeTo (D : List UInt8) (p k : Nat) : List UInt8 := Jr.put D p (List.replicate k 0)
theorem wipeTo_len {D : List UInt8} (hD : D.length = 12288) {p k : Nat} (h : p + k ≤ 12288) : (wipeTo D p k).length = 12288 := by unfold wipeTo; rw [put_len (by simp; omega), hD]
theorem wipeTo_zero (D : List UInt8) (p : Nat) : wipeTo D p 0 = D := by
  unfold wipeTo Jr.put
  simp
theorem wipeTo_step {D : List UInt8} (hD : D.length = 12288) {p k : Nat} (h : p + k < 12288) : (wipeTo D p k).set (p + k) 0 = wipeTo D p (k + 1) := by
  refine ext_g (by rw [List.length_set, wipeTo_len hD (by omega), wipeTo_len hD (by omega)]) fun i _ => ?_
  rw [g_set, wipeTo_len hD (by omega)]
  unfold wipeTo
  rw [g_put (by simp; omega), g_put (by simp; omega)]
  simp only [List.length_replicate]
  have hr : ∀ n j : Nat, g (List.replicate n 0) j = 0 := fun n j => by unfold g; rw [List.getD_eq_getElem?_getD, List.getElem?_replicate]; split <;> rfl
  rw [hr, hr]
  by_cases e : p + k = i
  · rw [if_pos ⟨e, by omega⟩, if_pos (by omega)]
  · rw [if_neg (fun h => e h.1)]
    by_cases c : p ≤ i ∧ i < p + k
    · rw [if_pos c, if_pos (by omega)]
    · rw [if_neg c, if_neg (by omega)]
theorem trunc_get {d : List UInt8} {n s : Int} (h : (get d n).2 ≠ 0) : truncate d n s = ([], (get d n).2) := if_pos h
theorem trunc_dir {d : List UInt8} {m : Nat} {s : Int} (h : (get d (m : Int)).2 = 0) (hk : (raw d m).kind = 2) : truncate d (m : Int) s = ([], 14) := by unfold truncate; rw [if_neg (by simp [h]), Int.toNat_natCast]; simp [hk]
theorem trunc_rng {d : List UInt8} {m : Nat} {s : Int} (h : (get d (m : Int)).2 = 0) (hk : (raw d m).kind ≠ 2) (hs : s < 0 ∨ 1536 < s) : truncate d (m : Int) s = ([], 2) := by unfold truncate; rw [if_neg (by simp [h]), Int.toNat_natCast]; simp [hk, hs]
theorem trunc_yes {d : List UInt8} (hd : d.length = 12288) {m s : Nat} (h : (get d (m : Int)).2 = 0) (hk : (raw d m).kind ≠ 2) (hs : s ≤ 1536) (hb : ∀ i, i < 12 → bk (raw d m) i = 0 ∨ (18 ≤ bk (raw d m) i ∧ bk (raw d m) i < 96)) :
    truncate d (m : Int) (s : Int) = (putI (wipe (trD d (raw d m) s 12) (cut (raw d m) s) s) m (cut (raw d m) s), 0) := by
  unfold truncate
  rw [if_neg (by simp [h])]
  simp only [Int.toNat_natCast]
  rw [if_neg hk, if_neg (by omega), trunc_form hd (m := m) rfl hs hb]
theorem get_some2 {d : List UInt8} {n : Int} (h : (get d n).2 = 0) : ∃ m : Nat, n = m ∧ m < 32 ∧ (get d n).1 = raw d m ∧ good d (raw d m) ∧ ∀ i, i < 12 → bk (raw d m) i = 0 ∨ (18 ≤ bk (raw d m) i ∧ bk (raw d m) i < 96) := by
  obtain ⟨-, hF, m, e, hm, hk, hg⟩ := get_ok h
  have hgd := hF.good hm hk
  refine ⟨m, e, hm, by rw [hg], hgd, fun i hi => ?_⟩
  rcases hgd.2.2.1 i hi with h | h
  · exact .inl h
  · exact .inr ⟨h.1, h.2.1⟩
end Nd
namespace Go.Proofs.Ytbklmpekpcneeaa
open Go.RowKit
set_option maxRecDepth 100000

theorem own_store8 {w : World} {base g n cap i : Nat} {xs : List UInt8} {c : UInt8} (h : w.ownsRow base 5 1 (.slice (some ⟨g, 0, none⟩) n cap) n (xs.map eb)) : (w.setCell ⟨g, i, none⟩ (eb c)).ownsRow base 5 1 (.slice (some ⟨g, 0, none⟩) n cap) n ((xs.set i c).map eb) := by
  obtain ⟨h1, h2, h3, cur, h4, h5, h6⟩ := own_bk' h
  have h7 := bk_own (n := n) h1 h2 h3 (h4.set i (eb c)) (by rw [List.length_set]; exact h5)
  rw [List.take_set, h6, ← List.map_set] at h7
  exact h7
theorem own_cell8 {w : World} {base g n cap i : Nat} {xs : List UInt8} (h : w.ownsRow base 5 1 (.slice (some ⟨g, 0, none⟩) n cap) n (xs.map eb)) (hi : i < xs.length) (hn : xs.length = n) : w.cell? ⟨g, i, none⟩ = some (eb xs[i]) ∧ w.frozen? ⟨g, i, none⟩ = false := by
  obtain ⟨h1, h2, h3, cur, h4, h5, h6⟩ := own_bk' h
  refine ⟨?_, h4.frozen i⟩
  rw [h4.cell]
  have e : (cur.take n)[i]? = (xs.map eb)[i]? := by rw [h6]
  rw [List.getElem?_take, if_pos (by omega), List.getElem?_map, List.getElem?_eq_getElem hi] at e
  exact e

set_option maxHeartbeats 8000000 in
theorem rtrunc_w {v : Value} {d : List UInt8} {w : World} (hv : Sl eb w v d) (hd : d.length = 12288) (n s : Int) : Calls Try.prog 39 #[v, .int .i64 n, .int .i64 s] w fun e w' => ∃ v', e = .returned (.tuple #[v', .int .i64 (Nd.truncate d n s).2]) ∧ Sl eb w' v' (Nd.truncate d n s).1 ∧ Below w.heap.size w w' := by
  have HV := Lib.hid hv
  obtain ⟨b, off, cap, rfl, hc, hm, hb, -⟩ := hv.disk hd
  have HGT := Lib.hid (rget_w hv hd n)
  have HXL := Lib.hid (Nd.get_bl d n)
  have hfb := fun h => Nd.trunc_get (d := d) (n := n) (s := s) h
  by_cases hg : (Nd.get d n).2 = 0
  rotate_left
  · have HF := Lib.hid (hfb hg)
    generalize (Nd.get d n).2 = ec at *
    generalize (Nd.get d n).1 = x at *
    have f1 : (ec != 0) = true := by rw [bne_iff_ne]; exact hg
    clear hfb hg hv hd hb
    go_enter Try.func39, Try.ntmps39
    go_wp2_with (first
      | (go_at_call 20; (with_reducible refine HGT.out.mono ?_); rintro e w1 ⟨rfl, hb1⟩)
      | (refine wpList_store_part rfl 45 _ _ rfl w1.heap.size 0 14 (ic x) rfl rfl 45 [.int .i64 0, .int .i64 0, .int .i64 0, .int .i64 0, .int .i64 0, .int .i64 0, .int .i64 0, .int .i64 0, .int .i64 0, .int .i64 0, .int .i64 0, .int .i64 0, .int .i64 0, .int .i64 0] (Bk.new w1 _ [.int .i64 0, .int .i64 0, .int .i64 0, .int .i64 0, .int .i64 0, .int .i64 0, .int .i64 0, .int .i64 0, .int .i64 0, .int .i64 0, .int .i64 0, .int .i64 0, .int .i64 0, .int .i64 0]) (ic_len HXL.out) (by simp) Try.sizeRI (ic_one _) ?_; intro w2 hk2 hg2))
    go_ret2
    rw [HF.out]
    exact ⟨_, rfl, Sl.nil _ _, (stepAny hb1 (low_alloc w1 _)).trans (below_of_grown hg2 hb1.size (stepAny hb1 (low_alloc w1 _)).size)⟩
  have hg0 := hg
  obtain ⟨m, rfl, hm32, hraw, hgood, hrng⟩ := Nd.get_some2 hg
  rw [hg, hraw] at HGT
  rw [hraw] at HXL
  have hkd := fun hk => Nd.trunc_dir (d := d) (m := m) (s := s) hg0 hk
  have hkr := fun hk hs => Nd.trunc_rng (d := d) (m := m) (s := s) hg0 hk hs
  have hky := fun (s : Nat) hk hs => Nd.trunc_yes hd (m := m) (s := s) hg0 hk hs hrng
  generalize hxe : Nd.raw d m = x at *
  clear hfb hg hg0 hraw hxe
  by_cases hk : x.kind = 2
  · have HF := Lib.hid (hkd hk)
    have f1 : ((x.kind : Int) == 2) = true := by rw [hk]; rfl
    clear hkd hkr hky hv hd hb hk hgood hrng
    go_enter Try.func39, Try.ntmps39
    go_upto_region 2 with (first
      | (go_at_call 20; (with_reducible refine HGT.out.mono ?_); rintro e w1 ⟨rfl, hb1⟩)
      | (refine wpList_store_part rfl 45 _ _ rfl w1.heap.size 0 14 (ic x) rfl rfl 45 [.int .i64 0, .int .i64 0, .int .i64 0, .int .i64 0, .int .i64 0, .int .i64 0, .int .i64 0, .int .i64 0, .int .i64 0, .int .i64 0, .int .i64 0, .int .i64 0, .int .i64 0, .int .i64 0] (Bk.new w1 _ [.int .i64 0, .int .i64 0, .int .i64 0, .int .i64 0, .int .i64 0, .int .i64 0, .int .i64 0, .int .i64 0, .int .i64 0, .int .i64 0, .int .i64 0, .int .i64 0, .int .i64 0, .int .i64 0]) (ic_len HXL.out) (by simp) Try.sizeRI (ic_one _) ?_; intro w2 hk2 hg2))
    rw [splice_all _ _ (by rw [ic_len HXL.out]; rfl)] at hk2
    have z0 : w2.cell? ⟨w1.heap.size, 0, none⟩ = some (.int .i64 (x.kind : Int)) := hk2.cell 0
    go_wp2_with fail
    go_ret2
    rw [HF.out]
    exact ⟨_, rfl, Sl.nil _ _, (stepAny hb1 (low_alloc w1 _)).trans (below_of_grown hg2 hb1.size (stepAny hb1 (low_alloc w1 _)).size)⟩
  have f1 : ((x.kind : Int) == 2) = false := by rw [beq_eq_false_iff_ne]; omega
  by_cases hs : s < 0 ∨ 1536 < s
  · have HF := Lib.hid (hkr hk hs)
    clear hkd hkr hky hv hd hb hk hgood hrng
    rcases hs with hs | hs
    all_goals
      go_enter Try.func39, Try.ntmps39
      go_upto_region 2 with (first
        | (go_at_call 20; (with_reducible refine HGT.out.mono ?_); rintro e w1 ⟨rfl, hb1⟩)
        | (refine wpList_store_part rfl 45 _ _ rfl w1.heap.size 0 14 (ic x) rfl rfl 45 [.int .i64 0, .int .i64 0, .int .i64 0, .int .i64 0, .int .i64 0, .int .i64 0, .int .i64 0, .int .i64 0, .int .i64 0, .int .i64 0, .int .i64 0, .int .i64 0, .int .i64 0, .int .i64 0] (Bk.new w1 _ [.int .i64 0, .int .i64 0, .int .i64 0, .int .i64 0, .int .i64 0, .int .i64 0, .int .i64 0, .int .i64 0, .int .i64 0, .int .i64 0, .int .i64 0, .int .i64 0, .int .i64 0, .int .i64 0]) (ic_len HXL.out) (by simp) Try.sizeRI (ic_one _) ?_; intro w2 hk2 hg2))
      rw [splice_all _ _ (by rw [ic_len HXL.out]; rfl)] at hk2
      have z0 : w2.cell? ⟨w1.heap.size, 0, none⟩ = some (.int .i64 (x.kind : Int)) := hk2.cell 0
      go_wp2_with fail
      go_ret2
      rw [HF.out]
      exact ⟨_, rfl, Sl.nil _ _, (stepAny hb1 (low_alloc w1 _)).trans (below_of_grown hg2 hb1.size (stepAny hb1 (low_alloc w1 _)).size)⟩
  obtain ⟨s, rfl⟩ : ∃ t : Nat, s = t := ⟨s.toNat, by omega⟩
  have hs1 : s ≤ 1536 := by omega
  have HF := Lib.hid (hky s hk hs1)
  have HRNG := Lib.hid hrng
  have HD := Lib.hid hd
  have g1 : (0 : Int) ≤ (s : Int) := by omega
  have g2 : (s : Int) ≤ 1536 := by omega
  obtain ⟨i0, hi0, hz0, hz1, hz2⟩ := info_parts Try.info5
  clear hkd hkr hky hv hd hb hk hgood hrng hs
  go_enter Try.func39, Try.ntmps39
  go_upto_region 2 with (first
    | (go_at_call 20; (with_reducible refine HGT.out.mono ?_); rintro e w1 ⟨rfl, hb1⟩)
    | (refine wpList_store_part rfl 45 _ _ rfl w1.heap.size 0 14 (ic x) rfl rfl 45 [.int .i64 0, .int .i64 0, .int .i64 0, .int .i64 0, .int .i64 0, .int .i64 0, .int .i64 0, .int .i64 0, .int .i64 0, .int .i64 0, .int .i64 0, .int .i64 0, .int .i64 0, .int .i64 0] (Bk.new w1 _ [.int .i64 0, .int .i64 0, .int .i64 0, .int .i64 0, .int .i64 0, .int .i64 0, .int .i64 0, .int .i64 0, .int .i64 0, .int .i64 0, .int .i64 0, .int .i64 0, .int .i64 0, .int .i64 0]) (ic_len HXL.out) (by simp) Try.sizeRI (ic_one _) ?_; intro w2 hk2 hg2))
  rw [splice_all _ _ (by rw [ic_len HXL.out]; rfl)] at hk2
  have hl2 : Below w.heap.size w w2 := (stepAny hb1 (low_alloc w1 _)).trans (below_of_grown hg2 hb1.size (stepAny hb1 (low_alloc w1 _)).size)
  have z0 : w2.cell? ⟨w1.heap.size, 0, none⟩ = some (.int .i64 (x.kind : Int)) := hk2.cell 0
  have HB1 := Lib.hid hb1.size
  obtain ⟨bx, hbx⟩ : ∃ y, y = w1.heap.size := ⟨_, rfl⟩
  rw [← hbx] at hk2 z0 HB1 ⊢
  have hbx2 : bx < w2.heap.size := hk2.lt
  have HK2 := Lib.hid hk2
  have HL2 := Lib.hid hl2
  have HS2 := Lib.hid (HV.out.below hl2 (Nat.le_refl _))
  clear hbx hb1 hg2 hk2 hl2
  go_upto_region 9 with (at_builtin; refine wpList_copy_of rfl _ _ 25 5 rfl i0 Try.underlying25 hi0 hz0 hz1 hz2 w2 rfl rfl (some ⟨b, off, none⟩) cap d 12288 rfl HD.out HS2.out (by omega) ?_; intro v3 w3 ho3 hb3)
  obtain ⟨g3, c3, rfl⟩ := own_form ho3 (by omega)
  have HO3 : Hid (w3.ownsRow w2.heap.size 5 1 (.slice (some ⟨g3, 0, none⟩) 12288 c3) 12288 ((Nd.trD d x s 0).map eb)) := by show _; rw [Nd.trD_zero HD.out]; exact ho3
  have HK3 : Hid (Bk w3 bx 45 (ic (Nd.trX x s 0))) := by show Bk _ _ _ _; rw [Nd.trX_zero HXL.out]; exact HK2.out.below hb3 HK2.out.lt
  have HL3 := Lib.hid (stepAny HL2.out hb3)
  clear ho3 hb3 z0 HK2
  go_wp2_with fail
  go_loopw [10, 11] (fun uv nv wr => ∃ (k g c : Nat), uv = .slice (some ⟨g, 0, none⟩) 12288 c ∧ nv = .int .i64 k ∧ k ≤ 12 ∧ wr.ownsRow w2.heap.size 5 1 (.slice (some ⟨g, 0, none⟩) 12288 c) 12288 ((Nd.trD d x s k).map eb) ∧ Bk wr bx 45 (ic (Nd.trX x s k)) ∧ Below w.heap.size w wr) (fun _ i _ => 12 - (intOf i).toNat)
  case atStart => exact ⟨0, _, _, rfl, rfl, by omega, HO3.out, HK3.out, HL3.out⟩
  case round =>
    clear HO3 HK3 HL3
    obtain ⟨k, g, c, rfl, rfl, hk, ho, hkb, hl⟩ := hrel
    by_cases hlt : k < 12
    · have hbk : Nd.bk (Nd.trX x s k) k = Nd.bk x k := by rw [Nd.trX_bk x s k hlt, if_neg (by omega)]
      have z0 : wr.cell? ⟨bx, 2 + k, none⟩ = some (.int .i64 ((Nd.bk x k : Nat) : Int)) := by rw [hkb.cell, ← hbk]; exact ic_bk (Nd.trX_len _ _ _) hlt
      have y0 := hkb.frozen (2 + k)
      have f5 : (0 : Int) ≤ (k : Int) := by omega
      have f6 : (k : Int) < 12 := by omega
      have f8 : IntKind.i64.wrap ((k : Int) * 128) = (k : Int) * 128 := IntWalk.i64_in _ (by omega)
      have hsx := Nd.trX_step (x := x) s hlt
      have hss := Nd.trX_same (x := x) s hlt
      have hds := fun h => Nd.trD_same (d := d) x s (k := k) h
      have hdr := fun h hs => Nd.trD_step HD.out x s (k := k) h hs
      have hrk := HRNG.out k hlt
      generalize Nd.bk x k = q at *
      clear hbk
      by_cases hq : q = 0
      · have HX2 := Lib.hid (hss hq)
        have HD2 := Lib.hid (hds (.inl hq))
        have HO := Lib.hid ho
        have HK := Lib.hid hkb
        have HL := Lib.hid hl
        have f7 : ((q : Int) != 0) = false := by rw [hq]; rfl
        clear hsx hss hds hdr hrk hq ho hkb hl
        go_wp2_with fail
        go_roundw
        case rel => exact ⟨k + 1, g, c, rfl, by go_num, by omega, by rw [HD2.out]; exact HO.out, by rw [HX2.out]; exact HK.out, HL.out⟩
        case measure => simp [intOf]; omega
      · have f7 : ((q : Int) != 0) = true := by rw [bne_iff_ne]; omega
        by_cases hsk : s ≤ k * 128
        · have HD2 := Lib.hid (hdr hq hsk)
          rw [if_pos hsk] at hsx
          have f9 : (s : Int) ≤ (k : Int) * 128 := by omega
          have hDL := Nd.trD_len HD.out x s k
          have HDL2 := Lib.hid (Nd.trD_len HD.out x s (k + 1))
          have HRE := Lib.hid (rrelease_w (own_sl0 ho hDL) hDL q (by omega))
          have HX2 : Hid (∀ W, Bk W bx 45 (ic (Nd.trX x s k)) → Bk (W.setCell ⟨bx, 2 + k, none⟩ (.int .i64 0)) bx 45 (ic (Nd.trX x s (k + 1)))) := fun W h => by
            rw [hsx, ← ic_setBl]
            exact h.set (2 + k) _
          have HSZ : Hid (w2.heap.size ≤ wr.heap.size) := by
            have h1 := (own_bk' ho).1
            have h2 := (ho.lt g rfl).2
            show _ ≤ _; omega
          have HK := Lib.hid hkb
          have HL := Lib.hid hl
          clear hsx hss hds hdr hrk hq ho hkb hl hDL hsk
          go_upto_region 14 with (go_at_call 70; (with_reducible refine HRE.out.mono ?_); rintro e w4 ⟨v4, rfl, ho4, hb4⟩)
          rw [HD2.out] at ho4
          obtain ⟨g4, c4, rfl⟩ := own_form ho4 (by omega)
          have hk4 := HK.out.below hb4 HK.out.lt
          have z4 : w4.cell? ⟨bx, 2 + k, none⟩ = some (.int .i64 (q : Int)) := by
            rw [hb4.cell (p := ⟨bx, 2 + k, none⟩) HK.out.lt]; exact z0
          have y4 := hk4.frozen (2 + k)
          have HK5 := Lib.hid (HX2.out w4 hk4)
          have HL5 : Hid (Below w.heap.size w (w4.setCell ⟨bx, 2 + k, none⟩ (.int .i64 0))) := (stepAny HL.out hb4).setCell (by simp; exact HB1.out) _
          have HO5 : Hid ((w4.setCell ⟨bx, 2 + k, none⟩ (.int .i64 0)).ownsRow w2.heap.size 5 1 (.slice (some ⟨g4, 0, none⟩) 12288 c4) 12288 ((Nd.trD d x s (k + 1)).map eb)) := own_keep (own_base ho4 HSZ.out) (fun j hj => by
            have e : g4 = j := by simpa [Value.ownBlock] using hj
            subst e
            have h1 := (own_bk' ho4).1
            have h2 := HSZ.out
            rw [Below.heap_setCell _ _ _ _ (by simp; omega)])
          clear ho4 hb4 hk4 z0 y0
          go_wp2_with fail
          go_roundw
          case rel => exact ⟨k + 1, g4, c4, rfl, by go_num, by omega, HO5.out, HK5.out, HL5.out⟩
          case measure => simp [intOf]; omega
        · have HD2 := Lib.hid (hds (.inr hsk))
          rw [if_neg hsk] at hsx
          have HX2 := Lib.hid hsx
          have HO := Lib.hid ho
          have HK := Lib.hid hkb
          have HL := Lib.hid hl
          have f9 : ¬ (s : Int) ≤ (k : Int) * 128 := by omega
          clear hsx hss hds hdr hrk hq ho hkb hl hsk
          go_wp2_with fail
          go_roundw
          case rel => exact ⟨k + 1, g, c, rfl, by go_num, by omega, by rw [HD2.out]; exact HO.out, by rw [HX2.out]; exact HK.out, HL.out⟩
          case measure => simp [intOf]; omega
    · have hk12 : k = 12 := by omega
      have f5 : ¬ (k : Int) < 12 := by omega
      rw [hk12] at ho hkb
      have hwp : Nd.wipe (Nd.trD d x s 12) (Nd.cut x s) s = if s % 128 ≠ 0 ∧ Nd.bk (Nd.trX x s 12) (s / 128) ≠ 0 then Nd.wipeTo (Nd.trD d x s 12) (Nd.bk (Nd.trX x s 12) (s / 128) * 128 + s % 128) (128 - s % 128) else Nd.trD d x s 12 := by
        have e : ∀ i, Nd.bk (Nd.cut x s) i = Nd.bk (Nd.trX x s 12) i := fun i => by unfold Nd.bk; rw [Nd.trX_all]
        unfold Nd.wipe Nd.wipeTo
        rw [e]
      have hdl := Nd.trD_len HD.out x s 12
      have g3 : IntKind.i64.wrap ((s : Int) / 128) = ((s / 128 : Nat) : Int) := by rw [IntWalk.i64_in _ (by omega)]; omega
      by_cases hr : s % 128 = 0
      · have HXW : Hid (Nd.wipe (Nd.trD d x s 12) (Nd.cut x s) s = Nd.trD d x s 12) := by show _ = _; rw [hwp, if_neg (by simp [hr])]
        have g4 : ((s : Int) % 128 != 0) = false := by rw [show (s : Int) % 128 = 0 by omega]; rfl
        have hlx := hdl
        clear hwp hdl hk12 hk hlt hr
        have HLX := Lib.hid hlx
        have hgb := (own_bk' ho).1
        have hk9 : Bk (wr.setCell ⟨bx, 1, none⟩ (.int .i64 (s : Int))) bx 45 (ic (Nd.cut x s)) := by
          have h := hkb.set 1 (.int .i64 (s : Int))
          rw [← Nd.trX_cut]
          exact h
        have hs9 : Sl eb (wr.setCell ⟨bx, 1, none⟩ (.int .i64 (s : Int))) (.slice (some ⟨g, 0, none⟩) 12288 c) (Nd.trD d x s 12) := own_sl0 (own_keep ho (fun j hj => by
          have e : g = j := by simpa [Value.ownBlock] using hj
          subst e
          rw [Below.heap_setCell _ _ _ _ (by simp; omega)])) HLX.out
        have hl9 : Below w.heap.size w (wr.setCell ⟨bx, 1, none⟩ (.int .i64 (s : Int))) := hl.setCell (by simp; exact HB1.out) _
        have z1 : wr.cell? ⟨bx, 1, none⟩ = some (.int .i64 ((Nd.trX x s 12).size : Int)) := hkb.cell 1
        have y1 := hkb.frozen 1
        have HPT := Lib.hid (rput_w hs9 HLX.out m hm32 (Nd.cut x s) (Nd.cut_len x s) (show s < 65536 by omega))
        have HPL : Hid ((Nd.putI (Nd.trD d x s 12) m (Nd.cut x s)).length = 12288) := by
          show _ = _
          unfold Nd.putI
          rw [Nd.put_len (by rw [Nd.enc_len16 (Nd.cut_len x s), HLX.out]; unfold Nd.at_; omega), HLX.out]
        have HCL := Lib.hid (Nd.cut_len x s)
        have HK9 := Lib.hid hk9
        have HL9 := Lib.hid hl9
        rw [HXW.out] at HF
        clear hlx hgb hk9 hs9 hl9 ho hkb hl
        generalize Nd.cut x s = Y at *
        go_upto_region 23 with fail
        generalize wr.setCell ⟨bx, 1, none⟩ (.int .i64 (s : Int)) = w9 at *
        go_wp2_with (first
          | (refine wpList_load_ino rfl 45 _ rfl bx rfl 45 Y HCL.out HK9.out _ Try.underlying45 rfl Try.sizeRI ?_; unfold iv)
          | (go_at_call 58; (with_reducible refine HPT.out.mono ?_); rintro e w10 ⟨v10, rfl, ho10, hb10⟩; have hs10 := own_sl0 ho10 HPL.out))
        go_ret2
        rw [HF.out]
        exact ⟨_, rfl, hs10, stepAny HL9.out hb10⟩
      have hlt12 : s / 128 < 12 := by omega
      have z2 : wr.cell? ⟨bx, 2 + s / 128, none⟩ = some (.int .i64 ((Nd.bk (Nd.trX x s 12) (s / 128) : Nat) : Int)) := by rw [hkb.cell]; exact ic_bk (Nd.trX_len _ _ _) hlt12
      have hq96 : Nd.bk (Nd.trX x s 12) (s / 128) < 96 := by
        rw [Nd.trX_bk x s 12 hlt12]
        split
        · omega
        · have := HRNG.out _ hlt12; omega
      have g4 : ((s : Int) % 128 != 0) = true := by rw [bne_iff_ne]; omega
      have g5 : (0 : Int) ≤ ((s / 128 : Nat) : Int) := by omega
      have g6 : ((s / 128 : Nat) : Int) < 12 := by omega
      have g7 : (s : Int) % 128 = ((s % 128 : Nat) : Int) := by omega
      have hr128 : s % 128 < 128 := by omega
      generalize Nd.bk (Nd.trX x s 12) (s / 128) = q at *
      obtain ⟨t, ht⟩ : ∃ t, s / 128 = t := ⟨_, rfl⟩
      obtain ⟨r, hre⟩ : ∃ r, s % 128 = r := ⟨_, rfl⟩
      rw [ht] at z2 g3 g5 g6
      rw [hre] at hwp hr g7 hr128
      clear ht hre g4
      have g4 : ((r : Int) != 0) = true := by rw [bne_iff_ne]; omega
      by_cases hq : q = 0
      · have HXW : Hid (Nd.wipe (Nd.trD d x s 12) (Nd.cut x s) s = Nd.trD d x s 12) := by show _ = _; rw [hwp, if_neg (by simp [hq])]
        have g8 : ((q : Int) != 0) = false := by rw [hq]; rfl
        have hlx := hdl
        clear hwp hdl hk12 hk hlt hr hq hq96 hlt12
        have HLX := Lib.hid hlx
        have hgb := (own_bk' ho).1
        have hk9 : Bk (wr.setCell ⟨bx, 1, none⟩ (.int .i64 (s : Int))) bx 45 (ic (Nd.cut x s)) := by
          have h := hkb.set 1 (.int .i64 (s : Int))
          rw [← Nd.trX_cut]
          exact h
        have hs9 : Sl eb (wr.setCell ⟨bx, 1, none⟩ (.int .i64 (s : Int))) (.slice (some ⟨g, 0, none⟩) 12288 c) (Nd.trD d x s 12) := own_sl0 (own_keep ho (fun j hj => by
          have e : g = j := by simpa [Value.ownBlock] using hj
          subst e
          rw [Below.heap_setCell _ _ _ _ (by simp; omega)])) HLX.out
        have hl9 : Below w.heap.size w (wr.setCell ⟨bx, 1, none⟩ (.int .i64 (s : Int))) := hl.setCell (by simp; exact HB1.out) _
        have z1 : wr.cell? ⟨bx, 1, none⟩ = some (.int .i64 ((Nd.trX x s 12).size : Int)) := hkb.cell 1
        have y1 := hkb.frozen 1
        have HPT := Lib.hid (rput_w hs9 HLX.out m hm32 (Nd.cut x s) (Nd.cut_len x s) (show s < 65536 by omega))
        have HPL : Hid ((Nd.putI (Nd.trD d x s 12) m (Nd.cut x s)).length = 12288) := by
          show _ = _
          unfold Nd.putI
          rw [Nd.put_len (by rw [Nd.enc_len16 (Nd.cut_len x s), HLX.out]; unfold Nd.at_; omega), HLX.out]
        have HCL := Lib.hid (Nd.cut_len x s)
        have HK9 := Lib.hid hk9
        have HL9 := Lib.hid hl9
        rw [HXW.out] at HF
        clear hlx hgb hk9 hs9 hl9 ho hkb hl
        generalize Nd.cut x s = Y at *
        go_upto_region 23 with fail
        generalize wr.setCell ⟨bx, 1, none⟩ (.int .i64 (s : Int)) = w9 at *
        go_wp2_with (first
          | (refine wpList_load_ino rfl 45 _ rfl bx rfl 45 Y HCL.out HK9.out _ Try.underlying45 rfl Try.sizeRI ?_; unfold iv)
          | (go_at_call 58; (with_reducible refine HPT.out.mono ?_); rintro e w10 ⟨v10, rfl, ho10, hb10⟩; have hs10 := own_sl0 ho10 HPL.out))
        go_ret2
        rw [HF.out]
        exact ⟨_, rfl, hs10, stepAny HL9.out hb10⟩
      have g8 : ((q : Int) != 0) = true := by rw [bne_iff_ne]; omega
      rw [if_pos ⟨hr, hq⟩] at hwp
      have HXW := Lib.hid hwp
      have HO := Lib.hid ho
      have HK := Lib.hid hkb
      have HL := Lib.hid hl
      have HDL := Lib.hid hdl
      have HBK := Lib.hid (rblock0_w g c q hq96 (own_bk' ho).2.1 (own_bk' ho).2.2.1 wr)
      have hcm := (own_bk' ho).2.2.1
      have hcn := (own_bk' ho).2.1
      unfold maxLen at hcm
      clear hwp hdl hk12 hk hlt hr hq hlt12 ho hkb hl
      go_upto_region 19 with (go_at_call 51; (with_reducible refine HBK.out.mono ?_); rintro e w' ⟨rfl, rfl⟩)
      clear z2
      go_wp2_with fail
      go_loopw [14] (fun nv wl => ∃ (j : Nat), nv = .int .i64 ((r + j : Nat) : Int) ∧ r + j ≤ 128 ∧ wl.ownsRow w2.heap.size 5 1 (.slice (some ⟨g, 0, none⟩) 12288 c) 12288 ((Nd.wipeTo (Nd.trD d x s 12) (q * 128 + r) j).map eb) ∧ Bk wl bx 45 (ic (Nd.trX x s 12)) ∧ Below w.heap.size w wl) (fun i _ => 128 - (intOf i).toNat)
      case atStart => exact ⟨0, by first | rfl | (simp; exact g7), by omega, by rw [Nd.wipeTo_zero]; exact HO.out, HK.out, HL.out⟩
      case round =>
        clear HO HK HL
        rename World => wl
        obtain ⟨j, rfl, hj, ho, hkb, hl⟩ := hrel
        have hwl := Nd.wipeTo_len HDL.out (p := q * 128 + r) (k := j) (by omega)
        by_cases hlt : r + j < 128
        · have hst := Nd.wipeTo_step HDL.out (p := q * 128 + r) (k := j) (by omega)
          obtain ⟨y0, y1⟩ := own_cell8 (i := q * 128 + r + j) ho (by omega) hwl
          generalize (Nd.wipeTo (Nd.trD d x s 12) (q * 128 + r) j)[q * 128 + r + j] = old at y0
          have ho2 := own_store8 (i := q * 128 + r + j) (c := 0) ho
          rw [hst] at ho2
          have hgb := (own_bk' ho).1
          have hk2 : Bk (wl.setCell ⟨g, q * 128 + r + j, none⟩ (eb 0)) bx 45 (ic (Nd.trX x s 12)) := hkb.far (by simp; omega) _
          have hl2 : Below w.heap.size w (wl.setCell ⟨g, q * 128 + r + j, none⟩ (eb 0)) := hl.setCell (by have := HL2.out.size; simp; omega) _
          have HO2 := Lib.hid ho2
          have HK2 := Lib.hid hk2
          have HL2' := Lib.hid hl2
          rw [Nat.add_assoc] at y0 y1 HO2 HK2 HL2'
          unfold eb at y0 HO2 HK2 HL2'
          have f5 : (0 : Int) ≤ ((r + j : Nat) : Int) := by omega
          have f6 : ((r + j : Nat) : Int) < 128 := by omega
          have HSU : Hid (r + (j + 1) = r + j + 1) := rfl
          clear hst ho2 hgb hk2 hl2 ho hkb hl hwl
          obtain ⟨rj, hrj⟩ : ∃ y, r + j = y := ⟨_, rfl⟩
          rw [hrj] at y0 y1 f5 f6 HO2 HK2 HL2' HSU hj hlt ⊢
          clear hrj
          go_wp2_with fail
          go_roundw
          case rel => exact ⟨j + 1, by rw [HSU.out]; go_num, by rw [HSU.out]; omega, HO2.out, HK2.out, HL2'.out⟩
          case measure => simp [intOf]; omega
        · obtain rfl : j = 128 - r := by omega
          have f5 : ¬ ((r + (128 - r) : Nat) : Int) < 128 := by omega
          have hlx := hwl
          clear hwl hj hlt
          have HLX := Lib.hid hlx
          have hgb := (own_bk' ho).1
          have hk9 : Bk (wl.setCell ⟨bx, 1, none⟩ (.int .i64 (s : Int))) bx 45 (ic (Nd.cut x s)) := by
            have h := hkb.set 1 (.int .i64 (s : Int))
            rw [← Nd.trX_cut]
            exact h
          have hs9 : Sl eb (wl.setCell ⟨bx, 1, none⟩ (.int .i64 (s : Int))) (.slice (some ⟨g, 0, none⟩) 12288 c) (Nd.wipeTo (Nd.trD d x s 12) (q * 128 + r) (128 - r)) := own_sl0 (own_keep ho (fun j hj => by
            have e : g = j := by simpa [Value.ownBlock] using hj
            subst e
            rw [Below.heap_setCell _ _ _ _ (by simp; omega)])) HLX.out
          have hl9 : Below w.heap.size w (wl.setCell ⟨bx, 1, none⟩ (.int .i64 (s : Int))) := hl.setCell (by simp; exact HB1.out) _
          have z1 : wl.cell? ⟨bx, 1, none⟩ = some (.int .i64 ((Nd.trX x s 12).size : Int)) := hkb.cell 1
          have y1 := hkb.frozen 1
          have HPT := Lib.hid (rput_w hs9 HLX.out m hm32 (Nd.cut x s) (Nd.cut_len x s) (show s < 65536 by omega))
          have HPL : Hid ((Nd.putI (Nd.wipeTo (Nd.trD d x s 12) (q * 128 + r) (128 - r)) m (Nd.cut x s)).length = 12288) := by
            show _ = _
            unfold Nd.putI
            rw [Nd.put_len (by rw [Nd.enc_len16 (Nd.cut_len x s), HLX.out]; unfold Nd.at_; omega), HLX.out]
          have HCL := Lib.hid (Nd.cut_len x s)
          have HK9 := Lib.hid hk9
          have HL9 := Lib.hid hl9
          rw [HXW.out] at HF
          clear hlx hgb hk9 hs9 hl9 ho hkb hl
          generalize Nd.cut x s = Y at *
          go_upto_region 23 with fail
          generalize wl.setCell ⟨bx, 1, none⟩ (.int .i64 (s : Int)) = w9 at *
          go_wp2_with (first
            | (refine wpList_load_ino rfl 45 _ rfl bx rfl 45 Y HCL.out HK9.out _ Try.underlying45 rfl Try.sizeRI ?_; unfold iv)
            | (go_at_call 58; (with_reducible refine HPT.out.mono ?_); rintro e w10 ⟨v10, rfl, ho10, hb10⟩; have hs10 := own_sl0 ho10 HPL.out))
          go_ret2
          rw [HF.out]
          exact ⟨_, rfl, hs10, stepAny HL9.out hb10⟩
end Go.Proofs.Ytbklmpekpcneeaa
namespace Nd
theorem wrX_rng {d : List UInt8} {x : Ino} (hx : x.bl.length = 12) (hr : ∀ j, j < 12 → bk x j = 0 ∨ (18 ≤ bk x j ∧ bk x j < 96)) {o N i : Nat} (hl : (fr x o N i).length ≤ (fb d).length) {j : Nat} (hj : j < 12) : bk (wrX d x o N i) j < 96 := by
  have hfx : ∀ j ∈ fr x o N i, j < x.bl.length := fun j hj => by rw [hx]; exact (fresh_mem.1 (fr_mem.1 hj).1).1
  unfold wrX
  by_cases hf : j ∈ fr x o N i
  · exact (wrT_mem (fill_in _ (wrT d x o N i) hfx ((fresh_nodup _ _ _).filter _) (by unfold wrT; rw [List.length_take]; omega) _ hf)).2
  · rw [fill_out _ _ hfx _ hf]
    have := hr j hj
    omega
theorem wrX_size (d : List UInt8) (x : Ino) (o N i : Nat) : (wrX d x o N i).size = x.size := (fill_same _ _ _).2.1
end Nd
namespace Go.Proofs.Ytbklmpekpcneeaa
open Go.RowKit
set_option maxRecDepth 100000

set_option maxHeartbeats 16000000 in
theorem rwrite_w {v u : Value} {d s : List UInt8} {w : World} (hv : Sl eb w v d) (hd : d.length = 12288) (n o : Int) (hu : Sl eb w u s) (hsl : s.length ≤ 100000) : Calls Try.prog 38 #[v, .int .i64 n, .int .i64 o, u] w fun e w' => ∃ v', e = .returned (.tuple #[v', .int .i64 (Nd.write d n o s).2]) ∧ Sl eb w' v' (Nd.write d n o s).1 ∧ Below w.heap.size w w' := by
  have HV := Lib.hid hv
  have HU := Lib.hid hu
  obtain ⟨b, off, cap, rfl, hc, hm, hb, -⟩ := hv.disk hd
  obtain ⟨au, cu, rfl, -, -, -, hru⟩ := id hu
  have HRU := Lib.hid hru
  have HGT := Lib.hid (rget_w hv hd n)
  have HXL := Lib.hid (Nd.get_bl d n)
  have hfb := fun h => Nd.write_get (d := d) (n := n) (o := o) (s := s) h
  clear hru hu
  by_cases hg : (Nd.get d n).2 = 0
  rotate_left
  · have HF := Lib.hid (hfb hg)
    generalize (Nd.get d n).2 = ec at *
    generalize (Nd.get d n).1 = x at *
    have f1 : (ec != 0) = true := by rw [bne_iff_ne]; exact hg
    clear hfb hg hv hd hb
    go_enter Try.func38, Try.ntmps38
    go_wp2_with (first
      | (go_at_call 20; (with_reducible refine HGT.out.mono ?_); rintro e w1 ⟨rfl, hb1⟩)
      | (refine wpList_store_part rfl 45 _ _ rfl w1.heap.size 0 14 (ic x) rfl rfl 45 [.int .i64 0, .int .i64 0, .int .i64 0, .int .i64 0, .int .i64 0, .int .i64 0, .int .i64 0, .int .i64 0, .int .i64 0, .int .i64 0, .int .i64 0, .int .i64 0, .int .i64 0, .int .i64 0] (Bk.new w1 _ [.int .i64 0, .int .i64 0, .int .i64 0, .int .i64 0, .int .i64 0, .int .i64 0, .int .i64 0, .int .i64 0, .int .i64 0, .int .i64 0, .int .i64 0, .int .i64 0, .int .i64 0, .int .i64 0]) (ic_len HXL.out) (by simp) Try.sizeRI (ic_one _) ?_; intro w2 hk2 hg2))
    go_ret2
    rw [HF.out]
    exact ⟨_, rfl, Sl.nil _ _, (stepAny hb1 (low_alloc w1 _)).trans (below_of_grown hg2 hb1.size (stepAny hb1 (low_alloc w1 _)).size)⟩
  have hg0 := hg
  obtain ⟨m, rfl, hm32, hraw, hgood, hrng⟩ := Nd.get_some2 hg
  rw [hg, hraw] at HGT
  rw [hraw] at HXL
  have hneg := fun ho => Nd.write_neg (d := d) (m := m) (o := o) (s := s) hg0 ho
  have hnil := fun (o : Nat) => Nd.write_nil (d := d) (m := m) (o := o) hg0
  have hbig := fun (o : Nat) hs hb => Nd.write_big (d := d) (m := m) (o := o) (s := s) hg0 hs hb
  have hful := fun (o i : Nat) hs hb hi h1 h2 h0 hl => Nd.write_full (d := d) (m := m) (o := o) (i := i) (s := s) hg0 hs hb hi h1 h2 h0 hl
  have hyes := fun (o i : Nat) hs hb h2 hl => Nd.write_yes hd (m := m) (o := o) (i := i) (s := s) hg0 hs hb h2 hl hrng
  generalize hxe : Nd.raw d m = x at *
  have hxs : x.size ≤ 1536 := hgood.2.1
  have HRNG := Lib.hid hrng
  have HD := Lib.hid hd
  have HNEG := Lib.hid hneg
  have HNIL := Lib.hid hnil
  have HBIG := Lib.hid hbig
  have HFUL := Lib.hid hful
  have HYES := Lib.hid hyes
  have HXS := Lib.hid hxs
  clear hfb hg hg0 hraw hxe hgood hrng hneg hnil hbig hful hyes hv hd hb hxs
  have hmo : Nd.most x ≤ 1536 ∧ 0 ≤ Nd.most x := by unfold Nd.most; split <;> omega
  obtain ⟨i0, hi0, hz0, hz1, hz2⟩ := info_parts Try.info5
  go_enter Try.func38, Try.ntmps38
  go_upto_region 2 with (first
    | (go_at_call 20; (with_reducible refine HGT.out.mono ?_); rintro e w1 ⟨rfl, hb1⟩)
    | (refine wpList_store_part rfl 45 _ _ rfl w1.heap.size 0 14 (ic x) rfl rfl 45 [.int .i64 0, .int .i64 0, .int .i64 0, .int .i64 0, .int .i64 0, .int .i64 0, .int .i64 0, .int .i64 0, .int .i64 0, .int .i64 0, .int .i64 0, .int .i64 0, .int .i64 0, .int .i64 0] (Bk.new w1 _ [.int .i64 0, .int .i64 0, .int .i64 0, .int .i64 0, .int .i64 0, .int .i64 0, .int .i64 0, .int .i64 0, .int .i64 0, .int .i64 0, .int .i64 0, .int .i64 0, .int .i64 0, .int .i64 0]) (ic_len HXL.out) (by simp) Try.sizeRI (ic_one _) ?_; intro w2 hk2 hg2))
  rw [splice_all _ _ (by rw [ic_len HXL.out]; rfl)] at hk2
  have hl2 : Below w.heap.size w w2 := (stepAny hb1 (low_alloc w1 _)).trans (below_of_grown hg2 hb1.size (stepAny hb1 (low_alloc w1 _)).size)
  have z0 : w2.cell? ⟨w1.heap.size, 0, none⟩ = some (.int .i64 (x.kind : Int)) := hk2.cell 0
  have HB1 := Lib.hid hb1.size
  obtain ⟨bx, hbx⟩ : ∃ y, y = w1.heap.size := ⟨_, rfl⟩
  rw [← hbx] at hk2 z0 HB1 ⊢
  have hbx2 : bx < w2.heap.size := hk2.lt
  have HK2 := Lib.hid hk2
  have HL2 := Lib.hid hl2
  have HS2 := Lib.hid (HV.out.below hl2 (Nat.le_refl _))
  clear hbx hb1 hg2 hk2 hl2
  go_upto_if 28 with fail
  go_cut [12] (fun s12 W' => s12 = .int .i64 (Nd.most x : Int) ∧ W' = w2)
  case first =>
    by_cases hk : x.kind = 2
    · have f1 : ((x.kind : Int) == 2) = true := by rw [hk]; rfl
      have HM : Hid (Nd.most x = 128) := by show _ = _; unfold Nd.most; rw [if_pos hk]
      clear hk
      go_wp2_with fail
      go_meet
      exact ⟨by rw [HM.out]; rfl, rfl⟩
    · have f1 : ((x.kind : Int) == 2) = false := by rw [beq_eq_false_iff_ne]; omega
      have HM : Hid (Nd.most x = 1536) := by show _ = _; unfold Nd.most; rw [if_neg hk]
      clear hk
      go_wp2_with fail
      go_meet
      exact ⟨by rw [HM.out]; rfl, rfl⟩
  case rest =>
    obtain ⟨rfl, hwc⟩ := hcut
    rw [hwc]
    obtain ⟨M, hM⟩ : ∃ M, Nd.most x = M := ⟨_, rfl⟩
    rw [hM] at hmo ⊢
    have HMX : Hid (M = Nd.most x) := hM.symm
    clear hM hwc
    by_cases ho : o < 0
    · have HF := Lib.hid (HNEG.out ho)
      go_wp2_with fail
      go_ret2
      rw [HF.out]
      exact ⟨_, rfl, Sl.nil _ _, HL2.out⟩
    obtain ⟨o, rfl⟩ : ∃ t : Nat, o = t := ⟨o.toNat, by omega⟩
    have g1 : (0 : Int) ≤ (o : Int) := by omega
    clear ho HNEG HGT z0
    go_upto_region 10 with (at_builtin; refine wpList_copy_of rfl _ _ 25 5 rfl i0 Try.underlying25 hi0 hz0 hz1 hz2 w2 rfl rfl (some ⟨b, off, none⟩) cap d 12288 rfl HD.out HS2.out (by omega) ?_; intro v3 w3 ho3 hb3)
    obtain ⟨g3, c3, rfl⟩ := own_form ho3 (by omega)
    by_cases hs0 : s = []
    · have HF : Hid (Nd.write d (m : Int) (o : Int) s = (d, 0)) := by show _ = _; rw [hs0]; exact HNIL.out o
      have f1 : ((s.length : Int) == 0) = true := by rw [hs0]; rfl
      have hs3 := own_sl0 ho3 HD.out
      have hl3 := stepAny HL2.out hb3
      clear hs0
      go_wp2_with fail
      go_ret2
      rw [HF.out]
      exact ⟨_, rfl, hs3, hl3⟩
    have hsp : 0 < s.length := List.length_pos_iff.2 hs0
    have f1 : ((s.length : Int) == 0) = false := by rw [beq_eq_false_iff_ne]; omega
    have f2 : IntKind.i64.wrap ((M : Int) - (o : Int)) = (M : Int) - (o : Int) ∨ (M : Int) < (o : Int) := by
      by_cases h : (M : Int) < (o : Int)
      · exact .inr h
      · exact .inl (IntWalk.i64_in _ (by omega))
    by_cases hbg : M < o + s.length
    · have HF := Lib.hid (HBIG.out o hs0 (by rw [← HMX.out]; exact hbg))
      have hl3 := stepAny HL2.out hb3
      by_cases h1 : (M : Int) < (o : Int)
      · clear hs0 f2
        go_wp2_with fail
        go_ret2
        rw [HF.out]
        exact ⟨_, rfl, Sl.nil _ _, hl3⟩
      · have f3 := f2.resolve_right h1
        have f4 : (M : Int) - (o : Int) < (s.length : Int) := by omega
        clear hs0 f2
        go_wp2_with fail
        go_ret2
        rw [HF.out]
        exact ⟨_, rfl, Sl.nil _ _, hl3⟩
    have f3 := f2.resolve_right (by omega)
    have f4 : ¬ (M : Int) < (o : Int) := by omega
    have f5 : ¬ (M : Int) - (o : Int) < (s.length : Int) := by omega
    have hbg' : ¬ Nd.most x < o + s.length := by rw [← HMX.out]; exact hbg
    have HFU := Lib.hid (fun i hi h1 h2 h0 hl => HFUL.out o i hs0 hbg' hi h1 h2 h0 hl)
    have HYE := Lib.hid (fun i h2 hl => HYES.out o i hs0 hbg' h2 hl)
    have hst := Nd.wr_start (x := x) (len := s.length) (off := o) HD.out
    have HO3 : Hid (w3.ownsRow w2.heap.size 5 1 (.slice (some ⟨g3, 0, none⟩) 12288 c3) 12288 ((Nd.wrD d x o s.length (o / 128)).map eb)) := by show _; rw [hst.2]; exact ho3
    have HK3 : Hid (Bk w3 bx 45 (ic (Nd.wrX d x o s.length (o / 128)))) := by show Bk _ _ _ _; rw [hst.1]; exact HK2.out.below hb3 HK2.out.lt
    have HL3 := Lib.hid (stepAny HL2.out hb3)
    have HFR : Hid ((Nd.fr x o s.length (o / 128)).length ≤ (Nd.fb d).length) := by show _ ≤ _; rw [Nd.fr_start]; simp
    obtain ⟨N, hN⟩ : ∃ N, s.length = N := ⟨_, rfl⟩
    have h1536 : o + N ≤ 1536 := by omega
    have g2 : IntKind.i64.wrap ((o : Int) / 128) = ((o / 128 : Nat) : Int) := by rw [IntWalk.i64_in _ (by omega)]; omega
    have g3' : IntKind.i64.wrap ((o : Int) + (N : Int)) = (o : Int) + (N : Int) := IntWalk.i64_in _ (by omega)
    rw [hN] at f1 f5 HFU HYE HO3 HK3 HFR hsp hbg HU ⊢
    have HN := Lib.hid hN
    clear hst hs0 f2 hbg' hN ho3 hb3 HFUL HYES HBIG HNIL HMX
    go_upto_region 14 with fail
    clear f1 f3 f4 f5
    go_wp2_with fail
    go_loopw [11, 13, 14] (fun _ uv iv wr => ∃ (i g c : Nat), uv = .slice (some ⟨g, 0, none⟩) 12288 c ∧ iv = .int .i64 (i : Int) ∧ o / 128 ≤ i ∧ i ≤ 12 ∧ wr.ownsRow w2.heap.size 5 1 (.slice (some ⟨g, 0, none⟩) 12288 c) 12288 ((Nd.wrD d x o N i).map eb) ∧ Bk wr bx 45 (ic (Nd.wrX d x o N i)) ∧ Hid ((Nd.fr x o N i).length ≤ (Nd.fb d).length) ∧ Below w.heap.size w wr) (fun _ _ i _ => 12 - (intOf i).toNat)
    case atStart => exact ⟨o / 128, _, _, rfl, rfl, Nat.le_refl _, by omega, HO3.out, HK3.out, HFR, HL3.out⟩
    case round =>
      clear HO3 HK3 HL3 HFR
      obtain ⟨i, g, c, rfl, rfl, hi0', hi12, ho, hkb, HFR, hl⟩ := hrel
      have e1 : IntKind.i64.wrap ((i : Int) * 128) = (i : Int) * 128 := IntWalk.i64_in _ (by omega)
      by_cases hlt : i * 128 < o + N
      · have hi : i < 12 := by omega
        have hbk := Nd.wr_bk (d := d) HXL.out (off := o) (len := N) (i := i)
        have z0 : wr.cell? ⟨bx, 2 + i, none⟩ = some (.int .i64 ((Nd.bk x i : Nat) : Int)) := by rw [hkb.cell, ← hbk]; exact ic_bk (Nd.wrX_len HXL.out i) hi
        have f5 : (0 : Int) ≤ (i : Int) := by omega
        have f6 : (i : Int) < 12 := by omega
        have f7 : (i : Int) * 128 < (o : Int) + (N : Int) := by omega
        have hsa := fun h0 => Nd.wr_same (d := d) (x := x) (off := o) (len := N) hi hi0' hlt h0
        have hfs := Nd.fr_step (x := x) (off := o) (len := N) hi hi0' hlt
        have hsp := fun h0 hl => Nd.wr_step HD.out (x := x) (off := o) (len := N) hi hi0' hlt h0 hl
        have hfu := fun h0 hl => HFU.out i hi hi0' hlt h0 hl
        have htk := Nd.wr_take HD.out (x := x) (off := o) (len := N) i
        have hwb := Nd.wrD_bits HD.out (x := x) (off := o) (len := N) i
        generalize Nd.bk x i = q at *
        clear hbk
        by_cases hq : q = 0
        · have f8 : ((q : Int) == 0) = true := by rw [hq]; rfl
          rw [if_pos hq] at hfs
          have hDL := Nd.wrD_len HD.out (x := x) (off := o) (len := N) i
          have htk0 := rtk_w (own_sl0 ho hDL) hDL
          have HSZ : Hid (w2.heap.size ≤ wr.heap.size) := by
            have h1 := (own_bk' ho).1
            have h2 := (ho.lt g rfl).2
            show _ ≤ _; omega
          have HK := Lib.hid hkb
          have HL := Lib.hid hl
          have Z0 := Lib.hid z0
          have HZ4 : Hid (∀ W, Below wr.heap.size wr W → W.cell? ⟨bx, 2 + i, none⟩ = some (.int .i64 (q : Int)) ∧ W.frozen? ⟨bx, 2 + i, none⟩ = false) := fun W hW => ⟨by rw [hW.cell (p := ⟨bx, 2 + i, none⟩) HK.out.lt]; exact Z0.out, (HK.out.below hW HK.out.lt).frozen _⟩
          by_cases hfl : (Nd.fr x o N i).length < (Nd.fb d).length
          · obtain ⟨hX, hDD⟩ := hsp hq hfl
            rw [dif_pos hfl] at htk
            have hkm := Nd.fb_mem (d := d) (List.getElem_mem hfl)
            generalize (Nd.fb d)[(Nd.fr x o N i).length] = kk at *
            have HX2 : Hid (∀ W, Bk W bx 45 (ic (Nd.wrX d x o N i)) → Bk (W.setCell ⟨bx, 2 + i, none⟩ (.int .i64 (kk : Int))) bx 45 (ic (Nd.wrX d x o N (i + 1)))) := fun W h => by
              rw [← hX, ← ic_setBl]
              exact h.set (2 + i) _
            have HDD : Hid (Nd.zeroB (Nd.putB (Nd.wrD d x o N i) (Ex.putB (Nd.bits (Nd.wrD d x o N i)) kk true)) kk = Nd.wrD d x o N (i + 1)) := by show _ = _; rw [hwb]; exact hDD
            have HTK : Hid (Calls Try.prog 69 #[.slice (some ⟨g, 0, none⟩) 12288 c] wr fun e w' => ∃ g4 c4, e = .returned (.tuple #[.int .i64 (kk : Int), .slice (some ⟨g4, 0, none⟩) 12288 c4, .int .i64 0]) ∧ w'.ownsRow wr.heap.size 5 1 (.slice (some ⟨g4, 0, none⟩) 12288 c4) 12288 ((Nd.wrD d x o N (i + 1)).map eb) ∧ Below wr.heap.size wr w') := htk0.mono fun e w' h => by
              rcases h with ⟨ht, -, -⟩ | ⟨k4, g4, c4, -, -, ht, he, ho4, hb4⟩
              · rw [htk] at ht; simp at ht
              · have e4 : kk = k4 := by rw [htk] at ht; simp at ht; exact ht.1
                subst e4
                rw [HDD.out] at ho4
                exact ⟨g4, c4, he, ho4, hb4⟩
            have HFR2 : Hid ((Nd.fr x o N (i + 1)).length ≤ (Nd.fb d).length) := by show _ ≤ _; rw [hfs, List.length_append]; simp; omega
            clear hsa hfs hsp hfu htk htk0 hwb hq ho hkb hl hDL hX hDD hfl
            go_upto_region 19 with (go_at_call 69; (with_reducible refine HTK.out.mono ?_); rintro e w4 ⟨g4, c4, rfl, ho4, hb4⟩; obtain ⟨z4, y4⟩ := HZ4.out _ hb4)
            have hk4 := HK.out.below hb4 HK.out.lt
            have HK5 := Lib.hid (HX2.out w4 hk4)
            have HL5 : Hid (Below w.heap.size w (w4.setCell ⟨bx, 2 + i, none⟩ (.int .i64 (kk : Int)))) := (stepAny HL.out hb4).setCell (by simp; exact HB1.out) _
            have HO5 : Hid ((w4.setCell ⟨bx, 2 + i, none⟩ (.int .i64 (kk : Int))).ownsRow w2.heap.size 5 1 (.slice (some ⟨g4, 0, none⟩) 12288 c4) 12288 ((Nd.wrD d x o N (i + 1)).map eb)) := own_keep (own_base ho4 HSZ.out) (fun j hj => by
              have e : g4 = j := by simpa [Value.ownBlock] using hj
              subst e
              have h1 := (own_bk' ho4).1
              have h2 := HSZ.out
              rw [Below.heap_setCell _ _ _ _ (by simp; omega)])
            clear ho4 hb4 hk4 z4 y4
            go_wp2_with fail
            go_roundw
            case rel => exact ⟨i + 1, g4, c4, rfl, by go_num, by omega, by omega, HO5.out, HK5.out, HFR2, HL5.out⟩
            case measure => simp [intOf]; omega
          · have HF := Lib.hid (hfu hq hfl)
            rw [dif_neg hfl] at htk
            have HTK : Hid (Calls Try.prog 69 #[.slice (some ⟨g, 0, none⟩) 12288 c] wr fun e w' => e = .returned (.tuple #[.int .i64 0, .slice none 0 0, .int .i64 13]) ∧ Below wr.heap.size wr w') := htk0.mono fun e w' h => by
              rcases h with ⟨-, he, hb4⟩ | ⟨k4, g4, c4, -, -, ht, -, -, -⟩
              · exact ⟨he, hb4⟩
              · rw [htk] at ht; simp at ht
            clear hsa hfs hsp hfu htk htk0 hwb hq ho hkb hl hDL hfl
            go_wp2_with (go_at_call 69; (with_reducible refine HTK.out.mono ?_); rintro e w4 ⟨rfl, hb4⟩; obtain ⟨z4, y4⟩ := HZ4.out _ hb4)
            go_ret2
            rw [HF.out]
            exact ⟨_, rfl, Sl.nil _ _, (stepAny HL.out hb4).setCell (by simp; exact HB1.out) _⟩
        · obtain ⟨hX, hDD⟩ := hsa hq
          rw [if_neg hq] at hfs
          have f8 : ((q : Int) == 0) = false := by rw [beq_eq_false_iff_ne]; omega
          have HX2 := Lib.hid hX
          have HD2 := Lib.hid hDD
          have HFS := Lib.hid hfs
          have HO := Lib.hid ho
          have HK := Lib.hid hkb
          have HL := Lib.hid hl
          clear hsa hfs hsp hfu htk hwb hq ho hkb hl hX hDD
          go_wp2_with fail
          go_roundw
          case rel => exact ⟨i + 1, g, c, rfl, by go_num, by omega, by omega, by rw [HD2.out]; exact HO.out, by rw [HX2.out]; exact HK.out, by show Hid (_ ≤ _); rw [HFS.out]; exact HFR, HL.out⟩
          case measure => simp [intOf]; omega
      · have f7 : ¬ (i : Int) * 128 < (o : Int) + (N : Int) := by omega
        have hF := HYE.out i (by omega) HFR.out
        have hXL := Nd.wrX_len (d := d) HXL.out (off := o) (len := N) i
        have hX96 := fun j (hj : j < 12) => Nd.wrX_rng (d := d) HXL.out HRNG.out (o := o) (N := N) (i := i) HFR.out hj
        have hXS := Nd.wrX_size d x o N i
        have hDL := Nd.wrD_len HD.out (x := x) (off := o) (len := N) i
        obtain ⟨bd, od, rfl, hbd, hcd⟩ := HRU.out.form (by rw [HN.out]; exact hsp)
        have HCD : Hid (∀ W, Below w.heap.size w W → ∀ k (hk : k < s.length), W.cell? ⟨bd, od + k, none⟩ = some (.int .u8 (s[k].toNat : Int))) := fun W hW k hk => by rw [hW.cell (p := ⟨bd, od + k, none⟩) hbd]; exact hcd k hk
        go_upto_region 21 with fail
        clear e1 f7 hi0' hi12 hi0 hz0 hz1 hz2
        generalize Nd.wrX d x o N i = X at *
        generalize Nd.wrD d x o N i = D at *
        have HF := Lib.hid hF
        have HX96 := Lib.hid hX96
        have HXL2 := Lib.hid hXL
        have HDL := Lib.hid hDL
        have HXS2 : Hid (X.size ≤ 1536) := by show _ ≤ _; rw [hXS]; exact HXS.out
        have HO := Lib.hid ho
        have HK := Lib.hid hkb
        have HL := Lib.hid hl
        have hcm := (own_bk' ho).2.2.1
        have hcn := (own_bk' ho).2.1
        have HBK := Lib.hid (fun q hq W => rblock0_w g c q hq hcn hcm W)
        have hgb := (own_bk' ho).1
        have hgw : g ≠ bd := by have := HL2.out.size; omega
        have hgx : bx ≠ g := by omega
        have hgw' : bd ≠ g := fun h => hgw h.symm
        have hgl : w.heap.size ≤ g := by have := HL2.out.size; omega
        unfold maxLen at hcm
        clear hF hX96 hXL hDL hXS ho hkb hl hcd HFR hlt HFU HYE
        go_wp2_with fail
        go_loopw [15, 16] (fun kv _ wl => ∃ (k : Nat), kv = .int .i64 (k : Int) ∧ k ≤ N ∧ wl.ownsRow w2.heap.size 5 1 (.slice (some ⟨g, 0, none⟩) 12288 c) 12288 ((Nd.pour X D o (s.take k)).map eb) ∧ Bk wl bx 45 (ic X) ∧ Below w.heap.size w wl) (fun k _ _ => N - (intOf k).toNat)
        case atStart => exact ⟨0, rfl, by omega, by rw [List.take_zero]; exact HO.out, HK.out, HL.out⟩
        case round =>
          clear HO HK HL
          rename World => wl
          obtain ⟨k, rfl, hk, ho, hkb, hl⟩ := hrel
          have hpl : (Nd.pour X D o (s.take k)).length = 12288 := by rw [Nd.pour_len]; exact HDL.out
          by_cases hlt : k < N
          · have hks : k < s.length := by rw [HN.out]; exact hlt
            have hstp := Nd.pourTo_step X D s o hks
            have y1 := HCD.out wl hl k hks
            obtain ⟨p, hp⟩ : ∃ p, o + k = p := ⟨_, rfl⟩
            rw [hp] at hstp
            obtain ⟨tt, htt⟩ : ∃ t, p / 128 = t := ⟨_, rfl⟩
            obtain ⟨r, hre⟩ : ∃ r, p % 128 = r := ⟨_, rfl⟩
            rw [htt, hre] at hstp
            have ht12 : tt < 12 := by omega
            have hr128 : r < 128 := by omega
            have e1 : IntKind.i64.wrap ((o : Int) + (k : Int)) = (p : Int) := by rw [IntWalk.i64_in _ (by omega)]; omega
            have e2 : IntKind.i64.wrap ((p : Int) / 128) = (tt : Int) := by rw [IntWalk.i64_in _ (by omega)]; omega
            have e3 : ((p : Int) % 128).toNat = r := by omega
            have e6 : p % 128 = r := hre
            have e7 : IntKind.i64.wrap ((p : Int) % 128) = (r : Int) := by rw [IntWalk.i64_in _ (by omega)]; omega
            have e8 : Int.tmod (p : Int) 128 = (r : Int) := by rw [Int.tmod_eq_emod_of_nonneg (by omega)]; omega
            have e9 : (p : Int) % 128 = (r : Int) := by omega
            have e4 : (0 : Int) ≤ (p : Int) % 128 := by omega
            have e5 : (p : Int) % 128 < 128 := by omega
            have z0 : wl.cell? ⟨bx, 2 + tt, none⟩ = some (.int .i64 ((Nd.bk X tt : Nat) : Int)) := by rw [hkb.cell]; exact ic_bk HXL2.out ht12
            have hq96 := HX96.out tt ht12
            generalize Nd.bk X tt = q at *
            obtain ⟨y0, yf⟩ := own_cell8 (i := q * 128 + r) ho (by omega) hpl
            have hst8 := own_store8 (i := q * 128 + r) (c := s[k]) ho
            rw [hstp] at hst8
            generalize (Nd.pour X D o (s.take k))[q * 128 + r] = old at y0
            generalize s[k] = cc at *
            unfold eb at y0 hst8
            have HO2 : Hid (((wl.setCell ⟨g, q * 128 + r, none⟩ (.int .u8 (cc.toNat : Int))).drew).ownsRow w2.heap.size 5 1 (.slice (some ⟨g, 0, none⟩) 12288 c) 12288 ((Nd.pour X D o (s.take (k + 1))).map eb)) := own_keep hst8 fun _ _ => rfl
            have HK2' : Hid (Bk ((wl.setCell ⟨g, q * 128 + r, none⟩ (.int .u8 (cc.toNat : Int))).drew) bx 45 (ic X)) := (hkb.far (by simpa using hgx) _).keep rfl
            have HL2' : Hid (Below w.heap.size w ((wl.setCell ⟨g, q * 128 + r, none⟩ (.int .u8 (cc.toNat : Int))).drew)) := (hl.setCell (by simpa using hgl) _).drew
            have HBQ := Lib.hid (HBK.out q hq96)
            have z0d : wl.drew.cell? ⟨bx, 2 + tt, none⟩ = some (.int .i64 (q : Int)) := z0
            have y0d : wl.drew.cell? ⟨g, q * 128 + r, none⟩ = some (.int .u8 (old.toNat : Int)) := y0
            have yfd : wl.drew.frozen? ⟨g, q * 128 + r, none⟩ = false := yf
            have y1d : wl.drew.cell? ⟨bd, od + k, none⟩ = some (.int .u8 (cc.toNat : Int)) := y1
            have f5 : (0 : Int) ≤ (k : Int) := by omega
            have f6 : (k : Int) < (N : Int) := by omega
            have f7 : (0 : Int) ≤ (tt : Int) := by omega
            have f8 : (tt : Int) < 12 := by omega
            have f9 : (0 : Int) ≤ (r : Int) := by omega
            have f10 : (r : Int) < 128 := by omega
            clear hp htt hre hstp hst8 ho hkb hl hpl hks ht12
            go_upto_region 25 with fail
            go_region_held3 (fun w' => w'.cell? ⟨bx, 2 + tt, none⟩ = some (.int .i64 (q : Int)) ∧ w'.cell? ⟨bd, od + k, none⟩ = some (.int .u8 (cc.toNat : Int))) (first | exact ⟨by with_reducible assumption, by with_reducible assumption⟩ | exact ⟨(cell_far hgx).trans z0, (cell_far hgw').trans y1⟩ | go_keep) ((go_at_call 51; (with_reducible refine (HBQ.out _).mono ?_); rintro e w' ⟨rfl, rfl⟩))
            all_goals (go_wp2_with fail)
            all_goals go_roundw
            case rel => exact ⟨k + 1, by go_num, by omega, HO2.out, HK2'.out, HL2'.out⟩
            case measure => simp [intOf]; omega
          · obtain rfl : k = N := by omega
            rw [List.take_of_length_le (by rw [HN.out]; exact Nat.le_refl _)] at ho hpl
            have HDX := Lib.hid hpl
            obtain ⟨mz, hmz⟩ : ∃ y, max X.size (o + k) = y := ⟨_, rfl⟩
            have HMZ : Hid ((if (X.size : Int) < (o : Int) + (k : Int) then (o : Int) + (k : Int) else (X.size : Int)) = (mz : Int)) := by show _ = _; rw [← hmz]; split <;> omega
            have hmz3 : mz < 65536 := by have := HXS2.out; omega
            rw [hmz] at HF
            have hk9 : Bk (wl.setCell ⟨bx, 1, none⟩ (.int .i64 (mz : Int))) bx 45 (ic ⟨X.kind, mz, X.bl⟩) := hkb.set 1 (.int .i64 (mz : Int))
            have hs9 : Sl eb (wl.setCell ⟨bx, 1, none⟩ (.int .i64 (mz : Int))) (.slice (some ⟨g, 0, none⟩) 12288 c) (Nd.pour X D o s) := own_sl0 (own_keep ho (fun j hj => by
              have e : g = j := by simpa [Value.ownBlock] using hj
              subst e
              rw [Below.heap_setCell _ _ _ _ (by simp; omega)])) HDX.out
            have hl9 : Below w.heap.size w (wl.setCell ⟨bx, 1, none⟩ (.int .i64 (mz : Int))) := hl.setCell (by simp; exact HB1.out) _
            have z1 : wl.cell? ⟨bx, 1, none⟩ = some (.int .i64 (X.size : Int)) := hkb.cell 1
            have y1 := hkb.frozen 1
            have HYL : Hid ((⟨X.kind, mz, X.bl⟩ : Nd.Ino).bl.length = 12) := HXL2.out
            have HPT := Lib.hid (rput_w hs9 HDX.out m hm32 ⟨X.kind, mz, X.bl⟩ HYL.out hmz3)
            have HPL : Hid ((Nd.putI (Nd.pour X D o s) m ⟨X.kind, mz, X.bl⟩).length = 12288) := by
              show _ = _
              unfold Nd.putI
              rw [Nd.put_len (by rw [Nd.enc_len16 HYL.out, HDX.out]; unfold Nd.at_; omega), HDX.out]
            have HK9 := Lib.hid hk9
            have HL9 := Lib.hid hl9
            clear hk9 hs9 hl9 ho hkb hl hpl hk hlt hmz
            generalize (⟨X.kind, mz, X.bl⟩ : Nd.Ino) = Y at *
            go_upto_region 27 with fail
            rw [HMZ.out]
            generalize wl.setCell ⟨bx, 1, none⟩ (.int .i64 (mz : Int)) = w9 at *
            go_wp2_with (first
              | (refine wpList_load_ino rfl 45 _ rfl bx rfl 45 Y HYL.out HK9.out _ Try.underlying45 rfl Try.sizeRI ?_; unfold iv)
              | (go_at_call 58; (with_reducible refine HPT.out.mono ?_); rintro e w10 ⟨v10, rfl, ho10, hb10⟩; have hs10 := own_sl0 ho10 HPL.out))
            go_ret2
            rw [HF.out]
            exact ⟨_, rfl, hs10, stepAny HL9.out hb10⟩
end Go.Proofs.Ytbklmpekpcneeaa
namespace Nd
theorem blank_bits : bits blank = List.replicate 12 0 := ext_g (by rw [bits_len blank_len]; rfl) fun i hi => by
  rw [bits_len blank_len] at hi
  rw [g_bits hi, blank_g, if_neg (by omega), if_neg (by omega), g_rep]
def fmtTo (k : Nat) : List UInt8 := Ex.puts (List.replicate 12 0) (List.range k) true
theorem fmtTo_len (k : Nat) : (fmtTo k).length = 12 := by unfold fmtTo; rw [Ex.length_puts]; rfl
theorem fmtTo_step (k : Nat) : Ex.putB (fmtTo k) k true = fmtTo (k + 1) := by unfold fmtTo; rw [List.range_succ, Ex.puts_snoc]
theorem fmtTo_all : fmtTo 19 = bits0 := rfl
theorem format_put : format = putI (putB blank (fmtTo 19)) 0 rootI := rfl
end Nd
namespace Go.Proofs.Ytbklmpekpcneeaa
open Go.RowKit
set_option maxRecDepth 100000

set_option maxHeartbeats 8000000 in
theorem rformat_w (w : World) : Calls Try.prog 24 #[] w fun e w' => ∃ g c, e = .returned (.slice (some ⟨g, 0, none⟩) 12288 c) ∧ w'.ownsRow w.heap.size 5 1 (.slice (some ⟨g, 0, none⟩) 12288 c) 12288 (Nd.format.map eb) ∧ Below w.heap.size w w' := by
  obtain ⟨i0, hi0, hz0, hz1, hz2⟩ := info_parts Try.info5
  have hm1 : (Instr.makeSlice 25 (.int .i64 12288) (.int .i64 12288)).run Try.prog w = .ok (.slice (some ⟨w.heap.size, 0, none⟩) 12288 12288) (w.alloc (.cells ((List.replicate 12288 (0 : UInt8)).map eb).toArray 5 (0, 0))) := by
    have h := run_make (P := Try.prog) w 25 5 i0 (.int .u8 0) Try.underlying25 hi0 hz0 .i64 .i64 12288 12288 (by decide) (by decide) (by rw [hz2]; decide) (by decide)
    rw [hz1] at h
    rw [show (List.replicate 12288 (0 : UInt8)).map eb = List.replicate 12288 (.int .u8 0) by rw [List.map_replicate]; rfl, ← toList_made]
    exact h
  have hszu : (Try.prog.info? 5).map (·.size) = some 1 := by kernel_rfl
  have hlen : ((List.replicate 12288 (0 : UInt8)).map eb).length = 12288 := by rw [List.length_map, List.length_replicate]
  have hk0 : Bk (w.alloc (.cells ((List.replicate 12288 (0 : UInt8)).map eb).toArray 5 (0, 0))) w.heap.size 5 ((List.replicate 12288 (0 : UInt8)).map eb) := Bk.new w _ _
  have hsp : splice ((List.replicate 12288 (0 : UInt8)).map eb) 0 (([82, 70, 83, 49] : List UInt8).map eb) = (Jr.put (List.replicate 12288 0) 0 [82, 70, 83, 49]).map eb := by
    unfold splice Jr.put
    simp only [List.map_append, List.map_take, List.map_drop, List.length_map, List.append_assoc]
  have hl0 : Below w.heap.size w (w.alloc (.cells ((List.replicate 12288 (0 : UInt8)).map eb).toArray 5 (0, 0))) := low_alloc _ _
  have hsz0 : (w.alloc (.cells ((List.replicate 12288 (0 : UInt8)).map eb).toArray 5 (0, 0))).heap.size = w.heap.size + 1 := by simp
  generalize (List.replicate 12288 (0 : UInt8)).map eb = ZL at *
  generalize hA : ZL.toArray = ZA at *
  have HBL1 := Lib.hid Nd.blank_len1
  have HIDL := Lib.hid Nd.idle_len
  have HBL : Hid (Jr.put (Jr.put (List.replicate 12288 0) 0 [82, 70, 83, 49]) 128 (Jr.idle 0) = Nd.blank) := rfl
  generalize Jr.put (List.replicate 12288 0) 0 [82, 70, 83, 49] = D1 at *
  have HE : Hid (∀ W, Calls Try.prog 57 #[.int .i64 0] W fun e w' => ∃ a c, e = .returned (.tuple #[.slice a 128 c, .int .i64 0]) ∧ Sl eb w' (.slice a 128 c) (Jr.idle 0) ∧ Below W.heap.size W w') := fun W => (rempty_w 0 (by decide) (by decide) W).mono fun e w' h => by
    obtain ⟨v, rfl, ho, hb⟩ := h
    have e : Jr.empty 0 = (Jr.idle 0, 0) := if_neg (by decide)
    rw [e] at ho ⊢
    have hs := own_sl0 ho rfl
    obtain ⟨a, c, rfl, -⟩ := id hs
    simp only [HIDL.out] at hs ⊢
    exact ⟨a, c, rfl, hs, hb⟩
  have HSP := Lib.hid hsp
  have HLEN := Lib.hid hlen
  have HK0 := Lib.hid hk0
  have HL0 := Lib.hid hl0
  have HSZ0 := Lib.hid hsz0
  clear hA hlen hk0 hsp hl0 hsz0
  go_enter Try.func24, Try.ntmps24
  go_upto_region 3 with (refine wpList_copy_str rfl (.tmp 8) (.const (.string ⟨#[82, 70, 83, 49]⟩)) 25 9 rfl 5 Try.underlying25 hszu w.heap.size 0 12288 12288 _ [82, 70, 83, 49] rfl rfl rfl ZL 5 HK0.out (by simp) (by rw [HLEN.out]; simp) ?_; intro w1 hk1 hg1)
  rw [HSP.out] at hk1
  have hl1 : Below w.heap.size w w1 := HL0.out.trans (below_of_grown hg1 (Nat.le_refl _) (by have := HSZ0.out; omega))
  have ho1 : w1.ownsRow w.heap.size 5 1 (.slice (some ⟨w.heap.size, 0, none⟩) 12288 12288) 12288 (D1.map eb) := by
    have h := bk_own (base := w.heap.size) (n := 12288) (cap := 12288) (Nat.le_refl _) (Nat.le_refl _) (by decide) hk1 (by rw [List.length_map]; exact HBL1.out)
    rw [List.take_of_length_le (by rw [List.length_map, HBL1.out]; exact Nat.le_refl _)] at h
    exact h
  have HO1 := Lib.hid ho1
  have HL1 := Lib.hid hl1
  have HBK : Hid (∀ W, Calls Try.prog 51 #[.slice (some ⟨w.heap.size, 0, none⟩) 12288 12288, .int .i64 1] W fun e w' => e = .returned (.slice (some ⟨w.heap.size, 128, none⟩) 128 12160) ∧ W = w') := fun W => rblock0_w w.heap.size 12288 1 (by decide) (Nat.le_refl _) (by decide) W
  clear hk1 hg1 ho1 hl1 HK0 HL0 HSZ0 HSP HLEN hm1
  go_upto_region 5 with (first
    | (go_at_call 57; (with_reducible refine (HE.out _).mono ?_); rintro e w2 ⟨a2, c2, rfl, hs2, hb2⟩; have ho2 := own_keep HO1.out (fun j hj => hb2.block j (by have e : w.heap.size = j := (by simpa [Value.ownBlock] using hj); have := (HO1.out.lt w.heap.size rfl).2; omega)))
    | (go_at_call 51; (with_reducible refine (HBK.out _).mono ?_); rintro e w' ⟨rfl, rfl⟩)
    | (refine wpList_copy_own8 rfl (.tmp 15) (.tmp 16) 25 25 rfl 5 Try.underlying25 hszu w.heap.size w.heap.size 12288 12288 D1 ho2 128 128 12160 rfl (by omega) (.slice a2 128 c2) (Jr.idle 0) rfl hs2 ?_; intro w3 ho3 hg3))
  rw [List.take_of_length_le (by rw [HIDL.out]; exact Nat.le_refl _), HBL.out] at ho3
  have hl3 : Below w.heap.size w w3 := (stepAny HL1.out hb2).trans (below_of_grown hg3 (Nat.le_refl _) (stepAny HL1.out hb2).size)
  have HO3 := Lib.hid ho3
  have HL3 := Lib.hid hl3
  have HS3 := Lib.hid (own_sl0 ho3 Nd.blank_len)
  have hlt3 := (ho3.lt w.heap.size rfl).2
  clear ho2 hs2 hb2 ho3 hg3 hl3 HO1 HL1 HE HBK
  have HBM : Hid (Calls Try.prog 49 #[.slice (some ⟨w.heap.size, 0, none⟩) 12288 12288] w3 fun e w' => ∃ a c, e = .returned (.slice a 12 c) ∧ Sl eb w' (.slice a 12 c) (Nd.fmtTo 0) ∧ Below w3.heap.size w3 w') := (bitmap_w HS3.out Nd.blank_len).mono fun e w' h => by
    obtain ⟨v', rfl, ho, hb⟩ := h
    rw [Nd.blank_bits] at ho
    have hs := own_sl0 ho rfl
    obtain ⟨a, c, rfl, -⟩ := id hs
    exact ⟨a, c, rfl, hs, hb⟩
  have HSW : Hid (∀ (W : World) (u : Value) (xs : List UInt8) (k : Nat), Sl eb W u xs → xs.length = 12 → k < 96 → Calls Try.prog 52 #[u, .int .i64 (k : Int), .bool true] W fun e w' => ∃ a c, e = .returned (.tuple #[.slice a 12 c, .int .i64 0]) ∧ Sl eb w' (.slice a 12 c) (Ex.putB xs k true) ∧ Below W.heap.size W w') := fun W u xs k hu hl hk => by
    have h := erset_w (k : Int) true hu (by omega) (by omega)
    rw [show Ex.setR xs (k : Int) true = (Ex.putB xs k true, 0) by unfold Ex.setR; rw [if_pos (by omega), Int.toNat_natCast]] at h
    refine h.mono fun e w' h => ?_
    obtain ⟨v', rfl, hs, hb⟩ := h
    obtain ⟨a, c, rfl, -⟩ := id hs
    rw [Ex.length_putB, hl] at hs ⊢
    exact ⟨a, c, rfl, hs, hb⟩
  go_upto_region 6 with (go_at_call 49; (with_reducible refine HBM.out.mono ?_); rintro e w4 ⟨a4, c4, rfl, hs4, hb4⟩)
  have HS4 := Lib.hid hs4
  have HB4 := Lib.hid hb4
  clear hs4 hb4 HBM
  go_wp2_with fail
  go_loopw [4, 5] (fun bv nv wr => ∃ (k : Nat) (a : Option Addr) (c : Nat), bv = .slice a 12 c ∧ nv = .int .i64 k ∧ k ≤ 19 ∧ Sl eb wr (.slice a 12 c) (Nd.fmtTo k) ∧ Below w3.heap.size w3 wr) (fun _ i _ => 19 - (intOf i).toNat)
  case atStart => exact ⟨0, _, _, rfl, rfl, by omega, HS4.out, HB4.out⟩
  case round =>
    clear HS4 HB4
    obtain ⟨k, a, c, rfl, rfl, hk, hs, hb⟩ := hrel
    by_cases hlt : k < 19
    · have HC := Lib.hid (HSW.out wr _ _ k hs (Nd.fmtTo_len k) (by omega))
      have HB := Lib.hid hb
      have f5 : (0 : Int) ≤ (k : Int) := by omega
      have f6 : (k : Int) ≤ 18 := by omega
      clear hs hb
      go_wp2_with (go_at_call 52; (with_reducible refine HC.out.mono ?_); rintro e w5 ⟨a5, c5, rfl, hs5, hb5⟩; rw [Nd.fmtTo_step] at hs5)
      go_roundw
      case rel => exact ⟨k + 1, a5, c5, rfl, by go_num, by omega, hs5, stepAny HB.out hb5⟩
      case measure => simp [intOf]; omega
    · have hk19 : k = 19 := by omega
      have f5 : ¬ (k : Int) ≤ 18 := by omega
      rw [hk19] at hs
      have hkR2 : Bk (wr.alloc (.cells #[.int .i64 2, .int .i64 128, .int .i64 18, .int .i64 0, .int .i64 0, .int .i64 0, .int .i64 0, .int .i64 0, .int .i64 0, .int .i64 0, .int .i64 0, .int .i64 0, .int .i64 0, .int .i64 0] 45 (0, 0))) wr.heap.size 45 [.int .i64 2, .int .i64 128, .int .i64 18, .int .i64 0, .int .i64 0, .int .i64 0, .int .i64 0, .int .i64 0, .int .i64 0, .int .i64 0, .int .i64 0, .int .i64 0, .int .i64 0, .int .i64 0] := Bk.new wr _ [.int .i64 2, .int .i64 128, .int .i64 18, .int .i64 0, .int .i64 0, .int .i64 0, .int .i64 0, .int .i64 0, .int .i64 0, .int .i64 0, .int .i64 0, .int .i64 0, .int .i64 0, .int .i64 0]
      have hbR : Below wr.heap.size wr (wr.alloc (.cells #[.int .i64 2, .int .i64 128, .int .i64 18, .int .i64 0, .int .i64 0, .int .i64 0, .int .i64 0, .int .i64 0, .int .i64 0, .int .i64 0, .int .i64 0, .int .i64 0, .int .i64 0, .int .i64 0] 45 (0, 0))) := low_alloc wr _
      have HKR := Lib.hid hkR2
      have HBR := Lib.hid hbR
      have HS := Lib.hid hs
      have HB := Lib.hid hb
      clear hs hb hkR2 hbR hlt hk hk19
      go_upto_region 12 with fail
      generalize wr.alloc (.cells #[.int .i64 2, .int .i64 128, .int .i64 18, .int .i64 0, .int .i64 0, .int .i64 0, .int .i64 0, .int .i64 0, .int .i64 0, .int .i64 0, .int .i64 0, .int .i64 0, .int .i64 0, .int .i64 0] 45 (0, 0)) = W5 at *
      obtain ⟨br, hbr⟩ : ∃ y, y = wr.heap.size := ⟨_, rfl⟩
      have hkr := HKR.out
      rw [← hbr] at hkr ⊢
      have hs5 := HS.out.below HBR.out (Nat.le_refl _)
      have hb5 := stepAny HB.out HBR.out
      have hd5 := HS3.out.below hb5 (Nat.le_refl _)
      have hl5 := stepAny HL3.out hb5
      clear hbr HKR HBR HS HB
      have HWB : Hid (∀ W, Below W5.heap.size W5 W → Calls Try.prog 59 #[.slice (some ⟨w.heap.size, 0, none⟩) 12288 12288, .slice a 12 c] W fun e w' => ∃ g c, e = .returned (.slice (some ⟨g, 0, none⟩) 12288 c) ∧ Sl eb w' (.slice (some ⟨g, 0, none⟩) 12288 c) (Nd.putB Nd.blank (Nd.fmtTo 19)) ∧ Below W.heap.size W w') := fun W hW => (withBitmap_w (hd5.below hW (Nat.le_refl _)) Nd.blank_len (hs5.below hW (Nat.le_refl _)) (by rw [Nd.fmtTo_len]; decide)).mono fun e w' h => by
        obtain ⟨v', rfl, ho, hb⟩ := h
        obtain ⟨g, c, rfl⟩ := own_form ho (by omega)
        exact ⟨g, c, rfl, own_sl0 ho (Nd.putB_len Nd.blank_len (Nd.fmtTo_len 19)), hb⟩
      have HPT : Hid (∀ W g c, Sl eb W (.slice (some ⟨g, 0, none⟩) 12288 c) (Nd.putB Nd.blank (Nd.fmtTo 19)) → Calls Try.prog 58 #[.slice (some ⟨g, 0, none⟩) 12288 c, .int .i64 0, .agg #[.int .i64 2, .int .i64 128, .int .i64 18, .int .i64 0, .int .i64 0, .int .i64 0, .int .i64 0, .int .i64 0, .int .i64 0, .int .i64 0, .int .i64 0, .int .i64 0, .int .i64 0, .int .i64 0]] W fun e w' => ∃ g c, e = .returned (.slice (some ⟨g, 0, none⟩) 12288 c) ∧ w'.ownsRow W.heap.size 5 1 (.slice (some ⟨g, 0, none⟩) 12288 c) 12288 (Nd.format.map eb) ∧ Below W.heap.size W w') := fun W g c h => (show Calls Try.prog 58 #[.slice (some ⟨g, 0, none⟩) 12288 c, .int .i64 0, .agg #[.int .i64 2, .int .i64 128, .int .i64 18, .int .i64 0, .int .i64 0, .int .i64 0, .int .i64 0, .int .i64 0, .int .i64 0, .int .i64 0, .int .i64 0, .int .i64 0, .int .i64 0, .int .i64 0]] W _ from rput_w h (Nd.putB_len Nd.blank_len (Nd.fmtTo_len 19)) 0 (by decide) Nd.rootI rfl (by decide)).mono fun e w' h => by
        obtain ⟨v', rfl, ho, hb⟩ := h
        obtain ⟨g, c, rfl⟩ := own_form ho (by omega)
        rw [Nd.format_put]
        exact ⟨g, c, rfl, ho, hb⟩
      have HQ : Hid (∀ W, Below W5.heap.size W5 W → W.cell? ⟨br, 0, none⟩ = some (.int .i64 2) ∧ W.cell? ⟨br, 1, none⟩ = some (.int .i64 128) ∧ W.cell? ⟨br, 2, none⟩ = some (.int .i64 18) ∧ W.cell? ⟨br, 3, none⟩ = some (.int .i64 0) ∧ W.cell? ⟨br, 4, none⟩ = some (.int .i64 0) ∧ W.cell? ⟨br, 5, none⟩ = some (.int .i64 0) ∧ W.cell? ⟨br, 6, none⟩ = some (.int .i64 0) ∧ W.cell? ⟨br, 7, none⟩ = some (.int .i64 0) ∧ W.cell? ⟨br, 8, none⟩ = some (.int .i64 0) ∧ W.cell? ⟨br, 9, none⟩ = some (.int .i64 0) ∧ W.cell? ⟨br, 10, none⟩ = some (.int .i64 0) ∧ W.cell? ⟨br, 11, none⟩ = some (.int .i64 0) ∧ W.cell? ⟨br, 12, none⟩ = some (.int .i64 0) ∧ W.cell? ⟨br, 13, none⟩ = some (.int .i64 0)) := fun W hW => by
        have h := hkr.below hW hkr.lt
        exact ⟨h.cell 0, h.cell 1, h.cell 2, h.cell 3, h.cell 4, h.cell 5, h.cell 6, h.cell 7, h.cell 8, h.cell 9, h.cell 10, h.cell 11, h.cell 12, h.cell 13⟩
      have HL5 := Lib.hid hl5
      clear hkr hs5 hb5 hd5 hl5
      have hl0 := low_drew W5
      go_region_held3 (fun w' => w'.cell? ⟨br, 0, none⟩ = some (.int .i64 2) ∧ w'.cell? ⟨br, 1, none⟩ = some (.int .i64 128) ∧ w'.cell? ⟨br, 2, none⟩ = some (.int .i64 18) ∧ w'.cell? ⟨br, 3, none⟩ = some (.int .i64 0) ∧ w'.cell? ⟨br, 4, none⟩ = some (.int .i64 0) ∧ w'.cell? ⟨br, 5, none⟩ = some (.int .i64 0) ∧ w'.cell? ⟨br, 6, none⟩ = some (.int .i64 0) ∧ w'.cell? ⟨br, 7, none⟩ = some (.int .i64 0) ∧ w'.cell? ⟨br, 8, none⟩ = some (.int .i64 0) ∧ w'.cell? ⟨br, 9, none⟩ = some (.int .i64 0) ∧ w'.cell? ⟨br, 10, none⟩ = some (.int .i64 0) ∧ w'.cell? ⟨br, 11, none⟩ = some (.int .i64 0) ∧ w'.cell? ⟨br, 12, none⟩ = some (.int .i64 0) ∧ w'.cell? ⟨br, 13, none⟩ = some (.int .i64 0)) (first | with_reducible exact HQ.out _ (by with_reducible assumption) | go_keep) ((first
        | (go_at_call 59; (with_reducible refine (HWB.out _ (by with_reducible assumption)).mono ?_); rintro e w6 ⟨g6, c6, rfl, hs6, hb6⟩; have hl6 := stepAny (by with_reducible assumption) hb6)
        | (go_at_call 58; (with_reducible refine (HPT.out _ _ _ hs6).mono ?_); rintro e w7 ⟨g7, c7, rfl, ho7, hb7⟩; have hl7 := stepAny (by with_reducible assumption) hb7)))
      all_goals (go_wp2_with fail)
      all_goals go_ret
      all_goals exact ⟨g7, c7, rfl, own_base ho7 (stepAny HL5.out hl6).size, stepAny HL5.out hl7⟩
end Go.Proofs.Ytbklmpekpcneeaa
set_option linter.unusedVariables false
namespace Nd
theorem few_bad {l : List Op} {k : Nat} (hk : k < l.length) (h : 1600 < l[k].2.2.2.length) : few l = false := by
  unfold few
  rw [Bool.and_eq_false_iff]
  left
  rw [decide_eq_false_iff_not]
  intro hh
  have := hh _ (List.getElem_mem hk)
  omega
theorem few_ok {l : List Op} (h : ∀ k (hk : k < l.length), l[k].2.2.2.length ≤ 1600) : few l = decide (l.length ≤ 30) := by
  unfold few
  rw [decide_eq_true (fun x hx => by obtain ⟨k, hk, rfl⟩ := List.getElem_of_mem hx; exact h k hk), Bool.true_and]
/-- The disk behind k operations. -/
def dk (l : List Op) (k : Nat) : List UInt8 := (l.take k).foldl doOp format
theorem dk_ok (l : List Op) {k : Nat} (hk : k ≤ 30) : Ok (dk l k) := by
  have h := disk_ok (l.take k)
  unfold disk at h
  rw [List.take_take, Nat.min_eq_right hk] at h
  exact h
theorem dk_step (l : List Op) {k : Nat} (hk : k < l.length) : doOp (dk l k) l[k] = dk l (k + 1) := by
  unfold dk
  rw [List.take_succ_eq_append_getElem hk, List.foldl_append]
  rfl
theorem dk_zero (l : List Op) : dk l 0 = format := rfl
theorem dk_all {l : List Op} {k : Nat} (h : k = l.length ∨ k = 30) (h1 : k ≤ l.length) (h2 : k ≤ 30) : dk l k = disk l := by
  unfold dk disk
  rcases h with h | h
  · rw [List.take_of_length_le (by omega), List.take_of_length_le (by omega)]
  · rw [h]
end Nd
namespace Go.Proofs.Ytbklmpekpcneeaa
open Go.RowKit
set_option maxRecDepth 100000

/-- The cells of an operation. -/
abbrev Eo := Int × Int × Int × Option Addr × Nat × Nat
def eo (e : Eo) : List Value := [.int .i64 e.1, .int .i64 e.2.1, .int .i64 e.2.2.1, .slice e.2.2.2.1 e.2.2.2.2.1 e.2.2.2.2.2]
theorem eo_len (e : Eo) : (eo e).length = 4 := rfl
def OpR (w : World) (e : Eo) (x : Nd.Op) : Prop := e.1 = x.1 ∧ e.2.1 = x.2.1 ∧ e.2.2.1 = x.2.2.1 ∧ Sl eb w (.slice e.2.2.2.1 e.2.2.2.2.1 e.2.2.2.2.2) x.2.2.2
/-- v is a slice of operations that reads as l. -/
def Oq (w : World) (v : Value) (l : List Nd.Op) : Prop := ∃ es, Sm 4 eo w v es ∧ es.length = l.length ∧ ∀ i (h : i < es.length) (h' : i < l.length), OpR w es[i] l[i]
structure At4 (w : World) (b o : Nat) (x : Nd.Op) (v : Value) : Prop where
  c0 : w.cell? ⟨b, o, none⟩ = some (.int .i64 x.1)
  c1 : w.cell? ⟨b, o + 1, none⟩ = some (.int .i64 x.2.1)
  c2 : w.cell? ⟨b, o + 2, none⟩ = some (.int .i64 x.2.2.1)
  c3 : w.cell? ⟨b, o + 3, none⟩ = some v
theorem At4.below {w w' : World} {B b o : Nat} {x : Nd.Op} {v : Value} (h : At4 w b o x v) (hb : Below B w w') (hB : b < B) : At4 w' b o x v :=
  ⟨by rw [hb.cell (p := ⟨b, o, none⟩) hB]; exact h.c0, by rw [hb.cell (p := ⟨b, o + 1, none⟩) hB]; exact h.c1, by rw [hb.cell (p := ⟨b, o + 2, none⟩) hB]; exact h.c2, by rw [hb.cell (p := ⟨b, o + 3, none⟩) hB]; exact h.c3⟩
theorem Oq.below {w w' : World} {v : Value} {l : List Nd.Op} {B : Nat} (h : Oq w v l) (hb : Below B w w') (hB : w.heap.size ≤ B) : Oq w' v l := by
  obtain ⟨es, h1, h2, h3⟩ := h
  exact ⟨es, h1.below hb hB, h2, fun i a b => ⟨(h3 i a b).1, (h3 i a b).2.1, (h3 i a b).2.2.1, (h3 i a b).2.2.2.below hb hB⟩⟩
theorem Oq.open {w : World} {v : Value} {l : List Nd.Op} (h : Oq w v l) : ∃ a cap, v = .slice a l.length cap ∧ l.length ≤ cap ∧ cap ≤ maxLen ∧ (a = none → cap = 0) ∧
    ∀ i (hi : i < l.length), ∃ b off a' c', a = some ⟨b, off, none⟩ ∧ b < w.heap.size ∧ At4 w b (off + i * 4) l[i] (.slice a' l[i].2.2.2.length c') ∧ Sl eb w (.slice a' l[i].2.2.2.length c') l[i].2.2.2 := by
  obtain ⟨es, ⟨a, cap, h1, h2, h3, h4, h5⟩, hl, he⟩ := h
  refine ⟨a, cap, by rw [← hl]; exact h1, by omega, h3, h4, fun i hi => ?_⟩
  obtain ⟨b, off, ha, hlt, hc⟩ := h5 i (by omega)
  obtain ⟨e1, e2, e3, e4⟩ := he i (by omega) hi
  generalize es[i]'(by omega) = e at *
  obtain ⟨k, n, o, a', m, c⟩ := e
  simp only at e1 e2 e3 e4
  obtain ⟨a2, c2, q, -⟩ := id e4
  injection q with q1 q2 q3
  subst q1 q2 q3
  refine ⟨b, off, _, _, ha, hlt, ⟨?_, ?_, ?_, hc 3 (by decide)⟩, e4⟩
  · rw [← e1]; exact hc 0 (by decide)
  · rw [← e2]; exact hc 1 (by decide)
  · rw [← e3]; exact hc 2 (by decide)

set_option maxHeartbeats 4000000 in
theorem rfew_w {v : Value} {l : List Nd.Op} {w : World} (hv : Oq w v l) : Calls Try.prog 12 #[v] w fun e w' => e = .returned (.bool (Nd.few l)) ∧ w = w' := by
  obtain ⟨a, cap, rfl, hc, hm, -, hop⟩ := hv.open
  have HOP := Lib.hid hop
  have HB := Lib.hid (fun k hk h => Nd.few_bad (l := l) (k := k) hk h)
  have HY := Lib.hid (fun h => Nd.few_ok (l := l) h)
  unfold maxLen at hm
  clear hop hv
  go_enter Try.func12, Try.ntmps12
  go_wp2_with fail
  go_loopw [3] (fun i wr => ∃ k : Nat, i = .int .i64 k ∧ k ≤ l.length ∧ wr = w ∧ Hid (∀ j (h : j < l.length), j < k → l[j].2.2.2.length ≤ 1600)) (fun i _ => l.length - (intOf i).toNat)
  case atStart => exact ⟨0, rfl, Nat.zero_le _, rfl, fun j _ h => absurd h (Nat.not_lt_zero _)⟩
  case round =>
    obtain ⟨k, rfl, hk, rfl, HZ⟩ := hrel
    by_cases hlt : k < l.length
    · obtain ⟨b, off, a', c', rfl, hb, hat, -⟩ := HOP.out k hlt
      have z3 := hat.c3
      have f1 : (0 : Int) ≤ (k : Int) := by omega
      have f2 : (k : Int) < (l.length : Int) := by omega
      have HB2 := Lib.hid (HB.out k hlt)
      have HZ2 : Hid (l[k].2.2.2.length ≤ 1600 → ∀ j (h : j < l.length), j < k + 1 → l[j].2.2.2.length ≤ 1600) := fun e j h hj => by
        by_cases e2 : j = k
        · subst e2; exact e
        · exact HZ.out j h (by omega)
      generalize l[k].2.2.2.length = q at *
      clear hat
      by_cases hx : 1600 < q
      · have HR := Lib.hid (HB2.out hx)
        have f3 : (1600 : Int) < (q : Int) := by omega
        clear hx
        go_wp2_with fail
        go_ret
        exact ⟨ret_bool HR.out.symm, rfl⟩
      · have HZ3 := Lib.hid (HZ2.out (by omega))
        have f3 : ¬ (1600 : Int) < (q : Int) := by omega
        clear hx
        go_wp2_with fail
        go_roundw
        case rel => exact ⟨k + 1, by go_num, by omega, by first | rfl | trivial, HZ3.out⟩
        case measure => simp [intOf]; omega
    · have HY2 := Lib.hid (HY.out fun j h => HZ.out j h (by omega))
      by_cases h30 : l.length ≤ 30
      · rw [decide_eq_true h30] at HY2
        have f4 : (l.length : Int) ≤ 30 := by omega
        go_wp2_with fail
        go_ret
        exact ⟨ret_bool HY2.out.symm, rfl⟩
      · rw [decide_eq_false h30] at HY2
        have f4 : ¬ (l.length : Int) ≤ 30 := by omega
        go_wp2_with fail
        go_ret
        exact ⟨ret_bool HY2.out.symm, rfl⟩

theorem rdo0_w {v : Value} {d s : List UInt8} {w : World} (hv : Sl eb w v d) (hd : d.length = 12288) (n o : Int) {ax : Option Addr} {cx : Nat} (hs : Sl eb w (.slice ax s.length cx) s) (hsl : s.length ≤ 100000) : Calls Try.prog 31 #[v, .agg #[.int .i64 0, .int .i64 n, .int .i64 o, .slice ax s.length cx]] w fun e w' => ∃ v', e = .returned v' ∧ Sl eb w' v' (Nd.doOp d (0, n, o, s)) ∧ Below w.heap.size w w' := by
  have HV := Lib.hid hv
  have hst : Nd.step d (0, n, o, s) = (Nd.alloc d n).2 := by unfold Nd.step; simp
  obtain ⟨D, ec, hde⟩ : ∃ D ec, (Nd.alloc d n).2 = (D, ec) := ⟨_, _, rfl⟩
  have hdo : Nd.doOp d (0, n, o, s) = if ec = 0 then D else d := by unfold Nd.doOp; rw [hst, hde]
  obtain ⟨W1, hW1⟩ : ∃ W, W = w.alloc (.cells #[.int .i64 0, .int .i64 n, .int .i64 o, .slice ax s.length cx] 55 (0, 0)) := ⟨_, rfl⟩
  have hl1 : Below w.heap.size w W1 := by rw [hW1]; exact low_alloc _ _
  have hk1 : Bk W1 w.heap.size 55 [.int .i64 0, .int .i64 n, .int .i64 o, .slice ax s.length cx] := by rw [hW1]; exact Bk.new w _ [.int .i64 0, .int .i64 n, .int .i64 o, .slice ax s.length cx]
  have HW1 := Lib.hid hW1
  have HL1 := Lib.hid hl1
  obtain ⟨z0, z1, z2, z3⟩ : W1.cell? ⟨w.heap.size, 0, none⟩ = some (.int .i64 0) ∧ W1.cell? ⟨w.heap.size, 1, none⟩ = some (.int .i64 n) ∧ W1.cell? ⟨w.heap.size, 2, none⟩ = some (.int .i64 o) ∧ W1.cell? ⟨w.heap.size, 3, none⟩ = some (.slice ax s.length cx) := ⟨hk1.cell 0, hk1.cell 1, hk1.cell 2, hk1.cell 3⟩
  have HC : Hid (Calls Try.prog 35 #[v, .int .i64 n] W1 fun e w' => ∃ r0 v', e = .returned (.tuple #[.int .i64 r0, v', .int .i64 ec]) ∧ Sl eb w' v' D ∧ Below W1.heap.size W1 w') := (ralloc_w (hv.below hl1 (Nat.le_refl _)) hd n).mono fun e w' h => by
    obtain ⟨v', rfl, hs', hb⟩ := h
    have h1 := congrArg Prod.fst hde
    have h2 := congrArg Prod.snd hde
    simp only at h1 h2
    rw [h1] at hs'
    exact ⟨_, v', by rw [h2], hs', hb⟩
  have HDO := Lib.hid hdo
  clear hv hW1 hl1 hk1 hst hde hdo hs
  by_cases hec : ec = 0
  · subst hec
    rw [if_pos rfl] at HDO
    go_enter Try.func31, Try.ntmps31
    go_upto_region 1 with fail
    rw [← HW1.out]
    go_wp2_with (go_at_call 35; (with_reducible refine HC.out.mono ?_); rintro e w4 ⟨r0, v4, rfl, hs4, hb4⟩)
    go_ret
    rw [HDO.out]
    exact ⟨_, rfl, hs4, stepAny HL1.out hb4⟩
  · rw [if_neg hec] at HDO
    have f1 : (ec != 0) = true := by rw [bne_iff_ne]; exact hec
    clear hec
    go_enter Try.func31, Try.ntmps31
    go_upto_region 1 with fail
    rw [← HW1.out]
    go_wp2_with (go_at_call 35; (with_reducible refine HC.out.mono ?_); rintro e w4 ⟨r0, v4, rfl, hs4, hb4⟩)
    go_ret
    rw [HDO.out]
    exact ⟨_, rfl, HV.out.below (stepAny HL1.out hb4) (Nat.le_refl _), stepAny HL1.out hb4⟩

theorem rdo1_w {v : Value} {d s : List UInt8} {w : World} (hv : Sl eb w v d) (hd : d.length = 12288) (n o : Int) {ax : Option Addr} {cx : Nat} (hs : Sl eb w (.slice ax s.length cx) s) (hsl : s.length ≤ 100000) : Calls Try.prog 31 #[v, .agg #[.int .i64 1, .int .i64 n, .int .i64 o, .slice ax s.length cx]] w fun e w' => ∃ v', e = .returned v' ∧ Sl eb w' v' (Nd.doOp d (1, n, o, s)) ∧ Below w.heap.size w w' := by
  have HV := Lib.hid hv
  have hst : Nd.step d (1, n, o, s) = Nd.freeN d n := by unfold Nd.step; simp
  obtain ⟨D, ec, hde⟩ : ∃ D ec, Nd.freeN d n = (D, ec) := ⟨_, _, rfl⟩
  have hdo : Nd.doOp d (1, n, o, s) = if ec = 0 then D else d := by unfold Nd.doOp; rw [hst, hde]
  obtain ⟨W1, hW1⟩ : ∃ W, W = w.alloc (.cells #[.int .i64 1, .int .i64 n, .int .i64 o, .slice ax s.length cx] 55 (0, 0)) := ⟨_, rfl⟩
  have hl1 : Below w.heap.size w W1 := by rw [hW1]; exact low_alloc _ _
  have hk1 : Bk W1 w.heap.size 55 [.int .i64 1, .int .i64 n, .int .i64 o, .slice ax s.length cx] := by rw [hW1]; exact Bk.new w _ [.int .i64 1, .int .i64 n, .int .i64 o, .slice ax s.length cx]
  have HW1 := Lib.hid hW1
  have HL1 := Lib.hid hl1
  obtain ⟨z0, z1, z2, z3⟩ : W1.cell? ⟨w.heap.size, 0, none⟩ = some (.int .i64 1) ∧ W1.cell? ⟨w.heap.size, 1, none⟩ = some (.int .i64 n) ∧ W1.cell? ⟨w.heap.size, 2, none⟩ = some (.int .i64 o) ∧ W1.cell? ⟨w.heap.size, 3, none⟩ = some (.slice ax s.length cx) := ⟨hk1.cell 0, hk1.cell 1, hk1.cell 2, hk1.cell 3⟩
  have HC : Hid (Calls Try.prog 37 #[v, .int .i64 n] W1 fun e w' => ∃ v', e = .returned (.tuple #[v', .int .i64 ec]) ∧ Sl eb w' v' D ∧ Below W1.heap.size W1 w') := (rfree_w (hv.below hl1 (Nat.le_refl _)) hd n).mono fun e w' h => by
    obtain ⟨v', rfl, hs', hb⟩ := h
    have h1 := congrArg Prod.fst hde
    have h2 := congrArg Prod.snd hde
    simp only at h1 h2
    rw [h1] at hs'
    exact ⟨v', by rw [h2], hs', hb⟩
  have HDO := Lib.hid hdo
  clear hv hW1 hl1 hk1 hst hde hdo hs
  by_cases hec : ec = 0
  · subst hec
    rw [if_pos rfl] at HDO
    go_enter Try.func31, Try.ntmps31
    go_upto_region 1 with fail
    rw [← HW1.out]
    go_wp2_with (go_at_call 37; (with_reducible refine HC.out.mono ?_); rintro e w4 ⟨v4, rfl, hs4, hb4⟩)
    go_ret
    rw [HDO.out]
    exact ⟨_, rfl, hs4, stepAny HL1.out hb4⟩
  · rw [if_neg hec] at HDO
    have f1 : (ec != 0) = true := by rw [bne_iff_ne]; exact hec
    clear hec
    go_enter Try.func31, Try.ntmps31
    go_upto_region 1 with fail
    rw [← HW1.out]
    go_wp2_with (go_at_call 37; (with_reducible refine HC.out.mono ?_); rintro e w4 ⟨v4, rfl, hs4, hb4⟩)
    go_ret
    rw [HDO.out]
    exact ⟨_, rfl, HV.out.below (stepAny HL1.out hb4) (Nat.le_refl _), stepAny HL1.out hb4⟩

theorem rdo2_w {v : Value} {d s : List UInt8} {w : World} (hv : Sl eb w v d) (hd : d.length = 12288) (n o : Int) {ax : Option Addr} {cx : Nat} (hs : Sl eb w (.slice ax s.length cx) s) (hsl : s.length ≤ 100000) : Calls Try.prog 31 #[v, .agg #[.int .i64 2, .int .i64 n, .int .i64 o, .slice ax s.length cx]] w fun e w' => ∃ v', e = .returned v' ∧ Sl eb w' v' (Nd.doOp d (2, n, o, s)) ∧ Below w.heap.size w w' := by
  have HV := Lib.hid hv
  have hst : Nd.step d (2, n, o, s) = Nd.write d n o s := by unfold Nd.step; simp
  obtain ⟨D, ec, hde⟩ : ∃ D ec, Nd.write d n o s = (D, ec) := ⟨_, _, rfl⟩
  have hdo : Nd.doOp d (2, n, o, s) = if ec = 0 then D else d := by unfold Nd.doOp; rw [hst, hde]
  obtain ⟨W1, hW1⟩ : ∃ W, W = w.alloc (.cells #[.int .i64 2, .int .i64 n, .int .i64 o, .slice ax s.length cx] 55 (0, 0)) := ⟨_, rfl⟩
  have hl1 : Below w.heap.size w W1 := by rw [hW1]; exact low_alloc _ _
  have hk1 : Bk W1 w.heap.size 55 [.int .i64 2, .int .i64 n, .int .i64 o, .slice ax s.length cx] := by rw [hW1]; exact Bk.new w _ [.int .i64 2, .int .i64 n, .int .i64 o, .slice ax s.length cx]
  have HW1 := Lib.hid hW1
  have HL1 := Lib.hid hl1
  obtain ⟨z0, z1, z2, z3⟩ : W1.cell? ⟨w.heap.size, 0, none⟩ = some (.int .i64 2) ∧ W1.cell? ⟨w.heap.size, 1, none⟩ = some (.int .i64 n) ∧ W1.cell? ⟨w.heap.size, 2, none⟩ = some (.int .i64 o) ∧ W1.cell? ⟨w.heap.size, 3, none⟩ = some (.slice ax s.length cx) := ⟨hk1.cell 0, hk1.cell 1, hk1.cell 2, hk1.cell 3⟩
  have HC : Hid (Calls Try.prog 38 #[v, .int .i64 n, .int .i64 o, .slice ax s.length cx] W1 fun e w' => ∃ v', e = .returned (.tuple #[v', .int .i64 ec]) ∧ Sl eb w' v' D ∧ Below W1.heap.size W1 w') := (rwrite_w (hv.below hl1 (Nat.le_refl _)) hd n o (hs.below hl1 (Nat.le_refl _)) hsl).mono fun e w' h => by
    obtain ⟨v', rfl, hs', hb⟩ := h
    have h1 := congrArg Prod.fst hde
    have h2 := congrArg Prod.snd hde
    simp only at h1 h2
    rw [h1] at hs'
    exact ⟨v', by rw [h2], hs', hb⟩
  have HDO := Lib.hid hdo
  clear hv hW1 hl1 hk1 hst hde hdo hs
  by_cases hec : ec = 0
  · subst hec
    rw [if_pos rfl] at HDO
    go_enter Try.func31, Try.ntmps31
    go_upto_region 1 with fail
    rw [← HW1.out]
    go_wp2_with (go_at_call 38; (with_reducible refine HC.out.mono ?_); rintro e w4 ⟨v4, rfl, hs4, hb4⟩)
    go_ret
    rw [HDO.out]
    exact ⟨_, rfl, hs4, stepAny HL1.out hb4⟩
  · rw [if_neg hec] at HDO
    have f1 : (ec != 0) = true := by rw [bne_iff_ne]; exact hec
    clear hec
    go_enter Try.func31, Try.ntmps31
    go_upto_region 1 with fail
    rw [← HW1.out]
    go_wp2_with (go_at_call 38; (with_reducible refine HC.out.mono ?_); rintro e w4 ⟨v4, rfl, hs4, hb4⟩)
    go_ret
    rw [HDO.out]
    exact ⟨_, rfl, HV.out.below (stepAny HL1.out hb4) (Nat.le_refl _), stepAny HL1.out hb4⟩

theorem rdo3_w {v : Value} {d s : List UInt8} {w : World} (hv : Sl eb w v d) (hd : d.length = 12288) (n o : Int) {ax : Option Addr} {cx : Nat} (hs : Sl eb w (.slice ax s.length cx) s) (hsl : s.length ≤ 100000) : Calls Try.prog 31 #[v, .agg #[.int .i64 3, .int .i64 n, .int .i64 o, .slice ax s.length cx]] w fun e w' => ∃ v', e = .returned v' ∧ Sl eb w' v' (Nd.doOp d (3, n, o, s)) ∧ Below w.heap.size w w' := by
  have HV := Lib.hid hv
  have hst : Nd.step d (3, n, o, s) = Nd.truncate d n o := by unfold Nd.step; simp
  obtain ⟨D, ec, hde⟩ : ∃ D ec, Nd.truncate d n o = (D, ec) := ⟨_, _, rfl⟩
  have hdo : Nd.doOp d (3, n, o, s) = if ec = 0 then D else d := by unfold Nd.doOp; rw [hst, hde]
  obtain ⟨W1, hW1⟩ : ∃ W, W = w.alloc (.cells #[.int .i64 3, .int .i64 n, .int .i64 o, .slice ax s.length cx] 55 (0, 0)) := ⟨_, rfl⟩
  have hl1 : Below w.heap.size w W1 := by rw [hW1]; exact low_alloc _ _
  have hk1 : Bk W1 w.heap.size 55 [.int .i64 3, .int .i64 n, .int .i64 o, .slice ax s.length cx] := by rw [hW1]; exact Bk.new w _ [.int .i64 3, .int .i64 n, .int .i64 o, .slice ax s.length cx]
  have HW1 := Lib.hid hW1
  have HL1 := Lib.hid hl1
  obtain ⟨z0, z1, z2, z3⟩ : W1.cell? ⟨w.heap.size, 0, none⟩ = some (.int .i64 3) ∧ W1.cell? ⟨w.heap.size, 1, none⟩ = some (.int .i64 n) ∧ W1.cell? ⟨w.heap.size, 2, none⟩ = some (.int .i64 o) ∧ W1.cell? ⟨w.heap.size, 3, none⟩ = some (.slice ax s.length cx) := ⟨hk1.cell 0, hk1.cell 1, hk1.cell 2, hk1.cell 3⟩
  have HC : Hid (Calls Try.prog 39 #[v, .int .i64 n, .int .i64 o] W1 fun e w' => ∃ v', e = .returned (.tuple #[v', .int .i64 ec]) ∧ Sl eb w' v' D ∧ Below W1.heap.size W1 w') := (rtrunc_w (hv.below hl1 (Nat.le_refl _)) hd n o).mono fun e w' h => by
    obtain ⟨v', rfl, hs', hb⟩ := h
    have h1 := congrArg Prod.fst hde
    have h2 := congrArg Prod.snd hde
    simp only at h1 h2
    rw [h1] at hs'
    exact ⟨v', by rw [h2], hs', hb⟩
  have HDO := Lib.hid hdo
  clear hv hW1 hl1 hk1 hst hde hdo hs
  by_cases hec : ec = 0
  · subst hec
    rw [if_pos rfl] at HDO
    go_enter Try.func31, Try.ntmps31
    go_upto_region 1 with fail
    rw [← HW1.out]
    go_wp2_with (go_at_call 39; (with_reducible refine HC.out.mono ?_); rintro e w4 ⟨v4, rfl, hs4, hb4⟩)
    go_ret
    rw [HDO.out]
    exact ⟨_, rfl, hs4, stepAny HL1.out hb4⟩
  · rw [if_neg hec] at HDO
    have f1 : (ec != 0) = true := by rw [bne_iff_ne]; exact hec
    clear hec
    go_enter Try.func31, Try.ntmps31
    go_upto_region 1 with fail
    rw [← HW1.out]
    go_wp2_with (go_at_call 39; (with_reducible refine HC.out.mono ?_); rintro e w4 ⟨v4, rfl, hs4, hb4⟩)
    go_ret
    rw [HDO.out]
    exact ⟨_, rfl, HV.out.below (stepAny HL1.out hb4) (Nat.le_refl _), stepAny HL1.out hb4⟩

theorem rdo_w {v : Value} {d : List UInt8} {x : Nd.Op} {w : World} (hv : Sl eb w v d) (hd : d.length = 12288) {ax : Option Addr} {cx : Nat} (hs : Sl eb w (.slice ax x.2.2.2.length cx) x.2.2.2) (hsl : x.2.2.2.length ≤ 100000) : Calls Try.prog 31 #[v, .agg #[.int .i64 x.1, .int .i64 x.2.1, .int .i64 x.2.2.1, .slice ax x.2.2.2.length cx]] w fun e w' => ∃ v', e = .returned v' ∧ Sl eb w' v' (Nd.doOp d x) ∧ Below w.heap.size w w' := by
  obtain ⟨k, n, o, s⟩ := x
  simp only at hs hsl ⊢
  by_cases h0 : k = 0
  · subst h0; exact rdo0_w hv hd n o hs hsl
  by_cases h1 : k = 1
  · subst h1; exact rdo1_w hv hd n o hs hsl
  by_cases h2 : k = 2
  · subst h2; exact rdo2_w hv hd n o hs hsl
  by_cases h3 : k = 3
  · subst h3; exact rdo3_w hv hd n o hs hsl
  have hdo : Nd.doOp d (k, n, o, s) = d := by unfold Nd.doOp Nd.step; simp [h0, h1, h2, h3]
  obtain ⟨W1, hW1⟩ : ∃ W, W = w.alloc (.cells #[.int .i64 k, .int .i64 n, .int .i64 o, .slice ax s.length cx] 55 (0, 0)) := ⟨_, rfl⟩
  have hl1 : Below w.heap.size w W1 := by rw [hW1]; exact low_alloc _ _
  have hk1 : Bk W1 w.heap.size 55 [.int .i64 k, .int .i64 n, .int .i64 o, .slice ax s.length cx] := by rw [hW1]; exact Bk.new w _ [.int .i64 k, .int .i64 n, .int .i64 o, .slice ax s.length cx]
  have HW1 := Lib.hid hW1
  have HL1 := Lib.hid hl1
  have z0 : W1.cell? ⟨w.heap.size, 0, none⟩ = some (.int .i64 k) := hk1.cell 0
  have HV := Lib.hid hv
  have HDO := Lib.hid hdo
  have f0 : (k == 0) = false := by simpa using h0
  have f1 : (k == 1) = false := by simpa using h1
  have f2 : (k == 2) = false := by simpa using h2
  have f3 : (k == 3) = false := by simpa using h3
  clear hv hW1 hl1 hk1 hdo hs h0 h1 h2 h3
  go_enter Try.func31, Try.ntmps31
  go_upto_region 1 with fail
  rw [← HW1.out]
  go_wp2_with fail
  go_ret
  rw [HDO.out]
  exact ⟨_, rfl, HV.out.below HL1.out (Nat.le_refl _), HL1.out⟩

set_option maxHeartbeats 4000000 in
theorem rdisk_w {v : Value} {l : List Nd.Op} {w : World} (hv : Oq w v l) (hf : Nd.few l = true) : Calls Try.prog 13 #[v] w fun e w' => ∃ v', e = .returned v' ∧ Sl eb w' v' (Nd.disk l) ∧ Below w.heap.size w w' := by
  obtain ⟨a, cap, rfl, hc, hm, -, hop⟩ := hv.open
  have HOP := Lib.hid hop
  have HFM := Lib.hid (rformat_w w)
  have hfl : ∀ x ∈ l, x.2.2.2.length ≤ 1600 := by
    unfold Nd.few at hf
    rw [Bool.and_eq_true, decide_eq_true_eq] at hf
    exact hf.1
  have HFL := Lib.hid hfl
  have HDS := Lib.hid (fun k hk => Nd.dk_step l (k := k) hk)
  have HDA := Lib.hid (fun k h h1 h2 => Nd.dk_all (l := l) (k := k) h h1 h2)
  have HDL : Hid (∀ k, k ≤ 30 → (Nd.dk l k).length = 12288) := fun k hk => (Nd.dk_ok l hk).1
  unfold maxLen at hm
  clear hop hv hf hfl
  go_enter Try.func13, Try.ntmps13
  go_upto_region 2 with (go_at_call 24; (with_reducible refine HFM.out.mono ?_); rintro e w1 ⟨g1, c1, rfl, ho1, hb1⟩)
  have HS1 : Hid (Sl eb w1 (.slice (some ⟨g1, 0, none⟩) 12288 c1) (Nd.dk l 0)) := own_sl0 ho1 Nd.format_len
  have HB1 := Lib.hid hb1
  clear ho1 hb1
  go_wp2_with fail
  go_loopw [3, 4] (fun uv nv wr => ∃ k : Nat, nv = .int .i64 k ∧ k ≤ l.length ∧ k ≤ 30 ∧ Sl eb wr uv (Nd.dk l k) ∧ Below w.heap.size w wr) (fun _ i _ => 30 - (intOf i).toNat)
  case atStart => exact ⟨0, rfl, Nat.zero_le _, by omega, HS1.out, HB1.out⟩
  case round =>
    clear HS1 HB1
    obtain ⟨k, rfl, hk, hk30, hs, hb⟩ := hrel
    by_cases hlt : k < l.length
    · by_cases h30 : k < 30
      · obtain ⟨b, off, a', c', rfl, hbl, hat, hsd⟩ := HOP.out k hlt
        obtain ⟨z0, z1, z2, z3⟩ := hat.below hb hbl
        have HDO := Lib.hid (rdo_w (x := l[k]) hs (HDL.out k hk30) (hsd.below hb (Nat.le_refl _)) (Nat.le_trans (HFL.out _ (List.getElem_mem hlt)) (by decide)))
        rw [HDS.out k hlt] at HDO
        have f1 : (0 : Int) ≤ (k : Int) := by omega
        have f2 : (k : Int) < (l.length : Int) := by omega
        have f3 : (k : Int) < 30 := by omega
        have HB := Lib.hid hb
        generalize l[k] = x at *
        clear hs hb hat hsd
        go_wp2_with (go_at_call 31; (with_reducible refine HDO.out.mono ?_); rintro e w2 ⟨v2, rfl, hs2, hb2⟩)
        go_roundw
        case rel => exact ⟨k + 1, by go_num, by omega, by omega, hs2, stepAny HB.out hb2⟩
        case measure => simp [intOf]; omega
      · have HE := Lib.hid (HDA.out k (.inr (by omega)) hk hk30)
        have f2 : (k : Int) < (l.length : Int) := by omega
        have f3 : ¬ (k : Int) < 30 := by omega
        rw [HE.out] at hs
        have HS := Lib.hid hs
        have HB := Lib.hid hb
        clear hs hb
        go_wp2_with fail
        go_ret
        exact ⟨_, rfl, HS.out, HB.out⟩
    · have HE := Lib.hid (HDA.out k (.inl (by omega)) hk hk30)
      have f2 : ¬ (k : Int) < (l.length : Int) := by omega
      rw [HE.out] at hs
      have HS := Lib.hid hs
      have HB := Lib.hid hb
      clear hs hb
      go_wp2_with fail
      go_ret
      exact ⟨_, rfl, HS.out, HB.out⟩
end Go.Proofs.Ytbklmpekpcneeaa
