/-
  Plain: disks block by block, and what their logs read as. No program is named here.
-/
import Derived.Test.YtcbgablnbgpjdaaPc
namespace Jr
theorem blk_get (d : List UInt8) (n j : Nat) (hj : j < 128) : (blk d n)[j]? = d[n * 128 + j]? := by
  unfold blk
  rw [List.getElem?_take, if_pos hj, List.getElem?_drop]
theorem blk_put (d : List UInt8) (hd : d.length = 12288) (n m : Nat) (hn : n < 96) (hm : m < 96) (s : List UInt8) (hs : s.length = 128) : blk (put d (n * 128) s) m = if m = n then s else blk d m := by
  have hl := put_length d (n * 128) s (by omega)
  apply List.ext_getElem?
  intro j
  by_cases hj : j < 128
  · rw [blk_get _ _ _ hj, put_get _ _ _ (by omega)]
    by_cases e : m = n
    · subst e
      rw [if_neg (by omega), if_pos (by omega), if_pos rfl]
      congr 1
      omega
    · rw [if_neg e, blk_get _ _ _ hj]
      by_cases h1 : m * 128 + j < n * 128
      · rw [if_pos h1]
      · rw [if_neg h1, if_neg (by omega)]
  · have h1 : (blk (put d (n * 128) s) m).length = 128 := blk_len _ _ (by omega)
    have h2 : (if m = n then s else blk d m).length = 128 := by
      split
      · exact hs
      · exact blk_len _ _ (by omega)
    rw [List.getElem?_eq_none (by omega), List.getElem?_eq_none (by omega)]
theorem disk_ext {d d' : List UInt8} (hd : d.length = 12288) (hd' : d'.length = 12288) (h : ∀ m, m < 96 → blk d m = blk d' m) : d = d' := by
  apply List.ext_getElem?
  intro j
  by_cases hj : j < 12288
  · have e : (blk d (j / 128))[j % 128]? = (blk d' (j / 128))[j % 128]? := by rw [h (j / 128) (by omega)]
    rw [blk_get _ _ _ (by omega), blk_get _ _ _ (by omega)] at e
    rw [show j / 128 * 128 + j % 128 = j by omega] at e
    exact e
  · rw [List.getElem?_eq_none (by omega), List.getElem?_eq_none (by omega)]
theorem home_ext {d d' : List UInt8} (hd : d.length = 12288) (hd' : d'.length = 12288) (h : ∀ m, m < 96 → m < 1 ∨ 12 < m → blk d m = blk d' m) : homeOf d = homeOf d' := by
  unfold homeOf
  have e1 : d.take 128 = d'.take 128 := by
    have := h 0 (by omega) (by omega)
    unfold blk at this
    simpa using this
  have e2 : d.drop 1664 = d'.drop 1664 := by
    apply List.ext_getElem?
    intro j
    rw [List.getElem?_drop, List.getElem?_drop]
    by_cases hj : 1664 + j < 12288
    · have e : (blk d ((1664 + j) / 128))[(1664 + j) % 128]? = (blk d' ((1664 + j) / 128))[(1664 + j) % 128]? := by rw [h ((1664 + j) / 128) (by omega) (by omega)]
      rw [blk_get _ _ _ (by omega), blk_get _ _ _ (by omega)] at e
      rw [show (1664 + j) / 128 * 128 + (1664 + j) % 128 = 1664 + j by omega] at e
      exact e
    · rw [List.getElem?_eq_none (by omega), List.getElem?_eq_none (by omega)]
  rw [e1, e2]
theorem slots_get (d : List UInt8) (j : Nat) (hj : j < 1408) : (slots d)[j]? = d[256 + j]? := by
  unfold slots
  rw [List.getElem?_take, if_pos hj, List.getElem?_drop]
theorem slots_len (d : List UInt8) (hd : d.length = 12288) : (slots d).length = 1408 := by unfold slots; rw [List.length_take, List.length_drop]; omega
theorem slots_ext {d d' : List UInt8} (hd : d.length = 12288) (hd' : d'.length = 12288) (h : ∀ i, i < 11 → blk d (2 + i) = blk d' (2 + i)) : slots d = slots d' := by
  apply List.ext_getElem?
  intro j
  by_cases hj : j < 1408
  · rw [slots_get _ _ hj, slots_get _ _ hj]
    have e : (blk d (2 + j / 128))[j % 128]? = (blk d' (2 + j / 128))[j % 128]? := by rw [h (j / 128) (by omega)]
    rw [blk_get _ _ _ (by omega), blk_get _ _ _ (by omega)] at e
    rw [show (2 + j / 128) * 128 + j % 128 = 256 + j by omega] at e
    exact e
  · have h1 := slots_len d hd
    have h2 := slots_len d' hd'
    rw [List.getElem?_eq_none (by omega), List.getElem?_eq_none (by omega)]

theorem blk_miss {d : List UInt8} (hd : d.length = 12288) {l : List Wr} (hf : ∀ x ∈ l, fits x = true) {m : Nat} (hm : m < 96) (h : ∀ x ∈ l, x.1 ≠ (m : Int)) : blk (app d l) m = blk d m := by
  induction l generalizing d with
  | nil => rfl
  | cons x l ih =>
    have hx := (fits_of x).1 (hf x List.mem_cons_self)
    have hne := h x List.mem_cons_self
    show blk (app (put d (x.1.toNat * 128) x.2) l) m = _
    rw [ih (by rw [put_length _ _ _ (by omega), hd]) (fun y hy => hf y (List.mem_cons_of_mem _ hy)) (fun y hy => h y (List.mem_cons_of_mem _ hy)), blk_put d hd _ _ (by omega) hm _ hx.2.2, if_neg (by omega)]
theorem blk_hit {d : List UInt8} (hd : d.length = 12288) {l : List Wr} (hf : ∀ x ∈ l, fits x = true) (hn : (l.map Prod.fst).Nodup) {x : Wr} (hx : x ∈ l) : blk (app d l) x.1.toNat = x.2 := by
  induction l generalizing d with
  | nil => cases hx
  | cons y l ih =>
    have hy := (fits_of y).1 (hf y List.mem_cons_self)
    rw [List.map_cons, List.nodup_cons] at hn
    show blk (app (put d (y.1.toNat * 128) y.2) l) _ = _
    have hd2 : (put d (y.1.toNat * 128) y.2).length = 12288 := by rw [put_length _ _ _ (by omega), hd]
    have hfl : ∀ z ∈ l, fits z = true := fun z hz => hf z (List.mem_cons_of_mem _ hz)
    rcases List.mem_cons.1 hx with rfl | hx
    · rw [blk_miss hd2 hfl (by omega) (fun z hz e => hn.1 (List.mem_map.2 ⟨z, hz, by omega⟩)), blk_put d hd _ _ (by omega) (by omega) _ hy.2.2, if_pos rfl]
    · exact ih hd2 hfl hn.2 hx

/-! ### what a log reads as -/
theorem cut28 (h : List UInt8) : h = h.take 20 ++ (h.drop 20).take 8 ++ h.drop 28 := by
  have e1 : h.drop 28 = (h.drop 20).drop 8 := by rw [List.drop_drop]
  rw [e1, List.append_assoc, List.take_append_drop, List.take_append_drop]
theorem head_len (n : Int) (l : List Wr) (sl : List UInt8) : (head n l sl).length = 128 := by
  unfold head
  split
  · exact mk_len' _ _ _ _
  · exact mk_len' _ _ _ _
/-- A log that reads has just the header that belongs to it. -/
theorem read_head {d : List UInt8} {n : Int} {l : List Wr} (h : read d = (n, l, 0)) : blk d 1 = head n l (slots d) := by
  obtain ⟨hd, hn, hl, h11, hv⟩ := read_ok h
  unfold read at h
  rw [if_neg (show ¬ d.length ≠ 12288 by simpa using hd)] at h
  have e : ((blk d 1).getD 4 0).toNat = cnt (blk d 1) := rfl
  simp only [e, Nat.min_eq_left h11] at h
  rw [← hl, ← hn] at h
  split at h
  · simp at h
  · split at h
    · simp at h
    · split at h
      · simp at h
      · rename_i h1 h2 h3
        have g1 : (blk d 1).take 20 = (head n l (slots d)).take 20 := Classical.byContradiction fun hh => h2 (.inl hh)
        have g2 : (blk d 1).drop 28 = (head n l (slots d)).drop 28 := Classical.byContradiction fun hh => h2 (.inr hh)
        have g3 : ((blk d 1).drop 20).take 8 = ((head n l (slots d)).drop 20).take 8 := Classical.byContradiction fun hh => h3 hh
        rw [cut28 (blk d 1), g1, g2, g3]
        exact (cut28 _).symm
theorem pre_cnt (c : UInt8) (bl : List Int) (n : Int) (r : List UInt8) (hb : bl.length ≤ 11) : cnt (pre c bl n ++ r) = bl.length := by
  unfold cnt pre
  have e : ([74, 82, 78, c, UInt8.ofNat bl.length] ++ ((List.range 11).map fun i => if h : i < bl.length then ib bl[i] else 0) ++ num (Sum.word n) 4 ++ r) = 74 :: 82 :: 78 :: c :: UInt8.ofNat bl.length :: (((List.range 11).map fun i => if h : i < bl.length then ib bl[i] else 0) ++ num (Sum.word n) 4 ++ r) := by simp
  rw [e]
  simp only [List.getD, List.getElem?_cons_succ, List.getElem?_cons_zero, Option.getD_some]
  rw [UInt8.toNat_ofNat']
  omega
theorem pre_ent (c : UInt8) (bl : List Int) (n : Int) (r : List UInt8) (i : Nat) (hi : i < bl.length) (hb : bl.length ≤ 11) : ent (pre c bl n ++ r) i = ib bl[i] := by
  unfold ent pre
  have e : ([74, 82, 78, c, UInt8.ofNat bl.length] ++ ((List.range 11).map fun i => if h : i < bl.length then ib bl[i] else 0) ++ num (Sum.word n) 4 ++ r) = [74, 82, 78, c, UInt8.ofNat bl.length] ++ (((List.range 11).map fun i => if h : i < bl.length then ib bl[i] else 0) ++ (num (Sum.word n) 4 ++ r)) := by simp
  rw [e, List.getD_eq_getElem?_getD, List.getElem?_append_right (by simp)]
  rw [List.getElem?_append_left (by simp; omega)]
  have e2 : 5 + i - [74, 82, 78, c, UInt8.ofNat bl.length].length = i := by simp
  rw [e2, List.getElem?_map, List.getElem?_range (by omega)]
  simp [hi]
theorem pre_seq (c : UInt8) (bl : List Int) (n : Int) (r : List UInt8) : ((pre c bl n ++ r).drop 16).take 4 = num (Sum.word n) 4 := by
  unfold pre
  have e : ([74, 82, 78, c, UInt8.ofNat bl.length] ++ ((List.range 11).map fun i => if h : i < bl.length then ib bl[i] else 0) ++ num (Sum.word n) 4 ++ r) = ([74, 82, 78, c, UInt8.ofNat bl.length] ++ (List.range 11).map fun i => if h : i < bl.length then ib bl[i] else 0) ++ (num (Sum.word n) 4 ++ r) := by simp
  rw [e, List.drop_left' (by simp), List.take_left' (by rw [num_nat, numN_len])]
theorem get_word4 (n : Int) (h0 : 0 ≤ n) (h1 : n < 4294967296) : ((get (num (Sum.word n) 4)).toNat : Int) = n := by
  obtain ⟨k, rfl⟩ := Int.eq_ofNat_of_zero_le h0
  rw [get_nat _ (by rw [num_nat, numN_len]; omega), num_nat, horn_numN, word_nat _ (by omega)]
  have : (256 : Nat) ^ 4 = 4294967296 := by decide
  rw [this]
  omega
theorem ib_nat (n : Int) (h0 : 0 ≤ n) (h1 : n < 256) : ((ib n).toNat : Int) = n := by
  obtain ⟨k, rfl⟩ := Int.eq_ofNat_of_zero_le h0
  unfold ib Sum.byte
  rw [word_nat _ (by omega), UInt8.toNat_ofNat']
  omega

/-- The log that has been written is the one that reads. -/
theorem read_of_head {d : List UInt8} (hd : d.length = 12288) {n : Int} (h0 : 0 ≤ n) (h1 : n < 4294967296) {l : List Wr} (hv : l = [] ∨ valid l = true) (hh : blk d 1 = head n l (slots d)) (hs : ∀ i (h : i < l.length), blk d (2 + i) = l[i].2) : read d = (n, l, 0) := by
  obtain ⟨c, sl, e⟩ : ∃ c sl, head n l (slots d) = mk c (l.map Prod.fst) n sl := by
    unfold head
    split
    · rename_i e; subst e; exact ⟨48, [], rfl⟩
    · exact ⟨49, _, rfl⟩
  have hl11 : l.length ≤ 11 := by
    rcases hv with rfl | hv
    · simp
    · exact (valid_all hv).2.2.2
  have hm : blk d 1 = pre c (l.map Prod.fst) n ++ (num (Sum.of (pre c (l.map Prod.fst) n ++ sl)) 8 ++ List.replicate 100 0) := by rw [hh, e]; unfold mk; rw [List.append_assoc]
  have hc : cnt (blk d 1) = l.length := by rw [hm, pre_cnt _ _ _ _ (by simpa using hl11)]; simp
  have hsq : seqOf d = n := by
    unfold seqOf
    rw [hm, pre_seq, get_word4 n h0 h1]
  have hlog : logged d l.length = l := by
    apply List.ext_getElem?
    intro i
    by_cases i2 : i < l.length
    · have hen : ((ent (blk d 1) i).toNat : Int) = l[i].1 := by
        rw [hm, pre_ent _ _ _ _ i (by simpa using i2) (by simpa using hl11), List.getElem_map]
        rcases hv with rfl | hv
        · cases i2
        · have := (valid_all hv).1 _ (List.getElem_mem i2)
          rw [home_iff] at this
          exact ib_nat _ (by omega) (by omega)
      rw [List.getElem?_eq_getElem i2]
      unfold logged
      rw [List.getElem?_map, List.getElem?_range i2]
      exact congrArg some (Prod.ext hen (hs i i2))
    · rw [List.getElem?_eq_none (by rw [logged_len]; omega), List.getElem?_eq_none (by omega)]
  have hok : cnt (blk d 1) < 1 ∨ valid (logged d (cnt (blk d 1))) = true := by
    rw [hc, hlog]
    rcases hv with rfl | hv
    · exact .inl (by simp)
    · exact .inr hv
  unfold read
  rw [if_neg (show ¬ d.length ≠ 12288 by simpa using hd)]
  have e2 : ((blk d 1).getD 4 0).toNat = cnt (blk d 1) := rfl
  simp only [e2, hc, Nat.min_eq_left hl11, hlog, hsq]
  rw [if_neg, if_neg, if_neg]
  · rw [hh]; simp
  · rw [hh]; simp
  · rintro (h | ⟨h, h2⟩)
    · omega
    · rcases hv with rfl | hv
      · simp at h
      · rw [hv] at h2; cases h2
theorem read_idle {d : List UInt8} (hd : d.length = 12288) {n : Int} (h0 : 0 ≤ n) (h1 : n < 4294967296) (h : blk d 1 = idle n) : read d = (n, [], 0) :=
  read_of_head hd h0 h1 (.inl rfl) h (fun i hi => by cases hi)
theorem read_keep {d d' : List UInt8} {n : Int} {l : List Wr} (h : read d = (n, l, 0)) (hd' : d'.length = 12288) (h1 : blk d' 1 = blk d 1) (hs : ∀ i, i < 11 → blk d' (2 + i) = blk d (2 + i)) : read d' = (n, l, 0) := by
  obtain ⟨hd, hn, hl, h11, hv⟩ := read_ok h
  have hb := seq_bound d hd
  rw [← hn] at hb
  have hsl := slots_ext hd' hd hs
  refine read_of_head hd' hb.1 hb.2 hv (by rw [h1, hsl]; exact read_head h) fun i hi => ?_
  have hlen : l.length ≤ 11 := by rw [hl, logged_len]; exact h11
  rw [hs i (by omega)]
  have hgen : ∀ m : List Wr, m = logged d (cnt (blk d 1)) → ∀ i (hi : i < m.length), blk d (2 + i) = m[i].2 := by
    intro m hm i hi
    have hi' : i < cnt (blk d 1) := by rw [hm, logged_len] at hi; exact hi
    have e : m[i]? = some ((((blk d 1).getD (5 + i) 0).toNat : Int), blk d (2 + i)) := by
      rw [hm]
      unfold logged
      rw [List.getElem?_map, List.getElem?_range hi']
      rfl
    rw [List.getElem?_eq_getElem hi] at e
    rw [Option.some.inj e]
  exact hgen l hl i hi
theorem read_keep0 {d d' : List UInt8} {n : Int} (h : read d = (n, [], 0)) (hd' : d'.length = 12288) (h1 : blk d' 1 = blk d 1) : read d' = (n, [], 0) := by
  obtain ⟨hd, hn, -, -, -⟩ := read_ok h
  have hb := seq_bound d hd
  rw [← hn] at hb
  exact read_idle hd' hb.1 hb.2 (by rw [h1]; exact read_head h)
end Jr
