/-
  Plain: the described disk reads as described; an update is atomic; a recovery can be repeated; one byte changed. No program is named here.
-/
import Derived.Test.YtcbgablnbgpjdaaPd
namespace Jr
theorem pack_length (d : List UInt8) (hd : d.length = 12288) (n : Nat) (hn : n < 96) (s : List UInt8) : (pack d n s).length = 12288 := by
  unfold pack
  rw [put_length _ _ _ (by rw [List.length_take]; omega), hd]
theorem blk_pack (d : List UInt8) (hd : d.length = 12288) (n m : Nat) (hn : n < 96) (hm : m < 96) (s : List UInt8) (h : m ≠ n) : blk (pack d n s) m = blk d m := by
  have hl := pack_length d hd n hn s
  apply List.ext_getElem?
  intro j
  by_cases hj : j < 128
  · rw [blk_get _ _ _ hj, blk_get _ _ _ hj]
    unfold pack
    have h8 : (s.take 128).length ≤ 128 := by rw [List.length_take]; omega
    rw [put_get _ _ _ (by omega)]
    by_cases h1 : m * 128 + j < n * 128
    · rw [if_pos h1]
    · rw [if_neg h1, if_neg (by omega)]
  · have h1 : (blk (pack d n s) m).length = 128 := blk_len _ _ (by omega)
    have h2 : (blk d m).length = 128 := blk_len _ _ (by omega)
    rw [List.getElem?_eq_none (by omega), List.getElem?_eq_none (by omega)]
theorem blk_pack_same (d : List UInt8) (hd : d.length = 12288) (n : Nat) (hn : n < 96) (s : List UInt8) (hs : s.length = 128) : blk (pack d n s) n = s := by
  unfold pack
  rw [List.take_of_length_le (by omega), blk_put d hd n n hn hn s hs, if_pos rfl]
theorem strew_length (d : List UInt8) (hd : d.length = 12288) (l : List Wr) : (strew d l).length = 12288 := by
  induction l generalizing d with
  | nil => exact hd
  | cons x l ih =>
    show (strew _ l).length = _
    apply ih
    split
    · exact pack_length d hd _ (by omega) _
    · exact hd
theorem fill_length (d : List UInt8) (hd : d.length = 12288) (n : Nat) (l : List Wr) (h : n + l.length ≤ 96) : (fill d n l).length = 12288 := by
  induction l generalizing d n with
  | nil => exact hd
  | cons x l ih =>
    simp at h
    exact ih _ (pack_length d hd n (by omega) _) (n + 1) (by omega)
theorem fill_blk (d : List UInt8) (hd : d.length = 12288) (n : Nat) (l : List Wr) (h : n + l.length ≤ 96) (h8 : ∀ x ∈ l, x.2.length = 128) : (∀ m, m < n → blk (fill d n l) m = blk d m) ∧ ∀ i (hi : i < l.length), blk (fill d n l) (n + i) = l[i].2 := by
  induction l generalizing d n with
  | nil => exact ⟨fun m _ => rfl, fun i hi => by cases hi⟩
  | cons x l ih =>
    simp at h
    obtain ⟨i1, i2⟩ := ih (pack d n x.2) (pack_length d hd n (by omega) _) (n + 1) (by omega) (fun y hy => h8 y (List.mem_cons_of_mem _ hy))
    refine ⟨fun m hm => ?_, fun i hi => ?_⟩
    · show blk (fill _ (n + 1) l) m = _
      rw [i1 m (by omega), blk_pack d hd n m (by omega) (by omega) _ (by omega)]
    · cases i with
      | zero =>
        show blk (fill _ (n + 1) l) n = _
        rw [i1 n (by omega), blk_pack_same d hd n (by omega) _ (h8 x List.mem_cons_self)]
        rfl
      | succ i =>
        show blk (fill _ (n + 1) l) (n + (i + 1)) = _
        rw [show n + (i + 1) = n + 1 + i by omega]
        exact i2 i (by simpa using hi)
theorem zeros_length : zeros.length = 12288 := by unfold zeros; rw [List.length_replicate]
theorem disk_length (x : Sp) : (disk x).length = 12288 := by
  have h1 := strew_length zeros zeros_length (x.1.take 20)
  have h2 := pack_length _ h1 1 (by omega) (idle x.2.1)
  unfold disk
  simp only
  split
  · rename_i hv
    exact pack_length _ (fill_length _ h2 2 _ (by have := (valid_all hv).2.2.2; omega)) 1 (by omega) _
  · exact h2
/-- The log of a described disk. -/
def logOf (x : Sp) : List Wr := if valid x.2.2 = true then x.2.2 else []
theorem read_disk (x : Sp) (h0 : 0 ≤ x.2.1) (h1 : x.2.1 < 4294967296) : read (disk x) = (x.2.1, logOf x, 0) := by
  have hl := disk_length x
  have g1 := strew_length zeros zeros_length (x.1.take 20)
  have g2 := pack_length _ g1 1 (by omega) (idle x.2.1)
  unfold logOf
  by_cases hv : valid x.2.2 = true
  · rw [if_pos hv]
    obtain ⟨v1, -, -, v4⟩ := valid_all hv
    have g3 := fill_length _ g2 2 x.2.2 (by omega)
    have e : disk x = pack (fill (pack (strew zeros (x.1.take 20)) 1 (idle x.2.1)) 2 x.2.2) 1 (head x.2.1 x.2.2 (slots (fill (pack (strew zeros (x.1.take 20)) 1 (idle x.2.1)) 2 x.2.2))) := by
      unfold disk
      simp only
      rw [if_pos hv]
    generalize hE : fill (pack (strew zeros (x.1.take 20)) 1 (idle x.2.1)) 2 x.2.2 = E at *
    have hfb := fill_blk _ g2 2 x.2.2 (by omega) (fun y hy => (v1 y hy).2)
    rw [hE] at hfb
    have hsl : slots (disk x) = slots E := slots_ext hl g3 fun i hi => by rw [e]; exact blk_pack E g3 1 _ (by omega) (by omega) _ (by omega)
    refine read_of_head hl h0 h1 (.inr hv) ?_ fun i hi => ?_
    · rw [hsl, e]
      exact blk_pack_same E g3 1 (by omega) _ (head_len _ _ _)
    · rw [e, blk_pack E g3 1 _ (by omega) (by omega) _ (by omega)]
      exact hfb.2 i hi
  · rw [if_neg hv]
    have e : disk x = pack (strew zeros (x.1.take 20)) 1 (idle x.2.1) := by
      unfold disk
      simp only
      rw [if_neg hv]
    refine read_idle hl h0 h1 ?_
    rw [e]
    exact blk_pack_same _ g1 1 (by omega) _ (mk_len' _ _ _ _)

/-! ### an update -/
theorem valid_fit {l : List Wr} (h : valid l = true) : ∀ x ∈ l, fits x = true := fun x hx => by
  have := (valid_all h).1 x hx
  rw [home_iff] at this
  rw [fits_of]
  omega
/-- The header write of an update. -/
def hdr (d : List UInt8) (n : Int) (l : List Wr) : Wr := (1, mk 49 (l.map Prod.fst) (n + 1) (slots (app d (logs l))))
theorem hdr_fit (d : List UInt8) (n : Int) (l : List Wr) : fits (hdr d n l) = true := by
  rw [fits_of]
  exact ⟨show (0 : Int) ≤ 1 by omega, show (1 : Int) < 96 by omega, mk_len' _ _ _ _⟩
theorem logs_no {l : List Wr} {x : Wr} (hx : x ∈ logs l) : ∃ k, k < l.length ∧ x.1 = ((2 + k : Nat) : Int) ∧ ∃ h : k < l.length, x.2 = l[k].2 := by
  obtain ⟨k, hk, rfl⟩ := List.getElem_of_mem hx
  rw [logs_len] at hk
  rw [logs_get l k hk]
  exact ⟨k, hk, rfl, hk, rfl⟩
theorem logs_nodup (l : List Wr) : ((logs l).map Prod.fst).Nodup := by
  unfold logs
  rw [List.map_map]
  rw [nodup_range]
  intro i _ hm
  obtain ⟨j, hj, e⟩ := List.mem_map.1 hm
  have hj' := List.mem_range.1 hj
  simp only [Function.comp] at e
  omega
/-- The disk behind the whole log. -/
theorem log_done {d : List UInt8} (hd : d.length = 12288) {n : Int} (h0 : 0 ≤ n) (h1 : n + 1 < 4294967296) {l : List Wr} (hv : valid l = true) : read (app d (logs l ++ [hdr d n l])) = (n + 1, l, 0) ∧ (app d (logs l ++ [hdr d n l])).length = 12288 ∧ ∀ m, m < 96 → m < 1 ∨ 12 < m → blk (app d (logs l ++ [hdr d n l])) m = blk d m := by
  have hlf := logs_fit hv
  have hd2 := app_length hd hlf
  obtain ⟨v1, -, v3, v4⟩ := valid_all hv
  rw [app_append]
  have hh1 : ∀ x ∈ [hdr d n l], fits x = true := by intro x hx; rw [List.mem_singleton.1 hx]; exact hdr_fit d n l
  have hd3 := app_length hd2 hh1
  have hb : ∀ m, m < 96 → blk (app (app d (logs l)) [hdr d n l]) m = if m = 1 then (hdr d n l).2 else blk (app d (logs l)) m := fun m hm => by
    show blk (put _ (1 * 128) _) m = _
    exact blk_put _ hd2 1 m (by omega) hm _ (mk_len' _ _ _ _)
  have hsl : slots (app (app d (logs l)) [hdr d n l]) = slots (app d (logs l)) := slots_ext hd3 hd2 fun i hi => by rw [hb _ (by omega), if_neg (by omega)]
  refine ⟨read_of_head hd3 (by omega) h1 (.inr hv) ?_ fun i hi => ?_, hd3, fun m hm hmm => ?_⟩
  · rw [hb 1 (by omega), if_pos rfl, hsl]
    unfold hdr head
    rw [if_neg (fun e => by rw [e] at v3; simp at v3)]
  · rw [hb _ (by omega), if_neg (by omega)]
    have := blk_hit hd hlf (logs_nodup l) (x := (((2 + i : Nat) : Int), l[i].2)) (by rw [← logs_get l i hi]; exact List.getElem_mem _)
    rw [show (((2 + i : Nat) : Int)).toNat = 2 + i by omega] at this
    exact this
  · rw [hb m hm, if_neg (by omega)]
    refine blk_miss hd hlf hm fun x hx e => ?_
    obtain ⟨k, hk, e1, -⟩ := logs_no hx
    omega
theorem valid_no {l : List Wr} (hv : valid l = true) {x : Wr} (hx : x ∈ l) : x.1.toNat < 1 ∨ 12 < x.1.toNat := by
  have := (valid_all hv).1 x hx
  rw [home_iff] at this
  omega
theorem homes_nodup {l : List Wr} (hv : valid l = true) (n : Int) : ((homes n l).map Prod.fst).Nodup := by
  unfold homes
  rw [List.map_append, List.nodup_append]
  refine ⟨(valid_all hv).2.1, by simp, fun a ha b hb e => ?_⟩
  simp at hb
  subst hb e
  obtain ⟨x, hx, e⟩ := List.mem_map.1 ha
  have := valid_no hv hx
  omega
theorem homes_blk1 {d : List UInt8} (hd : d.length = 12288) {l : List Wr} (hv : valid l = true) (n : Int) : blk (app d (homes n l)) 1 = idle n :=
  blk_hit hd (homes_fit (.inr hv) n) (homes_nodup hv n) (x := (1, idle n)) (by unfold homes; simp)
/-- Blocks of a disk on which some of the home writes have been done, and then all. -/
theorem redo_blk {d : List UInt8} (hd : d.length = 12288) {l : List Wr} (hv : valid l = true) (n : Int) (m : Nat) (hm : m < 96) (hm1 : m ≠ 1) : blk (app d (homes n l)) m = blk (app d l) m := by
  have hf := valid_fit hv
  by_cases h : ∃ x ∈ l, x.1 = (m : Int)
  · obtain ⟨x, hx, e⟩ := h
    have h1 := blk_hit hd (homes_fit (.inr hv) n) (homes_nodup hv n) (x := x) (by unfold homes; simp [hx])
    have h2 := blk_hit hd hf (valid_all hv).2.1 hx
    rw [e] at h1 h2
    simpa using h1.trans h2.symm
  · rw [blk_miss hd (homes_fit (.inr hv) n) hm, blk_miss hd hf hm]
    · intro x hx e; exact h ⟨x, hx, e⟩
    · intro x hx e
      unfold homes at hx
      rcases List.mem_append.1 hx with hx | hx
      · exact h ⟨x, hx, e⟩
      · simp at hx; subst hx; simp at e; omega
theorem again_blk {d : List UInt8} (hd : d.length = 12288) {l : List Wr} (hv : valid l = true) (k m : Nat) (hm : m < 96) : blk (app (app d (l.take k)) l) m = blk (app d l) m := by
  have hf := valid_fit hv
  have hft : ∀ x ∈ l.take k, fits x = true := fun x hx => hf x (List.mem_of_mem_take hx)
  have hd2 := app_length hd hft
  by_cases h : ∃ x ∈ l, x.1 = (m : Int)
  · obtain ⟨x, hx, e⟩ := h
    have h1 := blk_hit hd2 hf (valid_all hv).2.1 hx
    have h2 := blk_hit hd hf (valid_all hv).2.1 hx
    rw [e] at h1 h2
    simpa using h1.trans h2.symm
  · rw [blk_miss hd2 hf hm (fun x hx e => h ⟨x, hx, e⟩), blk_miss hd hf hm (fun x hx e => h ⟨x, hx, e⟩), blk_miss hd hft hm (fun x hx e => h ⟨x, List.mem_of_mem_take hx, e⟩)]
theorem home_keep {d : List UInt8} (hd : d.length = 12288) {l : List Wr} (hv : valid l = true) (k : Nat) : (app d (l.take k)).length = 12288 ∧ ∀ m, m < 96 → 1 ≤ m → m ≤ 12 → blk (app d (l.take k)) m = blk d m := by
  have hft : ∀ x ∈ l.take k, fits x = true := fun x hx => valid_fit hv x (List.mem_of_mem_take hx)
  exact ⟨app_length hd hft, fun m hm h1 h2 => blk_miss hd hft hm fun x hx e => by have := valid_no hv (List.mem_of_mem_take hx); omega⟩
end Jr
