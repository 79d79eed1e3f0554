/-
  Plain: an update is atomic; a recovery can be repeated; one byte changed. No program is named here.
-/
import Derived.Test.YtcbgablnbgpjdaaPe
import Derived.Test.YtcbgablnbgpjdaaSumSpec2
namespace Jr
theorem recover_idle {d : List UInt8} {n : Int} (h : read d = (n, [], 0)) : recover d = (d, false, 0) := by
  unfold recover
  rw [h]
  simp
theorem recover_redo {d : List UInt8} {n : Int} {l : List Wr} (h : read d = (n, l, 0)) (hl : l ≠ []) : recover d = (app d (homes n l), true, 0) := by
  unfold recover
  rw [h]
  simp [hl]
theorem valid_ne {l : List Wr} (h : valid l = true) : l ≠ [] := by
  rintro rfl
  have := (valid_all h).2.2.1
  simp at this

/-- All writes of a plan. -/
def writes (d : List UInt8) (n : Int) (l : List Wr) : List Wr := (logs l ++ [hdr d n l]) ++ homes (n + 1) l
theorem writes_len (d : List UInt8) (n : Int) (l : List Wr) : (writes d n l).length = (l.length + 1) + (l.length + 1) := by
  unfold writes homes
  simp [logs_len]
  omega
theorem writes_fit (d : List UInt8) (n : Int) {l : List Wr} (hv : valid l = true) : ∀ x ∈ writes d n l, fits x = true := by
  intro x hx
  unfold writes at hx
  rcases List.mem_append.1 hx with hx | hx
  · rcases List.mem_append.1 hx with hx | hx
    · exact logs_fit hv x hx
    · rw [List.mem_singleton.1 hx]; exact hdr_fit d n l
  · exact homes_fit (.inr hv) _ x hx

/-- Some of the writes of an update have been done: what recovery makes of it. -/
theorem atomic {d : List UInt8} {n : Int} (hr : read d = (n, [], 0)) (hn : n + 1 < 4294967296) {l : List Wr} (hv : valid l = true) (k : Nat) (hk : k ≤ (writes d n l).length) :
    ∃ got n' q, recover (app d ((writes d n l).take k)) = (got, q, 0) ∧ got.length = 12288 ∧ read got = (n', [], 0) ∧ homeOf got = homeOf (if k < l.length + 1 then d else app d l) ∧
      (k = (writes d n l).length → got = app d ((writes d n l).take k) ∧ read got = (n + 1, [], 0)) := by
  obtain ⟨hd, hns, -, -, -⟩ := read_ok hr
  have hb := seq_bound d hd
  rw [← hns] at hb
  rw [writes_len] at hk ⊢
  have hll : (logs l ++ [hdr d n l]).length = l.length + 1 := by simp [logs_len]
  have hfl := valid_fit hv
  have hdl := app_length hd hfl
  by_cases h1 : k < l.length + 1
  · -- the log is not whole
    rw [if_pos h1]
    have e : (writes d n l).take k = (logs l).take k := by
      unfold writes
      rw [List.take_append_of_le_length (by omega), List.take_append_of_le_length (by rw [logs_len]; omega)]
    rw [e]
    have hf : ∀ x ∈ (logs l).take k, fits x = true := fun x hx => logs_fit hv x (List.mem_of_mem_take hx)
    have hd2 := app_length hd hf
    have hno : ∀ m, m < 96 → m < 2 ∨ 12 < m → blk (app d ((logs l).take k)) m = blk d m := fun m hm hmm => blk_miss hd hf hm fun x hx ex => by
      obtain ⟨j, hj, e1, -⟩ := logs_no (List.mem_of_mem_take hx)
      have := (valid_all hv).2.2.2
      omega
    have hr2 : read (app d ((logs l).take k)) = (n, [], 0) := read_keep0 hr hd2 (hno 1 (by omega) (by omega))
    exact ⟨_, n, false, recover_idle hr2, hd2, hr2, home_ext hd2 hd fun m hm hmm => hno m hm (by omega), fun e2 => by omega⟩
  · rw [if_neg h1]
    obtain ⟨rE, dE, bE⟩ := log_done hd hb.1 hn hv
    obtain ⟨j, rfl⟩ : ∃ j, k = (l.length + 1) + j := ⟨k - (l.length + 1), by omega⟩
    have e : app d ((writes d n l).take (l.length + 1 + j)) = app (app d (logs l ++ [hdr d n l])) ((homes (n + 1) l).take j) := by
      unfold writes
      rw [← hll, List.take_length_add_append, app_append]
    rw [e]
    generalize app d (logs l ++ [hdr d n l]) = E at *
    have hhome : ∀ m, m < 96 → m < 1 ∨ 12 < m → blk (app E l) m = blk (app d l) m := fun m hm hmm => by
      by_cases h : ∃ x ∈ l, x.1 = (m : Int)
      · obtain ⟨x, hx, ex⟩ := h
        have g1 := blk_hit dE hfl (valid_all hv).2.1 hx
        have g2 := blk_hit hd hfl (valid_all hv).2.1 hx
        rw [ex] at g1 g2
        simpa using g1.trans g2.symm
      · rw [blk_miss dE hfl hm (fun x hx ex => h ⟨x, hx, ex⟩), blk_miss hd hfl hm (fun x hx ex => h ⟨x, hx, ex⟩), bE m hm hmm]
    by_cases hj : j = l.length + 1
    · -- all is done
      subst hj
      have e2 : (homes (n + 1) l).take (l.length + 1) = homes (n + 1) l := List.take_of_length_le (by unfold homes; simp)
      rw [e2]
      have dG := app_length dE (homes_fit (.inr hv) (n + 1))
      have rG : read (app E (homes (n + 1) l)) = (n + 1, [], 0) := read_idle dG (by omega) hn (homes_blk1 dE hv (n + 1))
      exact ⟨_, n + 1, false, recover_idle rG, dG, rG, home_ext dG hdl fun m hm hmm => by rw [redo_blk dE hv (n + 1) m hm (by omega), hhome m hm hmm], fun _ => ⟨rfl, rG⟩⟩
    · have e2 : (homes (n + 1) l).take j = l.take j := by
        unfold homes
        rw [List.take_append_of_le_length (by omega)]
      rw [e2]
      obtain ⟨dB, bB⟩ := home_keep dE hv j
      have rB : read (app E (l.take j)) = (n + 1, l, 0) := read_keep rE dB (bB 1 (by omega) (by omega) (by omega)) fun i hi => bB _ (by omega) (by omega) (by omega)
      have dG := app_length dB (homes_fit (.inr hv) (n + 1))
      have rG : read (app (app E (l.take j)) (homes (n + 1) l)) = (n + 1, [], 0) := read_idle dG (by omega) hn (homes_blk1 dB hv (n + 1))
      refine ⟨_, n + 1, true, recover_redo rB (valid_ne hv), dG, rG, home_ext dG hdl fun m hm hmm => ?_, fun e3 => by omega⟩
      rw [redo_blk dB hv (n + 1) m hm (by omega), again_blk dE hv j m hm, hhome m hm hmm]

/-- Recovery that is broken off and begun again. -/
theorem again {d : List UInt8} {n : Int} {l : List Wr} (hr : read d = (n, l, 0)) : ∃ got, recover d = (got, decide (l ≠ []), 0) ∧ got.length = 12288 ∧ recover got = (got, false, 0) ∧
    ∀ k, k ≤ (homes n l).length → ∃ q, recover (app d ((homes n l).take k)) = (got, q, 0) := by
  obtain ⟨hd, hns, -, -, hv⟩ := read_ok hr
  have hb := seq_bound d hd
  rw [← hns] at hb
  rcases hv with rfl | hv
  · refine ⟨d, by rw [recover_idle hr]; simp, hd, recover_idle hr, fun k hk => ?_⟩
    have hf : ∀ x ∈ (homes n []).take k, fits x = true := fun x hx => homes_fit (.inl rfl) n x (List.mem_of_mem_take hx)
    have hd2 := app_length hd hf
    have e : app d ((homes n []).take k) = d := disk_ext hd2 hd fun m hm => by
      have hbh : blk d 1 = idle n := read_head hr
      by_cases hk0 : k = 0
      · subst hk0; rfl
      · have e1 : (homes n []).take k = [(1, idle n)] := by
          unfold homes
          rw [List.nil_append, List.take_of_length_le (by simp; omega)]
        rw [e1]
        show blk (put d (1 * 128) (idle n)) m = _
        have hil : (idle n).length = 128 := mk_len' _ _ _ _
        rw [blk_put d hd 1 m (by omega) hm _ hil]
        split
        · rename_i e; rw [e, hbh]
        · rfl
    rw [e]
    exact ⟨false, recover_idle hr⟩
  · have dG := app_length hd (homes_fit (.inr hv) n)
    have rG : read (app d (homes n l)) = (n, [], 0) := read_idle dG hb.1 hb.2 (homes_blk1 hd hv n)
    refine ⟨_, by rw [recover_redo hr (valid_ne hv), decide_eq_true (valid_ne hv)], dG, recover_idle rG, fun k hk => ?_⟩
    by_cases hk2 : k = l.length + 1
    · rw [List.take_of_length_le (by unfold homes; simp; omega)]
      exact ⟨false, recover_idle rG⟩
    · have e2 : (homes n l).take k = l.take k := by
        unfold homes at hk ⊢
        simp at hk
        rw [List.take_append_of_le_length (by omega)]
      rw [e2]
      obtain ⟨dB, bB⟩ := home_keep hd hv k
      have rB : read (app d (l.take k)) = (n, l, 0) := read_keep hr dB (bB 1 (by omega) (by omega) (by omega)) fun i hi => bB _ (by omega) (by omega) (by omega)
      refine ⟨true, ?_⟩
      rw [recover_redo rB (valid_ne hv)]
      congr 1
      refine disk_ext (app_length dB (homes_fit (.inr hv) n)) dG fun m hm => ?_
      by_cases hm1 : m = 1
      · subst hm1
        rw [homes_blk1 dB hv n, homes_blk1 hd hv n]
      · rw [redo_blk dB hv n m hm hm1, redo_blk hd hv n m hm hm1, again_blk hd hv k m hm]

/-! ### one byte changed -/
theorem of_ne {a b : List UInt8} {p : Nat} {c : UInt8} (hp : p < a.length) (hc : a[p] ≠ c) (h : b = a.set p c) : Sum.of b ≠ Sum.of a := by
  intro e
  unfold Sum.of at e
  have hl : b.length = a.length := by rw [h, List.length_set]
  rw [hl] at e
  have e2 := Sum.sum_inj e
  rw [h] at e2
  exact Sum.set_ne hp hc e2
theorem blk_set (d : List UInt8) (hd : d.length = 12288) (at_ : Nat) (c : UInt8) (n : Nat) (hn : n < 96) : blk (d.set at_ c) n = if n * 128 ≤ at_ ∧ at_ < n * 128 + 128 then (blk d n).set (at_ - n * 128) c else blk d n := by
  have hl : (d.set at_ c).length = 12288 := by rw [List.length_set]; exact hd
  have hb := blk_len d n (by omega)
  apply List.ext_getElem?
  intro j
  by_cases hj : j < 128
  · rw [blk_get _ _ _ hj, List.getElem?_set]
    by_cases h : n * 128 ≤ at_ ∧ at_ < n * 128 + 128
    · rw [if_pos h, List.getElem?_set, blk_get _ _ _ hj, hb]
      by_cases e : at_ = n * 128 + j
      · rw [if_pos e, if_pos (by omega), if_pos (by omega), if_pos (by omega)]
      · rw [if_neg e, if_neg (by omega)]
    · rw [if_neg h, blk_get _ _ _ hj, if_neg (by omega)]
  · have h1 : (blk (d.set at_ c) n).length = 128 := blk_len _ _ (by omega)
    rw [List.getElem?_eq_none (by omega), List.getElem?_eq_none (by split <;> (try rw [List.length_set]) <;> omega)]
theorem slots_set (d : List UInt8) (hd : d.length = 12288) (at_ : Nat) (c : UInt8) : slots (d.set at_ c) = if 256 ≤ at_ ∧ at_ < 1664 then (slots d).set (at_ - 256) c else slots d := by
  have hl : (d.set at_ c).length = 12288 := by rw [List.length_set]; exact hd
  have hs := slots_len d hd
  apply List.ext_getElem?
  intro j
  by_cases hj : j < 1408
  · rw [slots_get _ _ hj, List.getElem?_set]
    by_cases h : 256 ≤ at_ ∧ at_ < 1664
    · rw [if_pos h, List.getElem?_set, slots_get _ _ hj, hs]
      by_cases e : at_ = 256 + j
      · rw [if_pos e, if_pos (by omega), if_pos (by omega), if_pos (by omega)]
      · rw [if_neg e, if_neg (by omega)]
    · rw [if_neg h, slots_get _ _ hj, if_neg (by omega)]
  · have h1 := slots_len _ hl
    rw [List.getElem?_eq_none (by omega), List.getElem?_eq_none (by split <;> (try rw [List.length_set]) <;> omega)]

theorem read_err {d : List UInt8} (h : ∀ n l, read d ≠ (n, l, 0)) : ∃ c, read d = (0, [], c) ∧ c ≠ 0 := by
  rw [← pread_eq] at h ⊢
  unfold pread at h ⊢
  split
  · exact ⟨1, rfl, by decide⟩
  · split
    · exact ⟨4, rfl, by decide⟩
    · split
      · exact ⟨5, rfl, by decide⟩
      · rename_i h1 h2 h3
        rw [if_neg h1, if_neg h2, if_neg h3] at h
        exact absurd rfl (h _ _)

theorem damage {d : List UInt8} {n : Int} {l : List Wr} (hr : read d = (n, l, 0)) (hl : l ≠ []) (at_ : Nat) (hat : (128 ≤ at_ ∧ at_ < 156) ∨ (256 ≤ at_ ∧ at_ < 1664)) (c : UInt8) (hlt : at_ < d.length) (hc : d[at_] ≠ c) : ∃ e, read (d.set at_ c) = (0, [], e) ∧ e ≠ 0 := by
  refine read_err fun n' l' hr' => ?_
  obtain ⟨hd, -, hlog, h11, -⟩ := read_ok hr
  obtain ⟨hd', -, -, -, -⟩ := read_ok hr'
  have hcn : cnt (blk d 1) ≠ 0 := fun e => hl (by rw [hlog, e]; rfl)
  have hbl := blk_len d 1 (by omega)
  -- both logs are whole
  have key : ∀ (e : List UInt8) n l, read e = (n, l, 0) → leadOk (blk e 1) = true ∧ get (((blk e 1).drop 20).take 8) = Sum.of (cov e) := by
    intro e n l h
    rw [← pread_eq] at h
    unfold pread at h
    split at h
    · simp at h
    · split at h
      · simp at h
      · split at h
        · simp at h
        · rename_i h1 h2 h3
          refine ⟨?_, Classical.byContradiction fun hh => h3 hh⟩
          have : formOk (blk e 1) = true := by simpa using h2
          unfold formOk at this
          simp only [Bool.and_eq_true] at this
          exact this.1
  obtain ⟨k1, k2⟩ := key d n l hr
  obtain ⟨k3, k4⟩ := key _ n' l' hr'
  have hcov : cov d = (blk d 1).take 20 ++ slots d := by unfold cov; rw [if_neg hcn]
  have hb := blk_set d hd at_ c 1 (by omega)
  have hs := slots_set d hd at_ c
  rcases hat with ⟨a1, a2⟩ | ⟨a1, a2⟩
  · rw [if_pos (by omega)] at hb
    rw [if_neg (by omega)] at hs
    obtain ⟨p, rfl⟩ : ∃ p, at_ = 128 + p := ⟨at_ - 128, by omega⟩
    rw [show 128 + p - 1 * 128 = p by omega] at hb
    have hne : (blk d 1)[p]'(by omega) ≠ c := by
      have e := blk_get d 1 p (by omega)
      rw [List.getElem?_eq_getElem (by omega), show 1 * 128 + p = 128 + p by omega, List.getElem?_eq_getElem hlt] at e
      rw [Option.some.inj e]
      exact hc
    have hp28 : p < 28 := by omega
    by_cases h20 : p < 20
    · -- in the bytes that are summed
      have hcn' : cnt (blk (d.set (128 + p) c) 1) ≠ 0 := by
        intro h0
        rw [hb] at h0
        unfold leadOk at k1 k3
        rw [hb] at k3
        simp only [Bool.or_eq_true, decide_eq_true_eq] at k1 k3
        have i1 : (blk d 1).take 4 = [74, 82, 78, 49] := by
          rcases k1 with k | k
          · exact absurd k.2 hcn
          · exact k.1
        have i2 : ((blk d 1).set p c).take 4 = [74, 82, 78, 48] := by
          rcases k3 with k | k
          · exact k.1
          · omega
        by_cases h4 : p = 4
        · subst h4
          rw [List.take_set_of_le (by omega), i1] at i2
          cases i2
        · have : cnt ((blk d 1).set p c) = cnt (blk d 1) := by
            unfold cnt
            rw [List.getD_eq_getElem?_getD, List.getD_eq_getElem?_getD, List.getElem?_set_ne h4]
          rw [this] at h0
          exact hcn h0
      have hcov' : cov (d.set (128 + p) c) = (cov d).set p c := by
        unfold cov
        rw [if_neg hcn', if_neg hcn, hs, hb, List.set_append_left _ _ (by rw [List.length_take]; omega), List.take_set]
      have hm : ((blk (d.set (128 + p) c) 1).drop 20).take 8 = ((blk d 1).drop 20).take 8 := by rw [hb, List.drop_set_of_lt (by omega)]
      rw [hm, k2] at k4
      have hpl : p < (cov d).length := by rw [hcov, List.length_append, List.length_take]; omega
      refine of_ne hpl ?_ hcov' k4.symm
      have e3 : (cov d)[p]? = (blk d 1)[p]? := by rw [hcov, List.getElem?_append_left (by rw [List.length_take]; omega), List.getElem?_take, if_pos h20]
      rw [List.getElem?_eq_getElem hpl, List.getElem?_eq_getElem (by omega)] at e3
      rw [Option.some.inj e3]
      exact hne
    · -- in the sum itself
      have hcn' : cnt (blk (d.set (128 + p) c) 1) = cnt (blk d 1) := by
        rw [hb]
        unfold cnt
        rw [List.getD_eq_getElem?_getD, List.getD_eq_getElem?_getD, List.getElem?_set_ne (by omega)]
      have hcov' : cov (d.set (128 + p) c) = cov d := by
        unfold cov
        rw [hcn', hs, hb, List.take_set_of_le (by omega)]
      rw [hcov', ← k2] at k4
      have hm : ((blk (d.set (128 + p) c) 1).drop 20).take 8 = (((blk d 1).drop 20).take 8).set (p - 20) c := by
        rw [hb, List.drop_set, if_neg (by omega), List.take_set]
      rw [hm] at k4
      have hl8 : (((blk d 1).drop 20).take 8).length = 8 := by rw [List.length_take, List.length_drop]; omega
      have e4 := num_get8 (((blk d 1).drop 20).take 8) (by omega)
      have e5 := num_get8 ((((blk d 1).drop 20).take 8).set (p - 20) c) (by rw [List.length_set]; omega)
      rw [List.length_set, hl8, k4] at e5
      rw [hl8] at e4
      have e6 := e5.symm.trans e4
      have e7 := congrArg (fun x => x[p - 20]?) e6
      simp only [List.getElem?_set_self', List.getElem?_take, List.getElem?_drop] at e7
      rw [if_pos (by omega), show 20 + (p - 20) = p by omega, List.getElem?_eq_getElem (by omega)] at e7
      simp at e7
      exact hne e7.symm
  · rw [if_neg (by omega)] at hb
    rw [if_pos (by omega)] at hs
    have hsl := slots_len d hd
    have hcov' : cov (d.set at_ c) = (cov d).set (20 + (at_ - 256)) c := by
      have h20 : ((blk d 1).take 20).length = 20 := by rw [List.length_take]; omega
      unfold cov
      rw [hb, if_neg hcn, if_neg hcn, hs, List.set_append_right _ _ (by omega), h20, show 20 + (at_ - 256) - 20 = at_ - 256 by omega]
    rw [hb, k2] at k4
    have hpl : 20 + (at_ - 256) < (cov d).length := by rw [hcov, List.length_append, List.length_take]; omega
    refine of_ne hpl ?_ hcov' k4.symm
    have e3 : (cov d)[20 + (at_ - 256)]? = d[at_]? := by
      have h20 : ((blk d 1).take 20).length = 20 := by rw [List.length_take]; omega
      rw [hcov, List.getElem?_append_right (by omega), h20, show 20 + (at_ - 256) - 20 = at_ - 256 by omega, slots_get _ _ (by omega), show 256 + (at_ - 256) = at_ by omega]
    rw [List.getElem?_eq_getElem hpl, List.getElem?_eq_getElem hlt] at e3
    rw [Option.some.inj e3]
    exact hc
end Jr
