/-
  The law InodesFew is proved: it answers true for every input (its walk, and the row).
-/
import Derived.Test.YtbklmpekpcneeaaBi
import Derived.Test.YtbklmpekpcneeaaBh
import Derived.Test.YtbklmpekpcneeaaBe
import Derived.Test.YtbklmpekpcneeaaBg
import Derived.Test.YtbklmpekpcneeaaRows
import Derived.WalkKit
import Derived.ProofKit
import Derived.OpenShut
import Derived.ShutString
import Derived.ChangeOld
import Derived.Below
set_option linter.unusedVariables false
set_option linter.unusedSimpArgs false
set_option maxRecDepth 100000
namespace Nd
theorem write_err {d : List UInt8} {n o : Int} {s : List UInt8} (h : (write d n o s).2 ≠ 0) : (write d n o s).1 = [] := by
  unfold write at h ⊢
  split
  · rfl
  · rename_i h1
    rw [if_neg h1] at h
    simp only at h ⊢
    generalize (if (raw d n.toNat).kind = 2 then (128 : Int) else 1536) = M at h ⊢
    split
    · rfl
    · rename_i h2
      rw [if_neg h2] at h
      split
      · rename_i h3
        rw [if_pos h3] at h
        simp at h
      · rename_i h3
        rw [if_neg h3] at h
        split
        · rfl
        · rename_i h4
          rw [if_neg h4] at h
          split
          · rfl
          · rename_i h5
            rw [if_neg h5] at h
            simp at h
theorem write_same {d d' : List UInt8} {n o : Int} (h : write d n o [] = (d', 0)) : d' = d ∧ 0 ≤ o ∧ ∃ m : Nat, n = m ∧ m < 32 ∧ (raw d m).kind ≠ 0 := by
  unfold write at h
  split at h
  · rename_i hc; injection h with _ h; exact absurd h hc
  rename_i hc
  obtain ⟨-, -, m, rfl, hm, hk, -⟩ := get_ok (Classical.not_not.1 hc)
  simp only at h
  split at h
  · simp at h
  rename_i ho
  simp only [if_true] at h
  injection h with h _
  exact ⟨h.symm, by omega, m, rfl, hm, hk⟩
/-- Some bytes are written over others, zeros between. -/
def over (c : List UInt8) (o : Nat) (s : List UInt8) : List UInt8 := if s = [] then c else Jr.put (c ++ List.replicate (o + s.length - c.length) 0) o s
theorem over_nil (c : List UInt8) (o : Nat) : over c o [] = c := if_pos rfl
theorem g_pad (c : List UInt8) (k i : Nat) : g (c ++ List.replicate k 0) i = g c i := by
  unfold g
  rw [List.getD_eq_getElem?_getD, List.getElem?_append]
  by_cases h : i < c.length
  · rw [if_pos h, List.getD_eq_getElem?_getD]
  · rw [if_neg h, List.getElem?_replicate, List.getD_eq_getElem?_getD, List.getElem?_eq_none (by omega)]
    split <;> rfl
theorem write_law {d d' : List UInt8} {n o : Int} {s : List UInt8} (hd : Ok d) (h : write d n o s = (d', 0)) : Ok d' ∧ ∃ (m p : Nat) (c : List UInt8), n = m ∧ o = p ∧ m < 32 ∧ c.length ≤ 1536 ∧ (s ≠ [] → p + s.length ≤ 1536) ∧ cont d n = 43 :: c ∧ cont d' n = 43 :: over c p s ∧ ∀ i : Nat, i < 32 → i ≠ m → cont d' (i : Int) = cont d (i : Int) := by
  by_cases hs : s = []
  · subst hs
    obtain ⟨rfl, ho, m, rfl, hm, hk⟩ := write_same h
    obtain ⟨hsz, h96⟩ := ok_bk96 hd hm hk
    exact ⟨hd, m, o.toNat, content d' (raw d' m), rfl, by omega, hm, by rw [content_len hd.1 h96 hsz]; exact hsz, fun h => absurd rfl h, cont_some hd hm hk, by rw [over_nil]; exact cont_some hd hm hk, fun i _ _ => rfl⟩
  obtain ⟨-, -, ho, m, rfl, hm, hk, y, hyk, hys, h1536, hstp, hb1, -, hb3, hby⟩ := write_stp h hs
  obtain ⟨p, rfl⟩ : ∃ p : Nat, o = p := ⟨o.toNat, by omega⟩
  rw [Int.toNat_natCast] at hys h1536 hb3 hby
  obtain ⟨hsz, h96⟩ := ok_bk96 hd hm hk
  have hyk' : (raw d' m).kind ≠ 0 := by rw [hstp.raw, hyk]; exact hk
  obtain ⟨hsz', h96'⟩ := ok_bk96 hstp.ok hm hyk'
  refine ⟨hstp.ok, m, p, content d (raw d m), rfl, rfl, hm, by rw [content_len hd.1 h96 hsz]; exact hsz, fun _ => h1536, cont_some hd hm hk, ?_, fun i hi hne => hstp.cont_other hd hi hne⟩
  rw [cont_some hstp.ok hm hyk']
  congr 1
  rw [hstp.raw] at hsz' h96' ⊢
  have hcl := content_len hd.1 h96 hsz
  have hl1 : (content d' y).length = max (raw d m).size (p + s.length) := by rw [content_len hstp.len h96' hsz', hys]
  unfold over
  rw [if_neg hs, hcl]
  have hpl : (content d (raw d m) ++ List.replicate (p + s.length - (raw d m).size) 0).length = max (raw d m).size (p + s.length) := by
    rw [List.length_append, hcl, List.length_replicate]; omega
  refine ext_g (by rw [hl1, put_len (by rw [hpl]; omega), hpl]) fun t ht => ?_
  rw [hl1] at ht
  rw [content_g hstp.len h96' hsz' (by rw [hys]; exact ht), g_put (by rw [hpl]; omega), g_pad]
  have h12 : t / 128 < 12 := by omega
  have ht2 : 128 * (t / 128) + t % 128 = t := by omega
  have hm128 : t % 128 < 128 := Nat.mod_lt _ (by decide)
  -- what the elder content reads there
  have hold : g (content d (raw d m)) t = if bk (raw d m) (t / 128) = 0 then 0 else g d (128 * bk (raw d m) (t / 128) + t % 128) := by
    by_cases h1 : t < (raw d m).size
    · exact content_g hd.1 h96 hsz h1
    · rw [g_out (by omega)]
      by_cases h0 : bk (raw d m) (t / 128) = 0
      · rw [if_pos h0]
      · rw [if_neg h0]
        have hg := hd.2.good hm hk
        rcases hg.2.2.1 (t / 128) h12 with h2 | h2
        · exact absurd h2 h0
        · exact (h2.2.2.2 (t % 128) hm128 (by omega)).symm
  by_cases hy0 : bk y (t / 128) = 0
  · rw [if_pos hy0]
    have hx0 : bk (raw d m) (t / 128) = 0 := by
      by_cases h0 : bk (raw d m) (t / 128) = 0
      · exact h0
      · rw [hb1 _ h12 h0] at hy0; exact absurd hy0 h0
    have hno : ¬ (p ≤ t ∧ t < p + s.length) := fun hr => hb3 (t / 128) h12 (by omega) (by omega) hy0
    rw [if_neg hno, hold, if_pos hx0]
  · rw [if_neg hy0, hby _ _ h12 hy0 hm128, ht2]
    by_cases hr : p ≤ t ∧ t < p + s.length
    · rw [if_pos hr, if_pos hr]
    · rw [if_neg hr, if_neg hr, hold]
end Nd
set_option maxRecDepth 100000
namespace Nd
/-- Of the inodes 1 .. k - 1 none is used. -/
def Emp (d : List UInt8) (k : Nat) : Prop := Ok d ∧ ∀ m, 1 ≤ m → m < k → (raw d m).kind = 0
theorem emp_start {d : List UInt8} (h : Ok d) : Emp d 1 := ⟨h, fun m h1 h2 => by omega⟩
theorem cont_cases {d : List UInt8} (h : Ok d) {m : Nat} (hm : m < 32) : ((raw d m).kind = 0 ∧ cont d (m : Int) = [45]) ∨ ((raw d m).kind ≠ 0 ∧ ∃ C, cont d (m : Int) = 43 :: C ∧ C.length ≤ 1536) := by
  by_cases hk : (raw d m).kind = 0
  · exact Or.inl ⟨hk, cont_none h hm hk⟩
  · obtain ⟨hs, hb⟩ := ok_bk96 h hm hk
    exact Or.inr ⟨hk, _, cont_some h hm hk, by rw [content_len h.1 hb hs]; exact hs⟩
theorem free_go {d : List UInt8} (h : Ok d) {m : Nat} (h1 : 1 ≤ m) (hm : m < 32) (hk : (raw d m).kind ≠ 0) : ∃ d', freeN d (m : Int) = (d', 0) := by
  unfold freeN
  rw [get_in h hm hk, if_neg (by simp), if_neg (by omega)]
  exact ⟨_, rfl⟩
theorem emp_step {d : List UInt8} {k : Nat} (h : Emp d k) (h1 : 1 ≤ k) (hk : k < 32) : (cont d (k : Int) = [45] ∧ Emp d (k + 1)) ∨ ∃ C d', C.length ≤ 1536 ∧ cont d (k : Int) = 43 :: C ∧ freeN d (k : Int) = (d', 0) ∧ Emp d' (k + 1) := by
  rcases cont_cases h.1 hk with ⟨h2, h3⟩ | ⟨h2, C, h3, h4⟩
  · refine Or.inl ⟨h3, h.1, fun m a b => ?_⟩
    by_cases e : m = k
    · rw [e]; exact h2
    · exact h.2 m a (by omega)
  · obtain ⟨d', hf⟩ := free_go h.1 h1 hk h2
    refine Or.inr ⟨C, d', h4, h3, hf, ?_⟩
    obtain ⟨-, -, m, e, hm, -, -, hstp⟩ := free_stp hf
    obtain rfl : k = m := by omega
    refine ⟨hstp.ok, fun j a b => ?_⟩
    by_cases e : j = k
    · rw [e, hstp.raw]; rfl
    · rw [hstp.other j (by omega) e]; exact h.2 j a (by omega)
theorem raw_free {d : List UInt8} (h : Ok d) {m : Nat} (hm : m < 32) (hk : (raw d m).kind = 0) : raw d m = free := by
  rcases (h.2.2.2.2.1 m hm).2 with h1 | h1
  · exact h1
  · rcases h1.1 with h2 | h2 <;> omega
theorem used_root {d : List UInt8} {x : Ino} (hg : good d x) (hk : x.kind = 2) (hl : x.bl.length = 12) : (used [x]).length = 1 := by
  obtain ⟨-, -, hs, h2⟩ := hg
  rcases h2 with h2 | ⟨h2, h3⟩
  · omega
  have hz : ∀ i, 1 ≤ i → i < 12 → bk x i = 0 := fun i h1 hi => by
    rcases hs i hi with h | h
    · exact h
    · have := h.2.2.1; omega
  unfold used
  simp only [List.flatMap_cons, List.flatMap_nil, List.append_nil]
  match hb : x.bl, hl with
  | a :: r, hl =>
    have ha : a ≠ 0 := by have := h3; unfold bk at this; rw [hb] at this; simpa using this
    have hr : r.filter (fun b => b ≠ 0) = [] := by
      rw [List.filter_eq_nil_iff]
      intro b hb2
      obtain ⟨j, hj, rfl⟩ := List.getElem_of_mem hb2
      have hl' : r.length = 11 := by simpa using hl
      have := hz (j + 1) (by omega) (by omega)
      unfold bk at this
      rw [hb, List.getD_eq_getElem?_getD, List.getElem?_cons_succ, List.getElem?_eq_getElem hj] at this
      simpa using this
    rw [List.filter_cons, hr]
    simp [ha]
theorem inos_root {d : List UInt8} (h : Emp d 32) : inos d = raw d 0 :: List.replicate 31 free := by
  apply List.ext_getElem?
  intro i
  by_cases hi : i < 32
  · rw [raw_get d hi]
    cases i with
    | zero => rfl
    | succ i => rw [List.getElem?_cons_succ, List.getElem?_replicate, if_pos (by omega), raw_free h.1 hi (h.2 (i + 1) (by omega) hi)]
  · rw [List.getElem?_eq_none (by rw [inos_len]; omega), List.getElem?_eq_none (by simp; omega)]
theorem emp_end {d : List UInt8} (h : Emp d 32) : usage d = (1, 1, 0) ∧ freeN d 0 = ([], 12) := by
  have hk2 : (raw d 0).kind = 2 := h.1.2.2.2.2.2.1
  have hg := h.1.2.good (n := 0) (by decide) (by omega)
  have hi := inos_root h
  have hk : cntK d = 1 := by
    unfold cntK
    rw [hi, List.filter_cons, if_pos (by simp [hk2])]
    rw [show (List.replicate 31 free).filter (fun x => decide (x.kind ≠ 0)) = [] by decide]
    rfl
  have hu : (used (inos d)).length = 1 := by
    rw [hi]
    have e : used (raw d 0 :: List.replicate 31 free) = used [raw d 0] ++ used (List.replicate 31 free) := by unfold used; simp
    rw [e, show used (List.replicate 31 free) = [] by decide, List.append_nil]
    exact used_root hg hk2 (raw_enc d 0).n
  refine ⟨by rw [usage_at h.1, hk, hu]; rfl, ?_⟩
  have hg0 := get_in h.1 (m := 0) (by decide) (by omega)
  unfold freeN
  rw [show ((0 : Nat) : Int) = 0 from rfl] at hg0
  rw [hg0, if_neg (by simp), if_pos rfl]
end Nd
set_option maxRecDepth 100000
namespace Nd
theorem full_used {d : List UInt8} (hd : Ok d) (h : ∀ j, 18 ≤ j → j < 96 → Ex.getB (bits d) (j : Nat) = true) : (used (inos d)).length = 78 := by
  have h1 := usage_ok hd
  unfold usage at h1
  rw [if_neg (by rw [hd.check]; simp)] at h1
  injection h1 with _ h1
  injection h1 with h1 _
  have hc : Ex.countTo (bits d) 96 = 96 := by
    unfold Ex.countTo
    rw [List.filter_eq_self.2 fun j hj => ?_, List.length_range]
    have hj := List.mem_range.1 hj
    by_cases h2 : j < 18
    · rw [hd.2.bit hj]; simp [h2]
    · exact h j (by omega) hj
  rw [hc] at h1
  omega
theorem full_inos {d : List UInt8} (h : (List.range 32).find? (fun n => (raw d n).kind = 0) = none) : cntK d = 32 := by
  unfold cntK inos
  rw [List.filter_eq_self.2 fun x hx => ?_, List.length_map, List.length_range]
  obtain ⟨n, hn, rfl⟩ := List.mem_map.1 hx
  have := List.find?_eq_none.1 h n hn
  simpa using this
theorem alloc_err {d d' : List UInt8} {kind n ec : Int} (hd : Ok d) (h : alloc d kind = (n, d', ec)) (he : ec ≠ 0) : d' = [] ∧ n = 0 ∧ ((ec = 1 ∧ kind ≠ 1 ∧ kind ≠ 2) ∨ (ec = 13 ∧ (cntK d = 32 ∨ (kind = 2 ∧ (used (inos d)).length = 78)))) := by
  unfold alloc at h
  rw [if_neg (by rw [hd.check]; simp)] at h
  split at h
  · rename_i hk
    injection h with h1 h; injection h with h2 h3
    exact ⟨h2.symm, h1.symm, Or.inl ⟨h3.symm, hk.1, hk.2⟩⟩
  rename_i hk
  split at h
  · rename_i hf
    injection h with h1 h; injection h with h2 h3
    exact ⟨h2.symm, h1.symm, Or.inr ⟨h3.symm, Or.inl (full_inos hf)⟩⟩
  · split at h
    · injection h with h1 h; injection h with h2 h3
      exact absurd h3.symm he
    · rename_i hk1
      simp only at h
      split at h
      · rename_i ht
        injection h with h1 h; injection h with h2 h3
        refine ⟨h2.symm, h1.symm, Or.inr ⟨h3.symm, Or.inr ⟨by omega, full_used hd fun j j1 j2 => ?_⟩⟩⟩
        unfold takeN at ht
        by_cases hl : 1 ≤ (Ex.cl (bits d) 18 96).length
        · rw [if_pos hl] at ht; simp at ht
        · have hn : Ex.cl (bits d) 18 96 = [] := List.eq_nil_of_length_eq_zero (by omega)
          unfold Ex.cl at hn
          have := List.filter_eq_nil_iff.1 hn j (by rw [List.mem_range'_1]; omega)
          simpa using this
      · injection h with h1 h; injection h with h2 h3
        exact absurd h3.symm he
theorem used_free_len {d : List UInt8} (hd : Ok d) {m : Nat} (hm : m < 32) (hk : (raw d m).kind = 0) : (used (inos d)).length = (U d m).length := by
  have h := (U_used (d := d) hm).length_eq
  rw [raw_free hd hm hk, used_free] at h
  simpa using h
theorem alloc_law {d d' : List UInt8} {kind n : Int} (hd : Ok d) (h : alloc d kind = (n, d', 0)) : Ok d' ∧ (kind = 1 ∨ kind = 2) ∧ ∃ (m : Nat) (b : List UInt8), n = m ∧ m < 32 ∧ cont d (m : Int) = [45] ∧ cont d' (m : Int) = 43 :: (if kind = 2 then List.replicate 128 0 else []) ∧
    (∀ i : Nat, i < m → ∃ C, cont d (i : Int) = 43 :: C) ∧ (∀ i : Nat, i < 32 → i ≠ m → cont d' (i : Int) = cont d (i : Int)) ∧ freeN d' (m : Int) = (b, 0) ∧ Ok b ∧ (∀ i : Nat, i < 32 → cont b (i : Int) = cont d (i : Int)) ∧ cntK b = cntK d ∧ (used (inos b)).length = (used (inos d)).length := by
  obtain ⟨-, -, hk, m, rfl, hm, hm0, hlow, hs⟩ := alloc_stp h
  have hroot : m ≠ 0 := fun e => by
    subst e
    have := hd.2.root
    omega
  obtain ⟨x, hstp, hxk, hcx⟩ : ∃ x : Ino, Stp d d' m x ∧ x.kind ≠ 0 ∧ content d' x = (if kind = 2 then List.replicate 128 0 else []) := by
    rcases hs with ⟨hk1, hstp⟩ | ⟨i, hk2, h18, h96, -, hstp, hz⟩
    · refine ⟨_, hstp, by decide, ?_⟩
      rw [if_neg (by omega)]
      unfold content
      simp
    · refine ⟨_, hstp, (by decide : (2 : Nat) ≠ 0), ?_⟩
      rw [if_pos hk2]
      have hb96 : ∀ j, j < 12 → bk (⟨2, 128, (List.replicate 12 0).set 0 i⟩ : Ino) j < 96 := fun j hj => by
        unfold bk
        rw [List.getD_eq_getElem?_getD, List.getElem?_set]
        split
        · simp; exact h96
        · rw [List.getElem?_replicate]; split <;> simp
      have hb0 : bk (⟨2, 128, (List.replicate 12 0).set 0 i⟩ : Ino) 0 = i := by
        unfold bk; simp
      have hl := content_len hstp.len hb96 (show (128 : Nat) ≤ 1536 by decide)
      refine ext_g (by rw [hl, List.length_replicate]) fun t ht => ?_
      rw [hl] at ht
      have ht : t < 128 := ht
      rw [content_g hstp.len hb96 (show (128 : Nat) ≤ 1536 by decide) ht, show t / 128 = 0 by omega, hb0, if_neg (by omega), hz (t % 128) (Nat.mod_lt _ (by decide))]
      unfold g
      rw [List.getD_eq_getElem?_getD, List.getElem?_replicate]
      split <;> rfl
  have hk' : (raw d' m).kind ≠ 0 := by rw [hstp.raw]; exact hxk
  obtain ⟨b, hb⟩ := free_go hstp.ok (by omega) hm hk'
  have hb2 := hb
  obtain ⟨-, -, m2, e, -, -, -, hstp2⟩ := free_stp hb2
  obtain rfl : m = m2 := by omega
  have hbk : (raw b m).kind = 0 := by rw [hstp2.raw]; rfl
  refine ⟨hstp.ok, hk, m, b, rfl, hm, cont_none hd hm hm0, ?_, fun i hi => ⟨_, cont_some hd (by omega) (hlow i hi)⟩, fun i hi hne => hstp.cont_other hd hi hne, hb, hstp2.ok, fun i hi => ?_, ?_, ?_⟩
  · rw [cont_some hstp.ok hm hk', hstp.raw, hcx]
  · by_cases e : i = m
    · rw [e, cont_none hstp2.ok hm hbk, cont_none hd hm hm0]
    · rw [hstp2.cont_other hstp.ok hi e, hstp.cont_other hd hi e]
  · have h1 := hstp.cnt hm
    have h2 := hstp2.cnt hm
    rw [if_neg (by omega), if_pos hxk] at h1
    rw [if_pos hk', if_neg (by decide)] at h2
    omega
  · rw [used_free_len hd hm hm0, used_free_len hstp2.ok hm hbk]
    have h1 := hstp.used.length_eq
    have h2 := (U_used (d := d') hm).length_eq
    have h3 := hstp2.used.length_eq
    have h4 := used_free_len hstp2.ok hm hbk
    rw [hstp.raw, List.length_append] at h2
    rw [List.length_append] at h1
    rw [used_free, List.nil_append] at h3
    omega
end Nd
set_option maxRecDepth 100000
namespace Nd
/-- Outside the log. -/
def outL (n : Nat) : Bool := decide (n < 1) || decide (12 < n)
theorem diff_zero (a b : List UInt8) : diff a b 0 = [] := rfl
theorem diff_step (a b : List UInt8) (k : Nat) : diff a b (k + 1) = diff a b k ++ (if (outL k && decide (Jr.blk b k ≠ Jr.blk a k)) = true then [((k : Int), Jr.blk b k)] else []) := by
  unfold diff
  rw [List.range_succ, List.filter_append, List.map_append]
  congr 1
  rw [List.filter_cons, List.filter_nil]
  show (if (outL k && decide (Jr.blk b k ≠ Jr.blk a k)) = true then [k] else []).map _ = _
  split <;> rfl
theorem diff_mem {a b : List UInt8} {k : Nat} {x : Jr.Wr} (h : x ∈ diff a b k) : ∃ n : Nat, x = ((n : Int), Jr.blk b n) ∧ n < k ∧ outL n = true ∧ Jr.blk b n ≠ Jr.blk a n := by
  unfold diff at h
  obtain ⟨n, hn, rfl⟩ := List.mem_map.1 h
  rw [List.mem_filter, List.mem_range] at hn
  obtain ⟨h1, h2⟩ := hn
  rw [Bool.and_eq_true, decide_eq_true_eq] at h2
  exact ⟨n, rfl, h1, h2.1, h2.2⟩
theorem diff_len (a b : List UInt8) (k : Nat) : (diff a b k).length ≤ k := by
  unfold diff
  rw [List.length_map]
  exact Nat.le_trans (List.length_filter_le _ _) (by rw [List.length_range]; exact Nat.le_refl _)
theorem blk_same {a b : List UInt8} (ha : a.length = 12288) (hb : b.length = 12288) {n : Nat} (hn : n < 96) : Jr.blk a n = Jr.blk b n ↔ ∀ j, j < 128 → g a (n * 128 + j) = g b (n * 128 + j) := by
  constructor
  · intro h j hj
    rw [← g_blk hj, ← g_blk hj, h]
  · intro h
    refine ext_g (by rw [blk_len ha hn, blk_len hb hn]) fun j hj => ?_
    rw [blk_len ha hn] at hj
    rw [g_blk hj, g_blk hj, h j hj]
theorem app_diff {a b : List UInt8} (ha : a.length = 12288) (hb : b.length = 12288) : ∀ k, k ≤ 96 → (Jr.app a (diff a b k)).length = 12288 ∧ ∀ n, n < 96 → ∀ j, j < 128 → g (Jr.app a (diff a b k)) (n * 128 + j) = if n < k ∧ outL n = true then g b (n * 128 + j) else g a (n * 128 + j)
  | 0, _ => ⟨ha, fun n hn j hj => by rw [if_neg (by omega)]; rfl⟩
  | k + 1, hk => by
    obtain ⟨h1, h2⟩ := app_diff ha hb k (by omega)
    rw [diff_step]
    split
    · rename_i hc
      rw [Bool.and_eq_true, decide_eq_true_eq] at hc
      rw [Jr.app_snoc]
      have hkl : (Jr.blk b k).length = 128 := blk_len hb (by omega)
      have e : ((k : Int), Jr.blk b k).1.toNat * 128 = k * 128 := by simp
      rw [e]
      refine ⟨by rw [put_len (by rw [h1]; show k * 128 + (Jr.blk b k).length ≤ _; rw [hkl]; omega)]; exact h1, fun n hn j hj => ?_⟩
      rw [g_put (by rw [h1]; show k * 128 + (Jr.blk b k).length ≤ _; rw [hkl]; omega)]
      show (if k * 128 ≤ n * 128 + j ∧ n * 128 + j < k * 128 + (Jr.blk b k).length then g (Jr.blk b k) _ else _) = _
      rw [hkl]
      by_cases hnk : n = k
      · subst hnk
        rw [if_pos (by omega), if_pos ⟨by omega, hc.1⟩, show n * 128 + j - n * 128 = j by omega, g_blk hj]
      · rw [if_neg (by omega), h2 n hn j hj]
        by_cases hlt : n < k ∧ outL n = true
        · rw [if_pos hlt, if_pos ⟨by omega, hlt.2⟩]
        · rw [if_neg hlt, if_neg (fun h => hlt ⟨by omega, h.2⟩)]
    · rename_i hc
      rw [List.append_nil]
      refine ⟨h1, fun n hn j hj => ?_⟩
      rw [h2 n hn j hj]
      by_cases hnk : n = k
      · subst hnk
        rw [if_neg (by omega)]
        by_cases ho : outL n = true
        · rw [if_pos ⟨by omega, ho⟩]
          have he : Jr.blk b n = Jr.blk a n := by
            rw [ho, Bool.true_and, decide_eq_true_eq] at hc
            exact Classical.not_not.1 hc
          exact ((blk_same hb ha hn).1 he j hj).symm
        · rw [if_neg (fun h => ho h.2)]
      · by_cases hlt : n < k ∧ outL n = true
        · rw [if_pos hlt, if_pos ⟨by omega, hlt.2⟩]
        · rw [if_neg hlt, if_neg (fun h => hlt ⟨by omega, h.2⟩)]
/-- Two disks with the same log: the changes lead from the one to the other. -/
theorem apply_diff {a b : List UInt8} (ha : a.length = 12288) (hb : b.length = 12288) (hlog : ∀ n, outL n = false → ∀ j, j < 128 → g b (n * 128 + j) = g a (n * 128 + j)) : Jr.apply a (diff a b 96) = (b, 0) := by
  obtain ⟨h1, h2⟩ := app_diff ha hb 96 (Nat.le_refl _)
  unfold Jr.apply
  rw [if_neg (by rw [ha]; simp), if_pos]
  · congr 1
    refine ext_g (by rw [h1, hb]) fun i hi => ?_
    rw [h1] at hi
    have h3 := h2 (i / 128) (by omega) (i % 128) (Nat.mod_lt _ (by decide))
    rw [show i / 128 * 128 + i % 128 = i by omega] at h3
    rw [h3]
    by_cases ho : outL (i / 128) = true
    · rw [if_pos ⟨by omega, ho⟩]
    · rw [if_neg (fun h => ho h.2)]
      have h4 := hlog (i / 128) (by simpa using ho) (i % 128) (Nat.mod_lt _ (by decide))
      rw [show i / 128 * 128 + i % 128 = i by omega] at h4
      exact h4.symm
  · rw [List.all_eq_true]
    intro x hx
    obtain ⟨n, rfl, hn, -, -⟩ := diff_mem hx
    unfold Jr.fits
    rw [Bool.and_eq_true, Bool.and_eq_true, decide_eq_true_eq, decide_eq_true_eq, decide_eq_true_eq]
    refine ⟨by simp, by simp only; omega, blk_len hb hn⟩
end Nd
set_option maxRecDepth 100000
namespace Nd
theorem pour_far {x : Ino} : ∀ (s : List UInt8) {d : List UInt8} {off : Nat} {k : Nat}, (∀ p, off ≤ p → p < off + s.length → bk x (p / 128) ≠ k) → ∀ j, j < 128 → g (pour x d off s) (128 * k + j) = g d (128 * k + j)
  | [], _, _, _, _, _, _ => rfl
  | c :: s, d, off, k, h, j, hj => by
    show g (pour x (d.set (bk x (off / 128) * 128 + off % 128) c) (off + 1) s) _ = _
    rw [pour_far s (fun p h1 h2 => h p (by omega) (by rw [List.length_cons]; omega)) j hj]
    have h0 := h off (Nat.le_refl _) (by rw [List.length_cons]; omega)
    have hm : off % 128 < 128 := Nat.mod_lt _ (by decide)
    have hne : bk x (off / 128) * 128 + off % 128 ≠ 128 * k + j := fun e => h0 (by omega)
    unfold g
    rw [List.getD_eq_getElem?_getD, List.getD_eq_getElem?_getD, List.getElem?_set_ne hne]
theorem fill_onto : ∀ (f l : List Nat) {x : Ino}, (∀ i ∈ f, i < x.bl.length) → f.Nodup → f.length = l.length → ∀ n ∈ l, ∃ i ∈ f, bk (fill x f l) i = n
  | [], [], _, _, _, _, n, h => by simp at h
  | [], _ :: _, _, _, _, h, _, _ => by simp at h
  | _ :: _, [], _, _, _, h, _, _ => by simp at h
  | i :: f, m :: l, x, hb, hn, hl, n, h => by
    rw [fill_cons]
    obtain ⟨h1, h2⟩ := List.nodup_cons.1 hn
    have hb2 : ∀ i' ∈ f, i' < (setBl x i m).bl.length := fun i' hi' => by
      have := hb i' (List.mem_cons_of_mem _ hi')
      unfold setBl; rw [List.length_set]; exact this
    rcases List.mem_cons.1 h with rfl | h
    · refine ⟨i, by simp, ?_⟩
      rw [fill_out f l hb2 i h1]
      have := hb i (by simp)
      unfold bk setBl
      rw [List.getD_eq_getElem?_getD, List.getElem?_set_self this]
      rfl
    · obtain ⟨i', hi', e⟩ := fill_onto f l hb2 h2 (by simpa using hl) n h
      exact ⟨i', List.mem_cons_of_mem _ hi', e⟩
/-- The data blocks that a write leaves as they are. -/
theorem write_far {d d' : List UInt8} {n off : Int} {s : List UInt8} (h : write d n off s = (d', 0)) (hs : s ≠ []) : ∃ y : Ino, ∀ k, 18 ≤ k → k < 96 → (∀ p, off.toNat ≤ p → p < off.toNat + s.length → bk y (p / 128) ≠ k) → ∀ j, j < 128 → g d' (128 * k + j) = g d (128 * k + j) := by
  have h0 := h
  obtain ⟨hd, hF, hoff, m, rfl, hm, hk, -, -, -, h1536, -⟩ := write_stp h0 hs
  clear h0
  unfold write at h
  split at h
  · rename_i hc; injection h with _ h; exact absurd h hc
  rename_i hc
  simp only [Int.toNat_natCast] at h
  obtain ⟨o, rfl⟩ : ∃ o : Nat, off = o := ⟨off.toNat, by omega⟩
  rw [if_neg (show ¬ ((o : Int) < 0) by omega)] at h
  (try rw [if_neg hs] at h)
  simp only [Int.toNat_natCast] at h h1536 ⊢
  by_cases h2 : ((if (raw d m).kind = 2 then 128 else 1536 : Int) < o ∨ (if (raw d m).kind = 2 then 128 else 1536 : Int) - o < s.length)
  · rw [if_pos h2] at h; simp at h
  rw [if_neg h2] at h
  split at h
  · simp at h
  rename_i hr
  obtain ⟨r, b2, e0, htk⟩ : ∃ r b2, ∃ e0 : Int, takeN (bits d) (fresh (raw d m) o s.length).length = (r, b2, e0) := ⟨_, _, _, rfl⟩
  rw [htk] at h hr
  simp only [ne_eq, Classical.not_not] at hr
  subst hr
  simp only at h
  injection h with h _
  obtain ⟨hrl, hrn, hrm, rfl⟩ := takeN_ok htk
  clear htk h2 hc
  have hx := raw_enc d m
  have hfm : ∀ i, i ∈ fresh (raw d m) o s.length ↔ i < 12 ∧ o / 128 ≤ i ∧ i * 128 < o + s.length ∧ bk (raw d m) i = 0 := fun i => fresh_mem
  have hfx : ∀ i ∈ fresh (raw d m) o s.length, i < (raw d m).bl.length := fun i hi => by rw [hx.n]; exact ((hfm i).1 hi).1
  have honto := fill_onto (fresh (raw d m) o s.length) r hfx (fresh_nodup _ _ _) hrl.symm
  obtain ⟨-, -, fl⟩ := fill_same (fresh (raw d m) o s.length) r (raw d m)
  refine ⟨fill (raw d m) (fresh (raw d m) o s.length) r, fun k hk1 hk2 hfar j hj => ?_⟩
  generalize hy : fill (raw d m) (fresh (raw d m) o s.length) r = y at *
  have hkr : k ∉ r := fun hin => by
    obtain ⟨i, hi, e⟩ := honto k hin
    obtain ⟨-, i2, i3, -⟩ := (hfm i).1 hi
    have hsl : 0 < s.length := List.length_pos_iff.2 hs
    have h5 := hfar (max o (i * 128)) (by omega) (by omega)
    rw [show max o (i * 128) / 128 = i by omega] at h5
    exact h5 e
  have hzl : (zeroL d r).length = 12288 := zeroL_len r hd fun k hk => (hrm k hk).2.1
  have hpl : (pour y (zeroL d r) o s).length = 12288 := by rw [pour_len]; exact hzl
  have hbl : (Ex.puts (bits d) r true).length = 12 := by rw [Ex.length_puts]; exact bits_len hd
  have hyn : y.bl.length = 12 := fl.trans hx.n
  have hyn2 : (⟨y.kind, max y.size (o + s.length), y.bl⟩ : Ino).bl.length = 12 := hyn
  rw [← h]
  unfold putI
  rw [g_put (by rw [enc_len16 hyn2, putB_len hpl hbl]; unfold at_; omega), enc_len16 hyn2, if_neg (by unfold at_; omega), putB_g hpl hbl, if_neg (by omega), pour_far s hfar j hj, zeroL_g r hd (fun k hk => (hrm k hk).2.1) k j hj, if_neg hkr]
theorem upd_far {d2 b : List UInt8} {m : Nat} {x : Ino} (hd : d2.length = 12288) (hb : b.length = 12) (hm : m < 32) (hx : x.bl.length = 12) {k j : Nat} (hk : 18 ≤ k) (hj : j < 128) : g (putI (putB d2 b) m x) (128 * k + j) = g d2 (128 * k + j) := by
  unfold putI
  rw [g_put (by rw [enc_len16 hx, putB_len hd hb]; unfold at_; omega), enc_len16 hx, if_neg (by unfold at_; omega), putB_g hd hb, if_neg (by omega)]
theorem free_far {d d' : List UInt8} {n : Int} (h : freeN d n = (d', 0)) {k j : Nat} (hk : 18 ≤ k) (hj : j < 128) : g d' (128 * k + j) = g d (128 * k + j) := by
  have h0 := h
  obtain ⟨hd, -, m, rfl, hm, hm0, -⟩ := free_stp h0
  unfold freeN at h
  split at h
  · rename_i hc; injection h with _ h; exact absurd h hc
  split at h
  · simp at h
  injection h with h _
  rw [← h]
  simp only [Int.toNat_natCast]
  exact upd_far hd (by rw [drops_len, bits_len hd]) hm rfl hk hj
theorem trunc_far {d d' : List UInt8} {n z : Int} (h : truncate d n z = (d', 0)) : ∃ c, ∀ k, 18 ≤ k → k ≠ c → ∀ j, j < 128 → g d' (128 * k + j) = g d (128 * k + j) := by
  have h0 := h
  obtain ⟨hd, hF, hz0, hz1, m, rfl, hm, hk1, -⟩ := trunc_stp h0
  unfold truncate at h
  split at h
  · rename_i hc; injection h with _ h; exact absurd h hc
  simp only [Int.toNat_natCast] at h
  split at h
  · simp at h
  split at h
  · simp at h
  injection h with h _
  obtain ⟨s, rfl⟩ : ∃ s : Nat, z = s := ⟨z.toNat, by omega⟩
  simp only [Int.toNat_natCast] at h
  have hb96 : ∀ i, bk (cut (raw d m) s) i < 96 := fun i => by
    by_cases hi : i < 12
    · rw [cut_bk _ s hi]
      split
      · omega
      · exact hF.bk96 hm hi
    · unfold bk
      rw [List.getD_eq_getElem?_getD, List.getElem?_eq_none (by rw [cut_len]; omega)]; decide
  refine ⟨bk (cut (raw d m) s) (s / 128), fun k hk hne j hj => ?_⟩
  rw [← h, upd_far (wipe_len hd hb96) (by rw [drops_len, bits_len hd]) hm (cut_len _ _) hk hj, wipe_g hd hb96 hj, if_neg (fun h => hne h.2.2.1)]
theorem alloc_far {d d' : List UInt8} {n kind : Int} (h : alloc d kind = (n, d', 0)) : ∃ c, ∀ k, 18 ≤ k → k ≠ c → ∀ j, j < 128 → g d' (128 * k + j) = g d (128 * k + j) := by
  have h0 := h
  obtain ⟨hd, hF, -, m, -, hm, -⟩ := alloc_stp h0
  unfold alloc at h
  split at h
  · rename_i hc; injection h with _ h; injection h with _ h; exact absurd h hc
  split at h
  · simp at h
  split at h
  · simp at h
  rename_i q hq
  have hq1 : q < 32 := by simpa using List.mem_of_find?_eq_some hq
  split at h
  · injection h with _ h; injection h with h _
    refine ⟨0, fun k hk _ j hj => ?_⟩
    rw [← h]
    unfold putI
    rw [g_put (by rw [enc_len16 (by simp), hd]; unfold at_; omega), enc_len16 (by simp), if_neg (by unfold at_; omega)]
  · simp only at h
    split at h
    · simp at h
    rename_i ht
    injection h with _ h; injection h with h _
    have ht0 : (takeN (bits d) 1).2.2 = 0 := Classical.not_not.1 ht
    obtain ⟨r, b2, e0, htk⟩ : ∃ r b2, ∃ e0 : Int, takeN (bits d) 1 = (r, b2, e0) := ⟨_, _, _, rfl⟩
    rw [htk] at h ht0
    simp only at h ht0
    subst ht0
    obtain ⟨hrl, -, hrm, rfl⟩ := takeN_ok htk
    have hr0 : r.getD 0 0 ∈ r := by
      rw [List.getD_eq_getElem?_getD, List.getElem?_eq_getElem (by omega)]
      exact List.getElem_mem _
    have h96 : r.getD 0 0 < 96 := (hrm _ hr0).2.1
    refine ⟨r.getD 0 0, fun k hk hne j hj => ?_⟩
    rw [← h, upd_far (zeroB_len hd h96) (by rw [Ex.length_puts]; exact bits_len hd) hq1 (by simp) hk hj, zeroB_g hd h96, if_neg (by omega)]
/-- What differs behind a step: the bitmap, an inode, two data blocks. -/
structure Far (d d' : List UInt8) (m c1 c2 : Nat) : Prop where
  len : d'.length = 12288
  low : ∀ i, i < 1664 ∨ (1676 ≤ i ∧ i < 1792) → g d' i = g d i
  ino : ∀ q, q < 32 → q ≠ m → ∀ j, j < 16 → g d' (at_ q + j) = g d (at_ q + j)
  dat : ∀ k, 18 ≤ k → k < 96 → k ≠ c1 → k ≠ c2 → ∀ j, j < 128 → g d' (128 * k + j) = g d (128 * k + j)
theorem Stp.far {d d' : List UInt8} {m : Nat} {x : Ino} (h : Stp d d' m x) (c1 c2 : Nat) (hd : ∀ k, 18 ≤ k → k < 96 → k ≠ c1 → k ≠ c2 → ∀ j, j < 128 → g d' (128 * k + j) = g d (128 * k + j)) : Far d d' m c1 c2 := ⟨h.len, h.low, h.ino, hd⟩
theorem step_far {d d' : List UInt8} {x : Op} (h : step d x = (d', 0)) (hl : x.2.2.2.length ≤ 128) : d' = d ∨ ∃ m c1 c2, Far d d' m c1 c2 := by
  unfold step at h
  split at h
  · obtain ⟨n, e⟩ : ∃ n, alloc d x.2.1 = (n, d', 0) := ⟨(alloc d x.2.1).1, by rw [← h]⟩
    obtain ⟨c, hc⟩ := alloc_far e
    obtain ⟨-, -, -, m, -, -, -, -, ⟨-, hs⟩ | ⟨i, -, -, -, -, hs, -⟩⟩ := alloc_stp e
    · exact .inr ⟨m, c, c, hs.far c c fun k h1 _ h2 _ => hc k h1 h2⟩
    · exact .inr ⟨m, c, c, hs.far c c fun k h1 _ h2 _ => hc k h1 h2⟩
  split at h
  · obtain ⟨-, -, m, -, -, -, -, hs⟩ := free_stp h
    exact .inr ⟨m, 0, 0, hs.far 0 0 fun k h1 _ _ _ j hj => free_far h h1 hj⟩
  split at h
  · by_cases hs : x.2.2.2 = []
    · rw [hs] at h
      exact .inl (write_same h).1
    · obtain ⟨y, hy⟩ := write_far h hs
      obtain ⟨-, -, h0, m, -, -, -, y2, -, -, -, hst, -⟩ := write_stp h hs
      have hp : 0 < x.2.2.2.length := List.length_pos_iff.2 hs
      generalize x.2.2.1.toNat = o at hy
      generalize x.2.2.2.length = L at hy hl hp
      refine .inr ⟨m, bk y (o / 128), bk y ((o + L - 1) / 128), hst.far _ _ fun k h1 h2 h3 h4 j hj => hy k h1 h2 (fun p p1 p2 e => ?_) j hj⟩
      by_cases hq : p / 128 = o / 128
      · rw [hq] at e; exact h3 e.symm
      · rw [show p / 128 = (o + L - 1) / 128 by omega] at e; exact h4 e.symm
  split at h
  · obtain ⟨c, hc⟩ := trunc_far h
    obtain ⟨-, -, -, -, m, -, -, -, hs, -⟩ := trunc_stp h
    exact .inr ⟨m, c, c, hs.far c c fun k h1 _ h2 _ => hc k h1 h2⟩
  · simp at h
theorem Far.blk {d d' : List UInt8} {m c1 c2 : Nat} (h : Far d d' m c1 c2) (hd : d.length = 12288) {n : Nat} (hn : n < 96) (h1 : n ≠ 13) (h2 : n ≠ 14 + m / 8) (h3 : n ≠ c1) (h4 : n ≠ c2) : Jr.blk d' n = Jr.blk d n := by
  refine (blk_same h.len hd hn).2 fun j hj => ?_
  by_cases a : n < 13
  · exact h.low _ (.inl (by omega))
  by_cases b : n < 18
  · have hi := h.ino ((n - 14) * 8 + j / 16) (by omega) (by omega) (j % 16) (Nat.mod_lt _ (by decide))
    have e : at_ ((n - 14) * 8 + j / 16) + j % 16 = n * 128 + j := by unfold at_; omega
    rw [e] at hi
    exact hi
  · have := h.dat n (by omega) hn h3 h4 j hj
    rw [show n * 128 + j = 128 * n + j by omega]
    exact this
theorem nodup_sub : ∀ (l L : List Nat), l.Nodup → (∀ x ∈ l, x ∈ L) → l.length ≤ L.length
  | [], _, _, _ => Nat.zero_le _
  | a :: l, L, hn, hs => by
    obtain ⟨h1, h2⟩ := List.nodup_cons.1 hn
    have ha := hs a (by simp)
    have h3 := nodup_sub l (L.erase a) h2 fun x hx => (List.mem_erase_of_ne (fun e => h1 (by rw [← e]; exact hx))).2 (hs x (List.mem_cons_of_mem _ hx))
    rw [List.length_erase_of_mem ha] at h3
    have h4 : 0 < L.length := List.length_pos_of_mem ha
    rw [List.length_cons]
    omega
theorem diff_fst (a b : List UInt8) (k : Nat) : (diff a b k).map (fun x => x.1.toNat) = (List.range k).filter fun n => outL n && decide (Jr.blk b n ≠ Jr.blk a n) := by
  unfold diff
  rw [List.map_map]
  exact List.map_id' _
theorem Far.few {d d' : List UInt8} {m c1 c2 : Nat} (h : Far d d' m c1 c2) (hd : d.length = 12288) : (diff d d' 96).length ≤ 4 := by
  have e := congrArg List.length (diff_fst d d' 96)
  rw [List.length_map] at e
  rw [e]
  refine nodup_sub _ [13, 14 + m / 8, c1, c2] (List.nodup_range.filter _) fun n hn => ?_
  rw [List.mem_filter, List.mem_range, Bool.and_eq_true, decide_eq_true_eq] at hn
  obtain ⟨h1, -, h2⟩ := hn
  by_cases a1 : n = 13
  · simp [a1]
  by_cases a2 : n = 14 + m / 8
  · simp [a2]
  by_cases a3 : n = c1
  · simp [a3]
  by_cases a4 : n = c2
  · simp [a4]
  exact absurd (h.blk hd h1 a1 a2 a3 a4) h2
theorem diff_same (a : List UInt8) (k : Nat) : diff a a k = [] := by
  have e := congrArg List.length (diff_fst a a k)
  rw [List.length_map, List.filter_eq_nil_iff.2 (fun n _ => by simp), List.length_nil] at e
  exact List.eq_nil_of_length_eq_zero e
theorem diff_valid {a b : List UInt8} (hb : b.length = 12288) (h0 : diff a b 96 ≠ []) (h11 : (diff a b 96).length ≤ 11) : Jr.valid (diff a b 96) = true := by
  unfold Jr.valid
  have h1 : (diff a b 96).all Jr.good = true := by
    rw [List.all_eq_true]
    intro x hx
    obtain ⟨n, rfl, hn, ho, -⟩ := diff_mem hx
    unfold outL at ho
    unfold Jr.good Jr.home
    rw [blk_len hb hn]
    rw [Bool.or_eq_true, decide_eq_true_eq, decide_eq_true_eq] at ho
    rw [Bool.and_eq_true, Bool.and_eq_true, Bool.and_eq_true, Bool.or_eq_true, decide_eq_true_eq, decide_eq_true_eq, decide_eq_true_eq, decide_eq_true_eq, decide_eq_true_eq]
    refine ⟨⟨?_, ?_, ?_⟩, rfl⟩ <;> simp only <;> omega
  have h2 : Jr.apart (diff a b 96) = true := by
    unfold Jr.apart
    rw [decide_eq_true_eq]
    have hn : ((diff a b 96).map (fun x => x.1.toNat)).Nodup := by rw [diff_fst]; exact List.nodup_range.filter _
    rw [show (fun x : Jr.Wr => x.1.toNat) = Int.toNat ∘ Prod.fst from rfl, ← List.map_map] at hn
    exact (List.pairwise_map.1 hn).imp fun h e => h (by rw [e])
  have h3 : 1 ≤ (diff a b 96).length := List.length_pos_iff.2 h0
  rw [h1, h2, decide_eq_true h3, decide_eq_true h11]
  rfl
/-- What the law InodesFew says of one step. -/
theorem few_law {a : List UInt8} {x : Op} (ha : Ok a) (hl : x.2.2.2.length ≤ 128) : changes a (doOp a x) = (diff a (doOp a x) 96, 0) ∧ (diff a (doOp a x) 96).length ≤ 4 ∧ (diff a (doOp a x) 96 = [] ∨ Jr.valid (diff a (doOp a x) 96) = true) ∧ Jr.apply a (diff a (doOp a x) 96) = (doOp a x, 0) := by
  have hf : doOp a x = a ∨ ∃ m c1 c2, Far a (doOp a x) m c1 c2 := by
    unfold doOp
    split
    · rename_i h0
      have e : step a x = ((step a x).1, 0) := by rw [← h0]
      exact step_far e hl
    · exact .inl rfl
  rcases hf with hf | ⟨m, c1, c2, hf⟩
  · rw [hf, diff_same]
    refine ⟨?_, by simp, .inl rfl, ?_⟩
    · unfold changes
      rw [if_neg (by rw [ha.1]; simp), diff_same]
    · have := apply_diff ha.1 ha.1 (fun _ _ _ _ => rfl)
      rw [diff_same] at this
      exact this
  · have h4 := hf.few ha.1
    refine ⟨by unfold changes; rw [if_neg (by rw [ha.1, hf.len]; simp)], h4, ?_, apply_diff ha.1 hf.len fun n hn j hj => hf.low _ (.inl ?_)⟩
    · by_cases h0 : diff a (doOp a x) 96 = []
      · exact .inl h0
      · exact .inr (diff_valid hf.len h0 (by omega))
    · unfold outL at hn
      simp only [Bool.or_eq_false_iff, decide_eq_false_iff_not] at hn
      omega
end Nd
namespace Go.Proofs.Ytbklmpekpcneeaa
open Go.RowKit
set_option maxRecDepth 100000
set_option linter.unusedVariables false

set_option maxHeartbeats 8000000 in
theorem rchanges_w {va vb : Value} {a b : List UInt8} {w : World} (hva : Sl eb w va a) (hvb : Sl eb w vb b) (ha : a.length = 12288) (hb : b.length = 12288) : Calls Try.prog 29 #[va, vb] w fun e w' => ∃ v', e = .returned (.tuple #[v', .int .i64 0]) ∧ Wo w.heap.size 65 [] w' v' (Nd.diff a b 96) ∧ Below w.heap.size w w' := by
  obtain ⟨b1, o1, k1, rfl, hc1, hm1, hb1, -⟩ := hva.disk ha
  obtain ⟨b2, o2, k2, rfl, hc2, hm2, hb2, -⟩ := hvb.disk hb
  have HBA : Hid (∀ W (k : Nat), k < 96 → Calls Try.prog 51 #[.slice (some ⟨b1, o1, none⟩) 12288 k1, .int .i64 (k : Int)] W fun e w' => e = .returned (.slice (some ⟨b1, o1 + k * 128, none⟩) 128 (k1 - k * 128)) ∧ W = w') := fun W k hk => rblock_w b1 o1 k1 k hk hc1 hm1 W
  have HBB : Hid (∀ W (k : Nat), k < 96 → Calls Try.prog 51 #[.slice (some ⟨b2, o2, none⟩) 12288 k2, .int .i64 (k : Int)] W fun e w' => e = .returned (.slice (some ⟨b2, o2 + k * 128, none⟩) 128 (k2 - k * 128)) ∧ W = w') := fun W k hk => rblock_w b2 o2 k2 k hk hc2 hm2 W
  have HSO : Hid (∀ W (k : Nat), k < 96 → Below w.heap.size w W → Sl eb W (.slice (some ⟨b1, o1 + k * 128, none⟩) 128 (k1 - k * 128)) (Jr.blk a k)) := fun W k hk hW => (hva.below hW (Nat.le_refl _)).cut (k * 128) 128 (by omega)
  have HSN : Hid (∀ W (k : Nat), k < 96 → Below w.heap.size w W → Sl eb W (.slice (some ⟨b2, o2 + k * 128, none⟩) 128 (k2 - k * 128)) (Jr.blk b k)) := fun W k hk hW => (hvb.below hW (Nat.le_refl _)).cut (k * 128) 128 (by omega)
  have HNL : Hid (∀ k : Nat, k < 96 → (Jr.blk b k).length = 128) := fun k hk => by unfold Jr.blk; rw [List.length_take, List.length_drop, hb]; omega
  have HST := Lib.hid (fun k => Nd.diff_step a b k)
  have HDL := Lib.hid (fun k => Nd.diff_len a b k)
  have f1 : ((12288 : Int) != 12288) = false := rfl
  obtain ⟨i0, hi, hz0, hz1, hz2⟩ := info_parts Try.info5
  obtain ⟨iJ, hiJ, hzJ0, hzJ1, hzJ2⟩ := info_parts Try.infoR
  obtain ⟨R, hR⟩ : ∃ R, R = Nd.diff a b 96 := ⟨_, rfl⟩
  have HRR := Lib.hid hR
  rw [← hR]
  clear hva hvb hc1 hc2 hm1 hm2 hb1 hb2 ha hb hR
  go_enter Try.func29, Try.ntmps29
  go_wp2_with fail
  go_loopw [6, 7, 8] (fun s6 i _ wr => ∃ (k : Nat) (v : Value), v = s6 ∧ i = .int .i64 k ∧ k ≤ 96 ∧ Wo w.heap.size 65 [] wr v (Nd.diff a b k) ∧ Below w.heap.size w wr) (fun _ i _ _ => 96 - (intOf i).toNat)
  case atStart => exact ⟨0, _, rfl, rfl, Nat.zero_le _, by rw [Nd.diff_zero]; exact Wo.nil, Below.refl _ _⟩
  case round =>
    obtain ⟨k, v, rfl, rfl, hk, hwo, hbl⟩ := hrel
    by_cases hlt : k < 96
    · have f5 : (k : Int) < 96 := by omega
      obtain ⟨av, cv, hav, -, -⟩ := hwo.slice
      have HLN : Hid ((Nd.diff a b k).length ≤ 100000) := Nat.le_trans (HDL.out k) (by omega)
      obtain ⟨N, hN⟩ : ∃ N, N = (Nd.diff a b k).length := ⟨_, rfl⟩
      rw [← hN] at hav
      subst hav
      have HSTk := Lib.hid (HST.out k)
      have HNB := Lib.hid (HNL.out k hlt)
      have HWO := Lib.hid hwo
      have HBL := Lib.hid hbl
      clear hN hwo hbl
      by_cases h1 : k < 1
      · have f6 : ¬ (1 : Int) ≤ (k : Int) := by omega
        have hout : Nd.outL k = true := by unfold Nd.outL; simp; omega
        go_upto_region 9 with (go_at_call 51; (with_reducible refine (HBB.out _ k hlt).mono ?_); rintro e w' ⟨rfl, rfl⟩)
        have hl0 := low_drew wr
        have HL3 : Hid (Below w.heap.size w wr.drew) := HBL.out.drew
        have HWO3 : Hid (Wo w.heap.size 65 [] wr.drew (.slice av N cv) (Nd.diff a b k)) := HWO.out.below hl0
        have HCN := Lib.hid (HSN.out wr.drew k hlt HL3.out)
        have hcv1 := conv_sl HCN.out
        have hcv2 := conv_sl (HSO.out wr.drew k hlt HL3.out)
        by_cases hww : Jr.blk b k = Jr.blk a k
        · have HN1 : Hid (Nd.diff a b (k + 1) = Nd.diff a b k) := by
            have h := HSTk.out
            rw [if_neg (by rw [hww]; simp), List.append_nil] at h
            exact h
          rw [← hww] at hcv2
          clear hww
          generalize Jr.blk b k = nb at *
          go_region_with (first | (go_at_call 51; (with_reducible refine (HBA.out _ k hlt).mono ?_); rintro e w' ⟨rfl, rfl⟩))
          all_goals (go_wp2_with fail)
          all_goals go_roundw
          all_goals first
            | exact ⟨k + 1, _, rfl, by go_num, by omega, by rw [HN1.out]; exact HWO3.out, HL3.out⟩
            | (simp [intOf]; omega)
        · have HN1 : Hid (Nd.diff a b (k + 1) = Nd.diff a b k ++ [((k : Int), Jr.blk b k)]) := by
            have h := HSTk.out
            rw [if_pos (by rw [hout]; simpa using hww)] at h
            exact h
          obtain ⟨n1, n2⟩ := str_ne hww
          clear hww
          generalize Jr.blk b k = nb at *
          generalize Jr.blk a k = ob at *
          go_region_with (first | (go_at_call 51; (with_reducible refine (HBA.out _ k hlt).mono ?_); rintro e w' ⟨rfl, rfl⟩))
          all_goals (go_wp2_with (first
            | (at_builtin; refine wpList_copy_of rfl (.tmp 39) (.tmp 40) 25 5 rfl i0 Try.underlying25 hi hz0 hz1 hz2 wr.drew rfl rfl (some ⟨b2, o2 + k * 128, none⟩) (k2 - k * 128) nb 128 rfl HNB.out HCN.out (by omega) ?_; intro v5 w5 ho5 hb5; obtain ⟨a5, c5, rfl⟩ := own_slice ho5)
            | (at_builtin; refine wpList_append_wo rfl (.tmp 37) (.tmp 43) 61 rfl w.heap.size 65 iJ _ Try.underlying61 hiJ hzJ0 hzJ1 hzJ2 rfl [] (.slice av N cv) (Nd.diff a b k) rfl ((HWO3.out.below hb5).below (low_alloc _ _)) HLN.out w5.heap.size (k : Int) (.slice a5 128 c5) nb rfl (heap_alloc_new _ _) ((own_av ho5 (by simp) fun b hb => (HWO3.out.lt b hb).2).alloc _) (by simp; have := hb5.size; have := HL3.out.size; omega) ?_; intro v7 w7 hwo7 hs7 hb7)))
          all_goals have HW7 := Lib.hid hwo7
          all_goals have HB7 := Lib.hid (((stepAny HL3.out hb5).alloc (by have := hb5.size; have := HL3.out.size; omega) _).trans hb7)
          all_goals go_roundw
          all_goals first
            | exact ⟨k + 1, _, rfl, by go_num, by omega, by rw [HN1.out]; exact HW7.out, HB7.out⟩
            | (simp [intOf]; omega)
      · have f6 : (1 : Int) ≤ (k : Int) := by omega
        by_cases h2 : k ≤ 12
        · have f7 : (k : Int) ≤ 12 := by omega
          have hout : Nd.outL k = false := by unfold Nd.outL; simp; omega
          have HN1 : Hid (Nd.diff a b (k + 1) = Nd.diff a b k) := by
            have h := HSTk.out
            rw [if_neg (by rw [hout]; simp), List.append_nil] at h
            exact h
          go_wp2_with fail
          go_roundw
          case rel => exact ⟨k + 1, _, rfl, by go_num, by omega, by rw [HN1.out]; exact HWO.out, HBL.out⟩
          case measure => simp [intOf]; omega
        · have f7 : ¬ (k : Int) ≤ 12 := by omega
          have hout : Nd.outL k = true := by unfold Nd.outL; simp; omega
          go_upto_region 9 with (go_at_call 51; (with_reducible refine (HBB.out _ k hlt).mono ?_); rintro e w' ⟨rfl, rfl⟩)
          have hl0 := low_drew wr
          have HL3 : Hid (Below w.heap.size w wr.drew) := HBL.out.drew
          have HWO3 : Hid (Wo w.heap.size 65 [] wr.drew (.slice av N cv) (Nd.diff a b k)) := HWO.out.below hl0
          have HCN := Lib.hid (HSN.out wr.drew k hlt HL3.out)
          have hcv1 := conv_sl HCN.out
          have hcv2 := conv_sl (HSO.out wr.drew k hlt HL3.out)
          by_cases hww : Jr.blk b k = Jr.blk a k
          · have HN1 : Hid (Nd.diff a b (k + 1) = Nd.diff a b k) := by
              have h := HSTk.out
              rw [if_neg (by rw [hww]; simp), List.append_nil] at h
              exact h
            rw [← hww] at hcv2
            clear hww
            generalize Jr.blk b k = nb at *
            go_region_with (first | (go_at_call 51; (with_reducible refine (HBA.out _ k hlt).mono ?_); rintro e w' ⟨rfl, rfl⟩))
            all_goals (go_wp2_with fail)
            all_goals go_roundw
            all_goals first
              | exact ⟨k + 1, _, rfl, by go_num, by omega, by rw [HN1.out]; exact HWO3.out, HL3.out⟩
              | (simp [intOf]; omega)
          · have HN1 : Hid (Nd.diff a b (k + 1) = Nd.diff a b k ++ [((k : Int), Jr.blk b k)]) := by
              have h := HSTk.out
              rw [if_pos (by rw [hout]; simpa using hww)] at h
              exact h
            obtain ⟨n1, n2⟩ := str_ne hww
            clear hww
            generalize Jr.blk b k = nb at *
            generalize Jr.blk a k = ob at *
            go_region_with (first | (go_at_call 51; (with_reducible refine (HBA.out _ k hlt).mono ?_); rintro e w' ⟨rfl, rfl⟩))
            all_goals (go_wp2_with (first
              | (at_builtin; refine wpList_copy_of rfl (.tmp 39) (.tmp 40) 25 5 rfl i0 Try.underlying25 hi hz0 hz1 hz2 wr.drew rfl rfl (some ⟨b2, o2 + k * 128, none⟩) (k2 - k * 128) nb 128 rfl HNB.out HCN.out (by omega) ?_; intro v5 w5 ho5 hb5; obtain ⟨a5, c5, rfl⟩ := own_slice ho5)
              | (at_builtin; refine wpList_append_wo rfl (.tmp 37) (.tmp 43) 61 rfl w.heap.size 65 iJ _ Try.underlying61 hiJ hzJ0 hzJ1 hzJ2 rfl [] (.slice av N cv) (Nd.diff a b k) rfl ((HWO3.out.below hb5).below (low_alloc _ _)) HLN.out w5.heap.size (k : Int) (.slice a5 128 c5) nb rfl (heap_alloc_new _ _) ((own_av ho5 (by simp) fun b hb => (HWO3.out.lt b hb).2).alloc _) (by simp; have := hb5.size; have := HL3.out.size; omega) ?_; intro v7 w7 hwo7 hs7 hb7)))
            all_goals have HW7 := Lib.hid hwo7
            all_goals have HB7 := Lib.hid (((stepAny HL3.out hb5).alloc (by have := hb5.size; have := HL3.out.size; omega) _).trans hb7)
            all_goals go_roundw
            all_goals first
              | exact ⟨k + 1, _, rfl, by go_num, by omega, by rw [HN1.out]; exact HW7.out, HB7.out⟩
              | (simp [intOf]; omega)
    · have f5 : ¬ (k : Int) < 96 := by omega
      have e96 : k = 96 := by omega
      rw [e96, ← HRR.out] at hwo
      have HW := Lib.hid hwo
      have HB := Lib.hid hbl
      clear hwo hbl e96 hlt
      go_wp2_with fail
      go_ret2
      exact ⟨_, rfl, HW.out, HB.out⟩
end Go.Proofs.Ytbklmpekpcneeaa
namespace Go.Proofs.Ytbklmpekpcneeaa
open Go.RowKit
set_option maxRecDepth 100000
set_option linter.unusedVariables false

set_option maxHeartbeats 8000000 in
theorem vchanges_w {va vb : Value} {a b : List UInt8} {w : World} (hva : Sl eb w va a) (hvb : Sl eb w vb b) (ha : a.length = 12288) (hb : b.length = 12288) : Calls Try.prog 28 #[va, vb] w fun e w' => ∃ v', e = .returned (.tuple #[v', .int .i64 0]) ∧ Wo w.heap.size 66 [] w' v' (Nd.diff a b 96) ∧ Below w.heap.size w w' := by
  obtain ⟨b1, o1, k1, rfl, hc1, hm1, hb1, -⟩ := hva.disk ha
  obtain ⟨b2, o2, k2, rfl, hc2, hm2, hb2, -⟩ := hvb.disk hb
  have HSO : Hid (∀ W (k : Nat), k < 96 → Below w.heap.size w W → Sl eb W (.slice (some ⟨b1, o1 + k * 128, none⟩) 128 (k1 - k * 128)) (Jr.blk a k)) := fun W k hk hW => (hva.below hW (Nat.le_refl _)).cut (k * 128) 128 (by omega)
  have HSN : Hid (∀ W (k : Nat), k < 96 → Below w.heap.size w W → Sl eb W (.slice (some ⟨b2, o2 + k * 128, none⟩) 128 (k2 - k * 128)) (Jr.blk b k)) := fun W k hk hW => (hvb.below hW (Nat.le_refl _)).cut (k * 128) 128 (by omega)
  have HNL : Hid (∀ k : Nat, k < 96 → (Jr.blk b k).length = 128) := fun k hk => by unfold Jr.blk; rw [List.length_take, List.length_drop, hb]; omega
  have HST := Lib.hid (fun k => Nd.diff_step a b k)
  have HDL := Lib.hid (fun k => Nd.diff_len a b k)
  have f1 : ((12288 : Int) != 12288) = false := rfl
  obtain ⟨iJ, hiJ, hzJ0, hzJ1, hzJ2⟩ := info_parts Try.infoJ
  obtain ⟨R, hR⟩ : ∃ R, R = Nd.diff a b 96 := ⟨_, rfl⟩
  have HRR := Lib.hid hR
  rw [← hR]
  have HC1 := Lib.hid hc1
  have HC2 := Lib.hid hc2
  unfold maxLen at hm1 hm2
  clear hva hvb hb1 hb2 ha hb hR
  go_enter Try.func28, Try.ntmps28
  go_wp2_with fail
  go_loopw [6, 7, 8, 17] (fun s6 _ _ i wr => ∃ (k : Nat) (v : Value), v = s6 ∧ i = .int .i64 k ∧ k ≤ 96 ∧ Wo w.heap.size 66 [] wr v (Nd.diff a b k) ∧ Below w.heap.size w wr) (fun _ _ _ i _ => 96 - (intOf i).toNat)
  case atStart => exact ⟨0, _, rfl, rfl, Nat.zero_le _, by rw [Nd.diff_zero]; exact Wo.nil, Below.refl _ _⟩
  case round =>
    obtain ⟨k, v, rfl, rfl, hk, hwo, hbl⟩ := hrel
    by_cases hlt : k < 96
    · have f5 : (k : Int) < 96 := by omega
      have g1 : (0 : Int) ≤ (k : Int) * 128 := by omega
      have g2 : (k : Int) * 128 ≤ ((k : Int) + 1) * 128 := by omega
      have g3 : ((k : Int) + 1) * 128 ≤ (k1 : Int) := by have := HC1.out; omega
      have g4 : ((k : Int) + 1) * 128 ≤ (k2 : Int) := by have := HC2.out; omega
      have g5 : (k + 1) * 128 - k * 128 = 128 := by omega
      obtain ⟨av, cv, hav, -, -⟩ := hwo.slice
      have HLN : Hid ((Nd.diff a b k).length ≤ 100000) := Nat.le_trans (HDL.out k) (by omega)
      obtain ⟨N, hN⟩ : ∃ N, N = (Nd.diff a b k).length := ⟨_, rfl⟩
      rw [← hN] at hav
      subst hav
      have HSTk := Lib.hid (HST.out k)
      have HNB := Lib.hid (HNL.out k hlt)
      have HWO := Lib.hid hwo
      have HBL := Lib.hid hbl
      clear hN hwo hbl
      by_cases h1 : k < 1
      · have f6 : (k : Int) < 1 := by omega
        have hout : Nd.outL k = true := by unfold Nd.outL; simp; omega
        have HCN := Lib.hid (HSN.out wr k hlt HBL.out)
        have HCO := Lib.hid (HSO.out wr k hlt HBL.out)
        by_cases hww : Jr.blk a k = Jr.blk b k
        · have HN1 : Hid (Nd.diff a b (k + 1) = Nd.diff a b k) := by
            have h := HSTk.out
            rw [if_neg (by rw [hww]; simp), List.append_nil] at h
            exact h
          have HEQ : Hid (Calls Try.prog 63 #[.slice (some ⟨b1, o1 + k * 128, none⟩) 128 (k1 - k * 128), .slice (some ⟨b2, o2 + k * 128, none⟩) 128 (k2 - k * 128)] wr fun e w' => e = .returned (.bool true) ∧ wr = w') := by
            have h := bequal_w _ _ _ _ wr HCO.out HCN.out
            rw [decide_eq_true hww] at h
            exact h
          clear hww
          go_wp2_with (go_at_call 63; (with_reducible refine HEQ.out.mono ?_); rintro e w' ⟨rfl, rfl⟩)
          go_roundw
          case rel => exact ⟨k + 1, _, rfl, by go_num, by omega, by rw [HN1.out]; exact HWO.out, HBL.out⟩
          case measure => simp [intOf]; omega
        · have HN1 : Hid (Nd.diff a b (k + 1) = Nd.diff a b k ++ [((k : Int), Jr.blk b k)]) := by
            have h := HSTk.out
            rw [if_pos (by rw [hout]; simpa using fun e => hww e.symm)] at h
            exact h
          have HEQ : Hid (Calls Try.prog 63 #[.slice (some ⟨b1, o1 + k * 128, none⟩) 128 (k1 - k * 128), .slice (some ⟨b2, o2 + k * 128, none⟩) 128 (k2 - k * 128)] wr fun e w' => e = .returned (.bool false) ∧ wr = w') := by
            have h := bequal_w _ _ _ _ wr HCO.out HCN.out
            rw [decide_eq_false hww] at h
            exact h
          have HCL : Hid (Calls Try.prog 64 #[.slice (some ⟨b2, o2 + k * 128, none⟩) 128 (k2 - k * 128)] wr fun e w' => ∃ v, e = .returned v ∧ w'.ownsRow wr.heap.size 5 1 v 128 ((Jr.blk b k).map eb) ∧ Below wr.heap.size wr w') := by
            have h := bclone_w HCN.out (by rw [HNB.out]; omega)
            rw [HNB.out] at h
            exact h
          clear hww
          generalize Jr.blk b k = nb at *
          go_wp2_with (first
            | (go_at_call 63; (with_reducible refine HEQ.out.mono ?_); rintro e w' ⟨rfl, rfl⟩)
            | (go_at_call 64; (with_reducible refine HCL.out.mono ?_); rintro e w5 ⟨v5, rfl, ho5, hb5⟩; obtain ⟨a5, c5, rfl⟩ := own_slice ho5)
            | (at_builtin; refine wpList_append_wo rfl (.tmp 45) (.tmp 50) 58 rfl w.heap.size 66 iJ _ Try.underlying58 hiJ hzJ0 hzJ1 hzJ2 rfl [] (.slice av N cv) (Nd.diff a b k) rfl ((HWO.out.below hb5).below (low_alloc _ _)) HLN.out w5.heap.size (k : Int) (.slice a5 128 c5) nb rfl (heap_alloc_new _ _) ((own_av ho5 (by simp) fun b hb => (HWO.out.lt b hb).2).alloc _) (by simp; have := hb5.size; have := HBL.out.size; omega) ?_; intro v7 w7 hwo7 hs7 hb7))
          have HW7 := Lib.hid hwo7
          have HB7 := Lib.hid (((stepAny HBL.out hb5).alloc (by have := hb5.size; have := HBL.out.size; omega) _).trans hb7)
          go_roundw
          case rel => exact ⟨k + 1, _, rfl, by go_num, by omega, by rw [HN1.out]; exact HW7.out, HB7.out⟩
          case measure => simp [intOf]; omega
      · have f6 : ¬ (k : Int) < 1 := by omega
        by_cases h2 : k ≤ 12
        · have f7 : ¬ (12 : Int) < (k : Int) := by omega
          have hout : Nd.outL k = false := by unfold Nd.outL; simp; omega
          have HN1 : Hid (Nd.diff a b (k + 1) = Nd.diff a b k) := by
            have h := HSTk.out
            rw [if_neg (by rw [hout]; simp), List.append_nil] at h
            exact h
          go_wp2_with fail
          go_roundw
          case rel => exact ⟨k + 1, _, rfl, by go_num, by omega, by rw [HN1.out]; exact HWO.out, HBL.out⟩
          case measure => simp [intOf]; omega
        · have f7 : (12 : Int) < (k : Int) := by omega
          have hout : Nd.outL k = true := by unfold Nd.outL; simp; omega
          have HCN := Lib.hid (HSN.out wr k hlt HBL.out)
          have HCO := Lib.hid (HSO.out wr k hlt HBL.out)
          by_cases hww : Jr.blk a k = Jr.blk b k
          · have HN1 : Hid (Nd.diff a b (k + 1) = Nd.diff a b k) := by
              have h := HSTk.out
              rw [if_neg (by rw [hww]; simp), List.append_nil] at h
              exact h
            have HEQ : Hid (Calls Try.prog 63 #[.slice (some ⟨b1, o1 + k * 128, none⟩) 128 (k1 - k * 128), .slice (some ⟨b2, o2 + k * 128, none⟩) 128 (k2 - k * 128)] wr fun e w' => e = .returned (.bool true) ∧ wr = w') := by
              have h := bequal_w _ _ _ _ wr HCO.out HCN.out
              rw [decide_eq_true hww] at h
              exact h
            clear hww
            go_wp2_with (go_at_call 63; (with_reducible refine HEQ.out.mono ?_); rintro e w' ⟨rfl, rfl⟩)
            go_roundw
            case rel => exact ⟨k + 1, _, rfl, by go_num, by omega, by rw [HN1.out]; exact HWO.out, HBL.out⟩
            case measure => simp [intOf]; omega
          · have HN1 : Hid (Nd.diff a b (k + 1) = Nd.diff a b k ++ [((k : Int), Jr.blk b k)]) := by
              have h := HSTk.out
              rw [if_pos (by rw [hout]; simpa using fun e => hww e.symm)] at h
              exact h
            have HEQ : Hid (Calls Try.prog 63 #[.slice (some ⟨b1, o1 + k * 128, none⟩) 128 (k1 - k * 128), .slice (some ⟨b2, o2 + k * 128, none⟩) 128 (k2 - k * 128)] wr fun e w' => e = .returned (.bool false) ∧ wr = w') := by
              have h := bequal_w _ _ _ _ wr HCO.out HCN.out
              rw [decide_eq_false hww] at h
              exact h
            have HCL : Hid (Calls Try.prog 64 #[.slice (some ⟨b2, o2 + k * 128, none⟩) 128 (k2 - k * 128)] wr fun e w' => ∃ v, e = .returned v ∧ w'.ownsRow wr.heap.size 5 1 v 128 ((Jr.blk b k).map eb) ∧ Below wr.heap.size wr w') := by
              have h := bclone_w HCN.out (by rw [HNB.out]; omega)
              rw [HNB.out] at h
              exact h
            clear hww
            generalize Jr.blk b k = nb at *
            go_wp2_with (first
              | (go_at_call 63; (with_reducible refine HEQ.out.mono ?_); rintro e w' ⟨rfl, rfl⟩)
              | (go_at_call 64; (with_reducible refine HCL.out.mono ?_); rintro e w5 ⟨v5, rfl, ho5, hb5⟩; obtain ⟨a5, c5, rfl⟩ := own_slice ho5)
              | (at_builtin; refine wpList_append_wo rfl (.tmp 45) (.tmp 50) 58 rfl w.heap.size 66 iJ _ Try.underlying58 hiJ hzJ0 hzJ1 hzJ2 rfl [] (.slice av N cv) (Nd.diff a b k) rfl ((HWO.out.below hb5).below (low_alloc _ _)) HLN.out w5.heap.size (k : Int) (.slice a5 128 c5) nb rfl (heap_alloc_new _ _) ((own_av ho5 (by simp) fun b hb => (HWO.out.lt b hb).2).alloc _) (by simp; have := hb5.size; have := HBL.out.size; omega) ?_; intro v7 w7 hwo7 hs7 hb7))
            have HW7 := Lib.hid hwo7
            have HB7 := Lib.hid (((stepAny HBL.out hb5).alloc (by have := hb5.size; have := HBL.out.size; omega) _).trans hb7)
            go_roundw
            case rel => exact ⟨k + 1, _, rfl, by go_num, by omega, by rw [HN1.out]; exact HW7.out, HB7.out⟩
            case measure => simp [intOf]; omega
    · have f5 : ¬ (k : Int) < 96 := by omega
      have e96 : k = 96 := by omega
      rw [e96, ← HRR.out] at hwo
      have HW := Lib.hid hwo
      have HB := Lib.hid hbl
      clear hwo hbl e96 hlt
      go_wp2_with fail
      go_ret2
      exact ⟨_, rfl, HW.out, HB.out⟩
end Go.Proofs.Ytbklmpekpcneeaa
namespace Go.Proofs.Ytbklmpekpcneeaa
open Go.RowKit
set_option maxRecDepth 100000

theorem take_snoc {α : Type} (l : List α) (k : Nat) (h : k < l.length) : l.take (k + 1) = l.take k ++ [l[k]] := by
  exact List.take_succ_eq_append_getElem h
theorem av_low {w5 W : World} {v u : Value} {bs : List UInt8} (hs : Sl eb w5 u bs) (hl : Below w5.heap.size w5 W) (hv : ∀ b, v.ownBlock = some b → w5.heap.size ≤ b) : Av (Bx [] v) (fun W => Sl eb W u bs) W := fun W' hW => hs.keep fun b hb =>
  (hW b (by have := hl.size; omega) (fun hx => by
    rcases hx with hx | hx
    · cases hx
    · have := hv b hx; omega)).trans (hl.block b hb)

set_option maxHeartbeats 16000000 in
theorem lfew_w {v0 v1 v2 : Value} {w : World} (o0 : IsOps w v0) (o1 : IsOps w v1) (o2 : IsOp w v2) : Calls Try.prog 7 #[v0, v1, v2] w fun e w' => e = .returned (.bool true) ∧ Below w.heap.size w w' := by
  obtain ⟨l0, hv0⟩ := o0
  obtain ⟨l1, hv1⟩ := o1
  obtain ⟨x2, a2, c2, rfl, hx2⟩ := o2
  obtain ⟨a0, c0, rfl, -⟩ := hv0.open
  have HV0 := Lib.hid hv0
  have HAW := Lib.hid awake_w
  have HFE : Hid (∀ W, Below w.heap.size w W → Calls Try.prog 12 #[.slice a0 l0.length c0] W fun e w' => e = .returned (.bool (Nd.few l0)) ∧ W = w') := fun W hW => rfew_w (hv0.below hW (Nat.le_refl _))
  have HDK : Hid (Nd.few l0 = true → ∀ W, Below w.heap.size w W → Calls Try.prog 13 #[.slice a0 l0.length c0] W fun e w' => ∃ v', e = .returned v' ∧ Sl eb w' v' (Nd.disk l0) ∧ Below W.heap.size W w') := fun hf W hW => rdisk_w (hv0.below hW (Nat.le_refl _)) hf
  have HOK := Lib.hid (Nd.disk_ok l0)
  clear hv0
  obtain ⟨a1, c1, rfl, -⟩ := hv1.open
  have HV1 := Lib.hid hv1
  have HFE1 : Hid (∀ W, Below w.heap.size w W → Calls Try.prog 12 #[.slice a1 l1.length c1] W fun e w' => e = .returned (.bool (Nd.few l1)) ∧ W = w') := fun W hW => rfew_w (hv1.below hW (Nat.le_refl _))
  have HDK1 : Hid (Nd.few l1 = true → ∀ W, Below w.heap.size w W → Calls Try.prog 13 #[.slice a1 l1.length c1] W fun e w' => ∃ v', e = .returned v' ∧ Sl eb w' v' (Nd.disk l1) ∧ Below W.heap.size W w') := fun hf W hW => rdisk_w (hv1.below hW (Nat.le_refl _)) hf
  have HOK1 := Lib.hid (Nd.disk_ok l1)
  clear hv1
  obtain ⟨kd, nn, oo, s⟩ := x2
  simp only at hx2
  obtain ⟨W1, hW1⟩ : ∃ W, W = w.alloc (.cells #[.int .i64 kd, .int .i64 nn, .int .i64 oo, .slice a2 s.length c2] 55 (0, 0)) := ⟨_, rfl⟩
  have hl1 : Below w.heap.size w W1 := by rw [hW1]; exact low_alloc _ _
  have hk1 : Bk W1 w.heap.size 55 [.int .i64 kd, .int .i64 nn, .int .i64 oo, .slice a2 s.length c2] := by rw [hW1]; exact Bk.new w _ [.int .i64 kd, .int .i64 nn, .int .i64 oo, .slice a2 s.length c2]
  have HW1 : Hid (W1 = w.alloc (.cells #[.int .i64 kd, .int .i64 nn, .int .i64 oo, .slice a2 s.length c2] 55 (0, 0))) := hW1
  have HL1 := Lib.hid hl1
  have HQ : Hid (∀ W, Below W1.heap.size W1 W → W.cell? ⟨w.heap.size, 0, none⟩ = some (.int .i64 kd) ∧ W.cell? ⟨w.heap.size, 1, none⟩ = some (.int .i64 nn) ∧ W.cell? ⟨w.heap.size, 2, none⟩ = some (.int .i64 oo) ∧ W.cell? ⟨w.heap.size, 3, none⟩ = some (.slice a2 s.length c2) ∧ Sl eb W (.slice a2 s.length c2) s) := fun W hW => by
    have h := hk1.below hW hk1.lt
    exact ⟨h.cell 0, h.cell 1, h.cell 2, h.cell 3, (hx2.below hl1 (Nat.le_refl _)).below hW (Nat.le_refl _)⟩
  clear hx2 hW1 hl1 hk1
  have HDO := Lib.hid (fun (x : Nd.Op) => Nd.doOp_ok HOK.out x)
  have HLAW := Lib.hid (fun (h : s.length ≤ 128) => Nd.few_law (x := (kd, nn, oo, s)) HOK.out h)
  generalize Nd.disk l0 = A at *
  generalize Nd.disk l1 = B at *
  cases hf : Nd.few l0 with
  | false =>
    rw [hf] at HFE
    clear hf HDK HDK1
    go_enter Try.func7, Try.ntmps7
    go_upto_region 1 with fail
    rw [← HW1.out]
    go_wp2_with (first
      | (go_at_call 11; (with_reducible refine (HAW.out _).mono ?_); rintro e w1 ⟨rfl, hb1⟩)
      | (go_at_call 12; (with_reducible refine (HFE.out _ (stepAny HL1.out hb1)).mono ?_); rintro e w' ⟨rfl, rfl⟩))
    go_ret
    exact ⟨rfl, stepAny HL1.out hb1⟩
  | true =>
  have HDKA := Lib.hid (HDK.out hf)
  rw [hf] at HFE
  clear hf HDK
  cases hf1 : Nd.few l1 with
  | false =>
    rw [hf1] at HFE1
    clear hf1 HDK1
    go_enter Try.func7, Try.ntmps7
    go_upto_region 1 with fail
    rw [← HW1.out]
    go_wp2_with (first
      | (go_at_call 11; (with_reducible refine (HAW.out _).mono ?_); rintro e w1 ⟨rfl, hb1⟩)
      | (go_at_call 12; (with_reducible refine (HFE.out _ (stepAny HL1.out hb1)).mono ?_); rintro e w' ⟨rfl, rfl⟩)
      | (go_at_call 12; (with_reducible refine (HFE1.out _ (stepAny HL1.out hb1)).mono ?_); rintro e w' ⟨rfl, rfl⟩))
    go_ret
    exact ⟨rfl, stepAny HL1.out hb1⟩
  | true =>
  have HDKB := Lib.hid (HDK1.out hf1)
  rw [hf1] at HFE1
  clear hf1 HDK1
  by_cases hs : s.length ≤ 128
  rotate_left
  · have f0 : (128 : Int) < (s.length : Int) := by omega
    clear hs
    go_enter Try.func7, Try.ntmps7
    go_upto_region 1 with fail
    rw [← HW1.out]
    go_upto_region 3 with (first
      | (go_at_call 11; (with_reducible refine (HAW.out _).mono ?_); rintro e w1 ⟨rfl, hb1⟩))
    obtain ⟨z0, z1, z2, z3, z4⟩ := HQ.out w1 hb1
    go_wp2_with (first
      | (go_at_call 12; (with_reducible refine (HFE.out _ (stepAny HL1.out hb1)).mono ?_); rintro e w' ⟨rfl, rfl⟩)
      | (go_at_call 12; (with_reducible refine (HFE1.out _ (stepAny HL1.out hb1)).mono ?_); rintro e w' ⟨rfl, rfl⟩))
    go_ret
    exact ⟨rfl, stepAny HL1.out hb1⟩
  have f0 : ¬ (128 : Int) < (s.length : Int) := by omega
  have HS128 := Lib.hid hs
  have hlaw := HLAW.out hs
  clear hs HLAW
  obtain ⟨A2, hA2⟩ : ∃ A2, A2 = Nd.doOp A (kd, nn, oo, s) := ⟨_, rfl⟩
  have HA2L : Hid (A2.length = 12288) := by rw [hA2]; exact (HDO.out _).1
  obtain ⟨L2, hL2⟩ : ∃ L2, L2 = Nd.diff A A2 96 := ⟨_, rfl⟩
  rw [← hA2, ← hL2] at hlaw
  obtain ⟨-, hfew4, hval, happ⟩ := hlaw
  obtain ⟨L1, hL1⟩ : ∃ L1, L1 = Nd.diff A B 96 := ⟨_, rfl⟩
  have HL100 : Hid (L1.length ≤ 100) := by rw [hL1]; exact Nat.le_trans (Nd.diff_len A B 96) (by decide)
  have HAL : Hid (A.length = 12288) := HOK.out.1
  have HBL : Hid (B.length = 12288) := HOK1.out.1
  have HDOX : Hid (∀ W v, Sl eb W v A → Below W1.heap.size W1 W → Calls Try.prog 31 #[v, .agg #[.int .i64 kd, .int .i64 nn, .int .i64 oo, .slice a2 s.length c2]] W fun e w' => ∃ v', e = .returned v' ∧ Sl eb w' v' A2 ∧ Below W.heap.size W w') := fun W v hv hW => by
    rw [hA2]
    exact rdo_w (x := (kd, nn, oo, s)) hv HAL.out (HQ.out W hW).2.2.2.2 (Nat.le_trans HS128.out (by decide))
  have HCH1 : Hid (∀ W va vb, Sl eb W va A → Sl eb W vb B → Calls Try.prog 28 #[va, vb] W fun e w' => ∃ v', e = .returned (.tuple #[v', .int .i64 0]) ∧ Wo W.heap.size 66 [] w' v' L1 ∧ Below W.heap.size W w') := fun W va vb h1 h2 => by rw [hL1]; exact vchanges_w h1 h2 HAL.out HBL.out
  have HCH2 : Hid (∀ W va vb, Sl eb W va A → Sl eb W vb B → Calls Try.prog 29 #[va, vb] W fun e w' => ∃ v', e = .returned (.tuple #[v', .int .i64 0]) ∧ Wo W.heap.size 65 [] w' v' L1 ∧ Below W.heap.size W w') := fun W va vb h1 h2 => by rw [hL1]; exact rchanges_w h1 h2 HAL.out HBL.out
  have HCH3 : Hid (∀ W va vb, Sl eb W va A → Sl eb W vb A2 → Calls Try.prog 28 #[va, vb] W fun e w' => ∃ v', e = .returned (.tuple #[v', .int .i64 0]) ∧ Wo W.heap.size 66 [] w' v' L2 ∧ Below W.heap.size W w') := fun W va vb h1 h2 => by rw [hL2]; exact vchanges_w h1 h2 HAL.out HA2L.out
  have HAP : Hid (∀ W va vl, Sl eb W va A → Wp W vl L2 → Calls Try.prog 32 #[va, vl] W fun e w' => ∃ a k, e = .returned (.tuple #[.slice a 12288 k, .int .i64 0]) ∧ Sl eb w' (.slice a 12288 k) A2 ∧ Below W.heap.size W w') := fun W va vl h1 h2 => by
    have h := japply_w h1 h2 (by omega)
    unfold RetApply at h
    rw [happ] at h
    refine h.mono fun e w' hh => ?_
    obtain ⟨v, rfl, ho, hb⟩ := hh
    simp only at ho
    rw [HA2L.out] at ho
    obtain ⟨ap, cp, rfl⟩ := own_slice ho
    exact ⟨ap, cp, rfl, Sl.ofOwn ho, hb⟩
  have HJV : Hid (∀ W vl, L2.length ≠ 0 → Wp W vl L2 → Calls Try.prog 33 #[vl] W fun e w' => e = .returned (.bool true) ∧ Below W.heap.size W w') := fun W vl h0 h2 => by
    have h := jvalid_w h2 (by omega)
    rw [hval.resolve_left (fun e => h0 (by rw [e]; rfl))] at h
    exact h
  have HN4 : Hid (L2.length ≤ 4) := hfew4
  obtain ⟨iJ, hiJ, hzJ0, hzJ1, hzJ2⟩ := info_parts Try.infoR
  clear hA2 hL2 hL1 hfew4 hval happ HOK HOK1 HDO
  go_enter Try.func7, Try.ntmps7
  go_upto_region 1 with fail
  rw [← HW1.out]
  go_upto_region 3 with (first
    | (go_at_call 11; (with_reducible refine (HAW.out _).mono ?_); rintro e w1 ⟨rfl, hb1⟩))
  obtain ⟨z0, z1, z2, z3, z4⟩ := HQ.out w1 hb1
  go_upto_region 5 with (first
    | (go_at_call 12; (with_reducible refine (HFE.out _ (stepAny HL1.out hb1)).mono ?_); rintro e w' ⟨rfl, rfl⟩)
    | (go_at_call 12; (with_reducible refine (HFE1.out _ (stepAny HL1.out hb1)).mono ?_); rintro e w' ⟨rfl, rfl⟩))
  have HB1 := Lib.hid hb1
  clear z0 z1 z2 z3 z4 hb1 HAW HFE HFE1
  go_upto_region 6 with (first
    | (go_at_call 13; (with_reducible refine (HDKA.out _ (stepAny HL1.out HB1.out)).mono ?_); rintro e w2 ⟨vA, rfl, hsA2, hb2⟩)
    | (go_at_call 13; (with_reducible refine (HDKB.out _ (stepAny HL1.out (stepAny HB1.out hb2))).mono ?_); rintro e w3 ⟨vB, rfl, hsB3, hb3⟩))
  have HSA : Hid (∀ W, Below w3.heap.size w3 W → Sl eb W vA A) := fun W hW => (hsA2.below hb3 (Nat.le_refl _)).below hW (Nat.le_refl _)
  have HSB : Hid (∀ W, Below w3.heap.size w3 W → Sl eb W vB B) := fun W hW => hsB3.below hW (Nat.le_refl _)
  have HB3 := Lib.hid (stepAny (stepAny HB1.out hb2) hb3)
  clear hsA2 hsB3 hb2 hb3
  go_upto_region 8 with (first
    | (go_at_call 28; (with_reducible refine (HCH1.out _ _ _ (HSA.out w3 (Below.refl _ _)) (HSB.out w3 (Below.refl _ _))).mono ?_); rintro e w4 ⟨v9, rfl, hwo9, hb4⟩)
    | (go_at_call 29; (with_reducible refine (HCH2.out _ _ _ (HSA.out w4 hb4) (HSB.out w4 hb4)).mono ?_); rintro e w5 ⟨v11, rfl, hwo11, hb5⟩))
  have HB5 : Hid (Below w3.heap.size w3 w5) := stepAny hb4 hb5
  obtain ⟨a9, c9, rfl, hc91, hc92, hc93, hop⟩ := (hwo9.below hb5).wp.open
  have HWP9 := Lib.hid (hwo9.below hb5).wp
  have HWP11 := Lib.hid hwo11.wp
  have HOP := Lib.hid hop
  obtain ⟨N, hN⟩ : ∃ N, N = L1.length := ⟨_, rfl⟩
  have HN := Lib.hid hN
  rw [← hN]
  clear hwo9 hwo11 hb4 hb5 hop hN hc91 hc92 hc93 HCH1 HCH2 HDKA HDKB HSB
  by_cases hN0 : N = 0
  · have HN0 := Lib.hid hN0
    clear hN0
    go_wp2_with fail
    go_loopw [13, 14, 52] (fun s13 _ s52 wr => ∃ (k : Nat) (v : Value), v = s13 ∧ s52 = .int .i64 k ∧ k ≤ N ∧ Wo w5.heap.size 65 [] wr v (L1.take k) ∧ Below w5.heap.size w5 wr) (fun _ _ i _ => N - (intOf i).toNat)
    case atStart => exact ⟨0, _, rfl, rfl, Nat.zero_le _, by rw [List.take_zero]; exact Wo.nil, Below.refl _ _⟩
    case round =>
      rename World => wr
      obtain ⟨k, v, rfl, rfl, hk, hwo, hbl⟩ := hrel
      by_cases hlt : k < N
      · exact absurd hlt (by rw [HN0.out]; exact Nat.not_lt_zero k)
      · have hkN : k = N := by omega
        have hwl : Wo w5.heap.size 65 [] wr v L1 := by
          have h := hwo
          rw [List.take_of_length_le (by have := HN.out; omega)] at h
          exact h
        have g3 : ¬ (k : Int) < (N : Int) := by omega
        have HSM : Hid (Calls Try.prog 30 #[v, v11] wr fun e w' => e = .returned (.bool true) ∧ Below wr.heap.size wr w') := rsame_t hwl.wp (HWP11.out.below hbl (Nat.le_refl _))
        have HBr : Hid (Below w3.heap.size w3 wr) := stepAny HB5.out hbl
        clear hwl hwo hbl hkN hlt hk HWP9 HWP11 HOP
        go_upto_region 16 with (go_at_call 30; (with_reducible refine HSM.out.mono ?_); rintro e w6 ⟨rfl, hb6⟩)
        have HB6 : Hid (Below w3.heap.size w3 w6) := stepAny HBr.out hb6
        obtain ⟨z0, z1, z2, z3, -⟩ := HQ.out w6 (stepAny HB3.out HB6.out)
        clear hb6 HSM
        go_upto_region 18 with (first
          | (go_at_call 31; (with_reducible refine (HDOX.out _ _ (HSA.out w6 HB6.out) (stepAny HB3.out HB6.out)).mono ?_); rintro e w7 ⟨v15, rfl, hs15, hb7⟩)
          | (go_at_call 28; (with_reducible refine (HCH3.out _ _ _ (HSA.out w7 (stepAny HB6.out hb7)) hs15).mono ?_); rintro e w8 ⟨vl, rfl, hwo8, hb8⟩))
        have HB8 : Hid (Below w3.heap.size w3 w8) := stepAny (stepAny HB6.out hb7) hb8
        have HS15 : Hid (∀ W, Below w8.heap.size w8 W → Sl eb W v15 A2) := fun W hW => (hs15.below hb8 (Nat.le_refl _)).below hW (Nat.le_refl _)
        have HW8 := Lib.hid hwo8.wp
        obtain ⟨a8, c8, rfl, -, -⟩ := hwo8.slice
        obtain ⟨a15, c15, e15, -⟩ := id hs15
        rw [HA2L.out] at e15
        subst e15
        clear z0 z1 z2 z3 hs15 hb7 hb8 hwo8
        go_upto_region 19 with (go_at_call 32; (with_reducible refine (HAP.out _ _ _ (HSA.out w8 HB8.out) HW8.out).mono ?_); rintro e w9 ⟨a16, c16, rfl, hs16, hb9⟩)
        have HB9 : Hid (Below w3.heap.size w3 w9) := stepAny HB8.out hb9
        have HN4i : Hid ((L2.length : Int) ≤ 4) := by have := HN4.out; show _ ≤ _; omega
        by_cases h0 : L2.length = 0
        · have hcv1 := conv_sl hs16
          have hcv2 := conv_sl (HS15.out w9 hb9)
          have g4 := HN4i.out
          rw [h0] at g4 ⊢
          clear h0 hs16 hb9
          go_wp2_with fail
          go_ret
          exact ⟨rfl, stepAny HL1.out (stepAny HB3.out HB9.out)⟩
        · have g4 := HN4i.out
          have g5 : ((L2.length : Int) == 0) = false := by rw [beq_eq_false_iff_ne]; omega
          have HVL := Lib.hid (HJV.out w9 _ h0 (HW8.out.below hb9 (Nat.le_refl _)))
          have HS16 := Lib.hid hs16
          have HS15b := Lib.hid (HS15.out w9 hb9)
          clear h0 hs16 hb9
          go_wp2_with (go_at_call 33; (with_reducible refine HVL.out.mono ?_); rintro e w10 ⟨rfl, hb10⟩; have hcv1 := conv_sl (HS16.out.below hb10 (Nat.le_refl _)); have hcv2 := conv_sl (HS15b.out.below hb10 (Nat.le_refl _)))
          go_ret
          exact ⟨rfl, stepAny HL1.out (stepAny HB3.out (stepAny HB9.out hb10))⟩
  · obtain ⟨b9, o9, -, -, ha9, -⟩ := HOP.out 0 (by have := HN.out; omega)
    subst ha9
    clear hN0
    go_wp2_with fail
    go_loopw [13, 14, 52] (fun s13 _ s52 wr => ∃ (k : Nat) (v : Value), v = s13 ∧ s52 = .int .i64 k ∧ k ≤ N ∧ Wo w5.heap.size 65 [] wr v (L1.take k) ∧ Below w5.heap.size w5 wr) (fun _ _ i _ => N - (intOf i).toNat)
    case atStart => exact ⟨0, _, rfl, rfl, Nat.zero_le _, by rw [List.take_zero]; exact Wo.nil, Below.refl _ _⟩
    case round =>
      rename World => wr
      obtain ⟨k, v, rfl, rfl, hk, hwo, hbl⟩ := hrel
      by_cases hlt : k < N
      · have hltL : k < L1.length := by have := HN.out; omega
        obtain ⟨b, off, a', c', ha9, hbw, hat, hsx⟩ := HOP.out k hltL
        injection ha9 with ha9
        injection ha9 with ha91 ha92
        subst ha91 ha92
        have y0 : wr.cell? ⟨b9, o9 + k * 2, none⟩ = some (.int .i64 L1[k].1) := (hbl.cell (p := ⟨b9, o9 + k * 2, none⟩) hbw).trans hat.c0
        have y1 : wr.cell? ⟨b9, o9 + k * 2 + 1, none⟩ = some (.slice a' L1[k].2.length c') := (hbl.cell (p := ⟨b9, o9 + k * 2 + 1, none⟩) hbw).trans hat.c1
        have HTK : Hid (L1.take (k + 1) = L1.take k ++ [(L1[k].1, L1[k].2)]) := take_snoc L1 k hltL
        have hlk : (L1.take k).length = k := by rw [List.length_take]; omega
        obtain ⟨av, cv, hav, -, -⟩ := hwo.slice
        rw [hlk] at hav
        subst hav
        have HLK : Hid ((L1.take k).length ≤ 100000) := by have := HL100.out; show _ ≤ _; rw [hlk]; omega
        have HWO := Lib.hid hwo
        have HBLr := Lib.hid hbl
        have HSX := Lib.hid hsx
        have g1 : (0 : Int) ≤ (k : Int) := by omega
        have g2 : (k : Int) < (N : Int) := by omega
        have g6 : (k : Int) < 100 := by have := HN.out; have := HL100.out; omega
        clear hat hlk hwo hbl hsx
        generalize L1[k].1 = q at *
        generalize L1[k].2 = bs at *
        have HLT := Lib.hid hlt
        clear hltL
        go_wp2_with (at_builtin; refine wpList_append_wo rfl (.tmp 55) (.tmp 60) 61 rfl w5.heap.size 65 iJ _ Try.underlying61 hiJ hzJ0 hzJ1 hzJ2 rfl [] (.slice av k cv) (L1.take k) rfl (HWO.out.below (low_alloc _ _)) HLK.out wr.heap.size q (.slice a' bs.length c') bs rfl (heap_alloc_new _ _) (av_low HSX.out (HBLr.out.alloc HBLr.out.size _) fun b hb => (HWO.out.lt b hb).1) (by simp; have := HBLr.out.size; omega) ?_; intro v7 w7 hwo7 hs7 hb7)
        have HW7 := Lib.hid hwo7
        have HB7 := Lib.hid ((HBLr.out.alloc HBLr.out.size _).trans hb7)
        clear hwo7 hs7 hb7 y0 y1
        go_roundw
        case rel => exact ⟨k + 1, _, rfl, by go_num, HLT.out, by rw [HTK.out]; exact HW7.out, HB7.out⟩
        case measure => have := HLT.out; simp [intOf]; omega
      · have hkN : k = N := by omega
        have hwl : Wo w5.heap.size 65 [] wr v L1 := by
          have h := hwo
          rw [List.take_of_length_le (by have := HN.out; omega)] at h
          exact h
        have g3 : ¬ (k : Int) < (N : Int) := by omega
        have HSM : Hid (Calls Try.prog 30 #[v, v11] wr fun e w' => e = .returned (.bool true) ∧ Below wr.heap.size wr w') := rsame_t hwl.wp (HWP11.out.below hbl (Nat.le_refl _))
        have HBr : Hid (Below w3.heap.size w3 wr) := stepAny HB5.out hbl
        clear hwl hwo hbl hkN hlt hk HWP9 HWP11 HOP
        go_upto_region 16 with (go_at_call 30; (with_reducible refine HSM.out.mono ?_); rintro e w6 ⟨rfl, hb6⟩)
        have HB6 : Hid (Below w3.heap.size w3 w6) := stepAny HBr.out hb6
        obtain ⟨z0, z1, z2, z3, -⟩ := HQ.out w6 (stepAny HB3.out HB6.out)
        clear hb6 HSM
        go_upto_region 18 with (first
          | (go_at_call 31; (with_reducible refine (HDOX.out _ _ (HSA.out w6 HB6.out) (stepAny HB3.out HB6.out)).mono ?_); rintro e w7 ⟨v15, rfl, hs15, hb7⟩)
          | (go_at_call 28; (with_reducible refine (HCH3.out _ _ _ (HSA.out w7 (stepAny HB6.out hb7)) hs15).mono ?_); rintro e w8 ⟨vl, rfl, hwo8, hb8⟩))
        have HB8 : Hid (Below w3.heap.size w3 w8) := stepAny (stepAny HB6.out hb7) hb8
        have HS15 : Hid (∀ W, Below w8.heap.size w8 W → Sl eb W v15 A2) := fun W hW => (hs15.below hb8 (Nat.le_refl _)).below hW (Nat.le_refl _)
        have HW8 := Lib.hid hwo8.wp
        obtain ⟨a8, c8, rfl, -, -⟩ := hwo8.slice
        obtain ⟨a15, c15, e15, -⟩ := id hs15
        rw [HA2L.out] at e15
        subst e15
        clear z0 z1 z2 z3 hs15 hb7 hb8 hwo8
        go_upto_region 19 with (go_at_call 32; (with_reducible refine (HAP.out _ _ _ (HSA.out w8 HB8.out) HW8.out).mono ?_); rintro e w9 ⟨a16, c16, rfl, hs16, hb9⟩)
        have HB9 : Hid (Below w3.heap.size w3 w9) := stepAny HB8.out hb9
        have HN4i : Hid ((L2.length : Int) ≤ 4) := by have := HN4.out; show _ ≤ _; omega
        by_cases h0 : L2.length = 0
        · have hcv1 := conv_sl hs16
          have hcv2 := conv_sl (HS15.out w9 hb9)
          have g4 := HN4i.out
          rw [h0] at g4 ⊢
          clear h0 hs16 hb9
          go_wp2_with fail
          go_ret
          exact ⟨rfl, stepAny HL1.out (stepAny HB3.out HB9.out)⟩
        · have g4 := HN4i.out
          have g5 : ((L2.length : Int) == 0) = false := by rw [beq_eq_false_iff_ne]; omega
          have HVL := Lib.hid (HJV.out w9 _ h0 (HW8.out.below hb9 (Nat.le_refl _)))
          have HS16 := Lib.hid hs16
          have HS15b := Lib.hid (HS15.out w9 hb9)
          clear h0 hs16 hb9
          go_wp2_with (go_at_call 33; (with_reducible refine HVL.out.mono ?_); rintro e w10 ⟨rfl, hb10⟩; have hcv1 := conv_sl (HS16.out.below hb10 (Nat.le_refl _)); have hcv2 := conv_sl (HS15b.out.below hb10 (Nat.le_refl _)))
          go_ret
          exact ⟨rfl, stepAny HL1.out (stepAny HB3.out (stepAny HB9.out hb10))⟩
end Go.Proofs.Ytbklmpekpcneeaa
namespace Go.Proofs.Ytbklmpekpcneeaa.inodesFew
open Go.ChangeShapes Go.WideShapes Go.ChangeAt Go.RowKit
set_option linter.unusedVariables false

theorem own : ownKnob Try.prog.godebug = none := by kernel_rfl
theorem laidOut : laidOutB Try.prog = true := by kernel_rfl

set_option maxRecDepth 100000 in
theorem lifted (os : Os) (started : os.Started) (H : Type) (enc : TypeId × Value → H) :
    ReturnsInHanded {} Try.checked os 7 .any (Rows.inodesFewSpec.pre6 enc Try.prog Try.f7 Rows.inodesFewRow.domain false) (Rows.inodesFewSpec.post enc Try.prog Try.f7 false true false false) := by
  refine returnsInHanded_of_change (C := Try.checked) own started (by kernel_rfl) Try.func7
    (ChangeSpec.witness6 (enc := enc) (C := Try.checked) false ⟨#[], #[.slice none 0 0, .slice none 0 0, .agg #[.int .i64 0, .int .i64 0, .int .i64 0, .slice none 0 0]], []⟩ 7 (by kernel_rfl) (by kernel_rfl) (by kernel_rfl) (by kernel_rfl)) ?_
  intro W base args ds gs before hval0 hW hcnd _
  have hval : ∀ (j : Nat) t v, Try.f7.params[j]? = some t → args[j]? = some v → Value.okWide Try.prog W .any base t v := hval0
  have hW' := hW
  obtain ⟨p, q, hA0, hV, rfl, hfz, hnd⟩ := hW
  have hA : DataW.TrodAll enc Try.prog W 0 (fun _ => true) true Try.f7.params.toList args.toList ds p := hA0
  rw [Try.params7] at hA hval
  obtain ⟨v0, vs0, d0, ds0, p0, q0, hargs, rfl, rfl, h0, r0⟩ := trodAll_cons hA
  obtain ⟨v1, vs1, d1, ds1, p1, q1, rfl, rfl, rfl, h1, r1⟩ := trodAll_cons r0
  obtain ⟨v2, vs2, d2, ds2, p2, q2, rfl, rfl, rfl, h2, r2⟩ := trodAll_cons r1
  obtain ⟨rfl, rfl, rfl⟩ := trodAll_nil r2
  obtain rfl : args = #[v0, v1, v2] := by cases args; simp_all
  obtain ⟨rfl, rfl⟩ := trodVars_none hV
  have k0 := h0
  have lt0 : ∀ x ∈ p0, x.block < W.heap.size := by obtain ⟨m, hm⟩ := k0; exact DataW.trod_lt m _ _ _ hm
  have o0 := open_ops (hval 0 22 v0 rfl rfl) (Arg.of h0)
  have k1 := h1
  have lt1 : ∀ x ∈ p1, x.block < W.heap.size := by obtain ⟨m, hm⟩ := k1; exact DataW.trod_lt m _ _ _ hm
  have o1 := open_ops (hval 1 22 v1 rfl rfl) (Arg.of h1)
  have k2 := h2
  have lt2 : ∀ x ∈ p2, x.block < W.heap.size := by obtain ⟨m, hm⟩ := k2; exact DataW.trod_lt m _ _ _ hm
  have o2 := open_op (hval 2 55 v2 rfl rfl) (Arg.of h2)
  clear hA0 hval0
  refine (lfew_w o0 o1 o2).mono fun e W' ⟨he, bel⟩ => ?_
  subst he
  exact ⟨_, rfl, _, _, _, [], _, [], hW', trodAll_mk1 (shut_bool Try.underlying4 _), (trodAll_cons_mk (Below.trod laidOut (by kernel_rfl) (of_decide_eq_true (by kernel_rfl)) k0 bel lt0) (trodAll_cons_mk (Below.trod laidOut (by kernel_rfl) (of_decide_eq_true (by kernel_rfl)) k1 bel lt1) (trodAll_cons_mk (Below.trod laidOut (by kernel_rfl) (of_decide_eq_true (by kernel_rfl)) k2 bel lt2) trodAll_mk0))), rfl, bel.frame _, fun h => by cases h⟩

theorem over : Rows.inodesFewRow.holds Try.pinned (OpenSpec.ofChange Rows.inodesFewSpec) :=
  OpenClaim.holds_of_wide 7 Try.f7 rfl rfl rfl rfl rfl rfl rfl ⟨rfl, rfl, rfl, rfl, rfl⟩ rfl rfl rfl rfl rfl (by kernel_rfl) Try.func7 (by kernel_rfl)
    (of_decide_eq_true (by kernel_rfl)) (by unfold Func.isWrapper; first | (rw [if_pos (by decide +kernel)]; kernel_rfl) | (rw [if_neg (by decide +kernel)]; exact ⟨rfl, rfl⟩))
    (fun os started H enc _ => lifted os started H enc)

/-- The statement. -/
theorem proved : Rows.InodesFewSaid := over
#print axioms proved
end Go.Proofs.Ytbklmpekpcneeaa.inodesFew
