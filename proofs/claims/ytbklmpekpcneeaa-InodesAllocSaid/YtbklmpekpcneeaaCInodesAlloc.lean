/-
  The law InodesAlloc is proved: it answers true for every input (its walk, and the row).
-/
import Derived.Test.YtbklmpekpcneeaaBi
import Derived.Test.YtbklmpekpcneeaaRows
import Derived.WalkKit
import Derived.ProofKit
import Derived.OpenShut
import Derived.ShutString
import Derived.ChangeOld
import Derived.Below
set_option linter.unusedVariables false
set_option linter.unusedSimpArgs false
set_option maxRecDepth 100000
namespace Nd
/-- Of the inodes 1 .. k - 1 none is used. -/
def Emp (d : List UInt8) (k : Nat) : Prop := Ok d ∧ ∀ m, 1 ≤ m → m < k → (raw d m).kind = 0
theorem emp_start {d : List UInt8} (h : Ok d) : Emp d 1 := ⟨h, fun m h1 h2 => by omega⟩
theorem cont_cases {d : List UInt8} (h : Ok d) {m : Nat} (hm : m < 32) : ((raw d m).kind = 0 ∧ cont d (m : Int) = [45]) ∨ ((raw d m).kind ≠ 0 ∧ ∃ C, cont d (m : Int) = 43 :: C ∧ C.length ≤ 1536) := by
  by_cases hk : (raw d m).kind = 0
  · exact Or.inl ⟨hk, cont_none h hm hk⟩
  · obtain ⟨hs, hb⟩ := ok_bk96 h hm hk
    exact Or.inr ⟨hk, _, cont_some h hm hk, by rw [content_len h.1 hb hs]; exact hs⟩
theorem free_go {d : List UInt8} (h : Ok d) {m : Nat} (h1 : 1 ≤ m) (hm : m < 32) (hk : (raw d m).kind ≠ 0) : ∃ d', freeN d (m : Int) = (d', 0) := by
  unfold freeN
  rw [get_in h hm hk, if_neg (by simp), if_neg (by omega)]
  exact ⟨_, rfl⟩
theorem emp_step {d : List UInt8} {k : Nat} (h : Emp d k) (h1 : 1 ≤ k) (hk : k < 32) : (cont d (k : Int) = [45] ∧ Emp d (k + 1)) ∨ ∃ C d', C.length ≤ 1536 ∧ cont d (k : Int) = 43 :: C ∧ freeN d (k : Int) = (d', 0) ∧ Emp d' (k + 1) := by
  rcases cont_cases h.1 hk with ⟨h2, h3⟩ | ⟨h2, C, h3, h4⟩
  · refine Or.inl ⟨h3, h.1, fun m a b => ?_⟩
    by_cases e : m = k
    · rw [e]; exact h2
    · exact h.2 m a (by omega)
  · obtain ⟨d', hf⟩ := free_go h.1 h1 hk h2
    refine Or.inr ⟨C, d', h4, h3, hf, ?_⟩
    obtain ⟨-, -, m, e, hm, -, -, hstp⟩ := free_stp hf
    obtain rfl : k = m := by omega
    refine ⟨hstp.ok, fun j a b => ?_⟩
    by_cases e : j = k
    · rw [e, hstp.raw]; rfl
    · rw [hstp.other j (by omega) e]; exact h.2 j a (by omega)
theorem raw_free {d : List UInt8} (h : Ok d) {m : Nat} (hm : m < 32) (hk : (raw d m).kind = 0) : raw d m = free := by
  rcases (h.2.2.2.2.1 m hm).2 with h1 | h1
  · exact h1
  · rcases h1.1 with h2 | h2 <;> omega
theorem used_root {d : List UInt8} {x : Ino} (hg : good d x) (hk : x.kind = 2) (hl : x.bl.length = 12) : (used [x]).length = 1 := by
  obtain ⟨-, -, hs, h2⟩ := hg
  rcases h2 with h2 | ⟨h2, h3⟩
  · omega
  have hz : ∀ i, 1 ≤ i → i < 12 → bk x i = 0 := fun i h1 hi => by
    rcases hs i hi with h | h
    · exact h
    · have := h.2.2.1; omega
  unfold used
  simp only [List.flatMap_cons, List.flatMap_nil, List.append_nil]
  match hb : x.bl, hl with
  | a :: r, hl =>
    have ha : a ≠ 0 := by have := h3; unfold bk at this; rw [hb] at this; simpa using this
    have hr : r.filter (fun b => b ≠ 0) = [] := by
      rw [List.filter_eq_nil_iff]
      intro b hb2
      obtain ⟨j, hj, rfl⟩ := List.getElem_of_mem hb2
      have hl' : r.length = 11 := by simpa using hl
      have := hz (j + 1) (by omega) (by omega)
      unfold bk at this
      rw [hb, List.getD_eq_getElem?_getD, List.getElem?_cons_succ, List.getElem?_eq_getElem hj] at this
      simpa using this
    rw [List.filter_cons, hr]
    simp [ha]
theorem inos_root {d : List UInt8} (h : Emp d 32) : inos d = raw d 0 :: List.replicate 31 free := by
  apply List.ext_getElem?
  intro i
  by_cases hi : i < 32
  · rw [raw_get d hi]
    cases i with
    | zero => rfl
    | succ i => rw [List.getElem?_cons_succ, List.getElem?_replicate, if_pos (by omega), raw_free h.1 hi (h.2 (i + 1) (by omega) hi)]
  · rw [List.getElem?_eq_none (by rw [inos_len]; omega), List.getElem?_eq_none (by simp; omega)]
theorem emp_end {d : List UInt8} (h : Emp d 32) : usage d = (1, 1, 0) ∧ freeN d 0 = ([], 12) := by
  have hk2 : (raw d 0).kind = 2 := h.1.2.2.2.2.2.1
  have hg := h.1.2.good (n := 0) (by decide) (by omega)
  have hi := inos_root h
  have hk : cntK d = 1 := by
    unfold cntK
    rw [hi, List.filter_cons, if_pos (by simp [hk2])]
    rw [show (List.replicate 31 free).filter (fun x => decide (x.kind ≠ 0)) = [] by decide]
    rfl
  have hu : (used (inos d)).length = 1 := by
    rw [hi]
    have e : used (raw d 0 :: List.replicate 31 free) = used [raw d 0] ++ used (List.replicate 31 free) := by unfold used; simp
    rw [e, show used (List.replicate 31 free) = [] by decide, List.append_nil]
    exact used_root hg hk2 (raw_enc d 0).n
  refine ⟨by rw [usage_at h.1, hk, hu]; rfl, ?_⟩
  have hg0 := get_in h.1 (m := 0) (by decide) (by omega)
  unfold freeN
  rw [show ((0 : Nat) : Int) = 0 from rfl] at hg0
  rw [hg0, if_neg (by simp), if_pos rfl]
end Nd
set_option maxRecDepth 100000
namespace Nd
theorem full_used {d : List UInt8} (hd : Ok d) (h : ∀ j, 18 ≤ j → j < 96 → Ex.getB (bits d) (j : Nat) = true) : (used (inos d)).length = 78 := by
  have h1 := usage_ok hd
  unfold usage at h1
  rw [if_neg (by rw [hd.check]; simp)] at h1
  injection h1 with _ h1
  injection h1 with h1 _
  have hc : Ex.countTo (bits d) 96 = 96 := by
    unfold Ex.countTo
    rw [List.filter_eq_self.2 fun j hj => ?_, List.length_range]
    have hj := List.mem_range.1 hj
    by_cases h2 : j < 18
    · rw [hd.2.bit hj]; simp [h2]
    · exact h j (by omega) hj
  rw [hc] at h1
  omega
theorem full_inos {d : List UInt8} (h : (List.range 32).find? (fun n => (raw d n).kind = 0) = none) : cntK d = 32 := by
  unfold cntK inos
  rw [List.filter_eq_self.2 fun x hx => ?_, List.length_map, List.length_range]
  obtain ⟨n, hn, rfl⟩ := List.mem_map.1 hx
  have := List.find?_eq_none.1 h n hn
  simpa using this
theorem alloc_err {d d' : List UInt8} {kind n ec : Int} (hd : Ok d) (h : alloc d kind = (n, d', ec)) (he : ec ≠ 0) : d' = [] ∧ n = 0 ∧ ((ec = 1 ∧ kind ≠ 1 ∧ kind ≠ 2) ∨ (ec = 13 ∧ (cntK d = 32 ∨ (kind = 2 ∧ (used (inos d)).length = 78)))) := by
  unfold alloc at h
  rw [if_neg (by rw [hd.check]; simp)] at h
  split at h
  · rename_i hk
    injection h with h1 h; injection h with h2 h3
    exact ⟨h2.symm, h1.symm, Or.inl ⟨h3.symm, hk.1, hk.2⟩⟩
  rename_i hk
  split at h
  · rename_i hf
    injection h with h1 h; injection h with h2 h3
    exact ⟨h2.symm, h1.symm, Or.inr ⟨h3.symm, Or.inl (full_inos hf)⟩⟩
  · split at h
    · injection h with h1 h; injection h with h2 h3
      exact absurd h3.symm he
    · rename_i hk1
      simp only at h
      split at h
      · rename_i ht
        injection h with h1 h; injection h with h2 h3
        refine ⟨h2.symm, h1.symm, Or.inr ⟨h3.symm, Or.inr ⟨by omega, full_used hd fun j j1 j2 => ?_⟩⟩⟩
        unfold takeN at ht
        by_cases hl : 1 ≤ (Ex.cl (bits d) 18 96).length
        · rw [if_pos hl] at ht; simp at ht
        · have hn : Ex.cl (bits d) 18 96 = [] := List.eq_nil_of_length_eq_zero (by omega)
          unfold Ex.cl at hn
          have := List.filter_eq_nil_iff.1 hn j (by rw [List.mem_range'_1]; omega)
          simpa using this
      · injection h with h1 h; injection h with h2 h3
        exact absurd h3.symm he
theorem used_free_len {d : List UInt8} (hd : Ok d) {m : Nat} (hm : m < 32) (hk : (raw d m).kind = 0) : (used (inos d)).length = (U d m).length := by
  have h := (U_used (d := d) hm).length_eq
  rw [raw_free hd hm hk, used_free] at h
  simpa using h
theorem alloc_law {d d' : List UInt8} {kind n : Int} (hd : Ok d) (h : alloc d kind = (n, d', 0)) : Ok d' ∧ (kind = 1 ∨ kind = 2) ∧ ∃ (m : Nat) (b : List UInt8), n = m ∧ m < 32 ∧ cont d (m : Int) = [45] ∧ cont d' (m : Int) = 43 :: (if kind = 2 then List.replicate 128 0 else []) ∧
    (∀ i : Nat, i < m → ∃ C, cont d (i : Int) = 43 :: C) ∧ (∀ i : Nat, i < 32 → i ≠ m → cont d' (i : Int) = cont d (i : Int)) ∧ freeN d' (m : Int) = (b, 0) ∧ Ok b ∧ (∀ i : Nat, i < 32 → cont b (i : Int) = cont d (i : Int)) ∧ cntK b = cntK d ∧ (used (inos b)).length = (used (inos d)).length := by
  obtain ⟨-, -, hk, m, rfl, hm, hm0, hlow, hs⟩ := alloc_stp h
  have hroot : m ≠ 0 := fun e => by
    subst e
    have := hd.2.root
    omega
  obtain ⟨x, hstp, hxk, hcx⟩ : ∃ x : Ino, Stp d d' m x ∧ x.kind ≠ 0 ∧ content d' x = (if kind = 2 then List.replicate 128 0 else []) := by
    rcases hs with ⟨hk1, hstp⟩ | ⟨i, hk2, h18, h96, -, hstp, hz⟩
    · refine ⟨_, hstp, by decide, ?_⟩
      rw [if_neg (by omega)]
      unfold content
      simp
    · refine ⟨_, hstp, (by decide : (2 : Nat) ≠ 0), ?_⟩
      rw [if_pos hk2]
      have hb96 : ∀ j, j < 12 → bk (⟨2, 128, (List.replicate 12 0).set 0 i⟩ : Ino) j < 96 := fun j hj => by
        unfold bk
        rw [List.getD_eq_getElem?_getD, List.getElem?_set]
        split
        · simp; exact h96
        · rw [List.getElem?_replicate]; split <;> simp
      have hb0 : bk (⟨2, 128, (List.replicate 12 0).set 0 i⟩ : Ino) 0 = i := by
        unfold bk; simp
      have hl := content_len hstp.len hb96 (show (128 : Nat) ≤ 1536 by decide)
      refine ext_g (by rw [hl, List.length_replicate]) fun t ht => ?_
      rw [hl] at ht
      have ht : t < 128 := ht
      rw [content_g hstp.len hb96 (show (128 : Nat) ≤ 1536 by decide) ht, show t / 128 = 0 by omega, hb0, if_neg (by omega), hz (t % 128) (Nat.mod_lt _ (by decide))]
      unfold g
      rw [List.getD_eq_getElem?_getD, List.getElem?_replicate]
      split <;> rfl
  have hk' : (raw d' m).kind ≠ 0 := by rw [hstp.raw]; exact hxk
  obtain ⟨b, hb⟩ := free_go hstp.ok (by omega) hm hk'
  have hb2 := hb
  obtain ⟨-, -, m2, e, -, -, -, hstp2⟩ := free_stp hb2
  obtain rfl : m = m2 := by omega
  have hbk : (raw b m).kind = 0 := by rw [hstp2.raw]; rfl
  refine ⟨hstp.ok, hk, m, b, rfl, hm, cont_none hd hm hm0, ?_, fun i hi => ⟨_, cont_some hd (by omega) (hlow i hi)⟩, fun i hi hne => hstp.cont_other hd hi hne, hb, hstp2.ok, fun i hi => ?_, ?_, ?_⟩
  · rw [cont_some hstp.ok hm hk', hstp.raw, hcx]
  · by_cases e : i = m
    · rw [e, cont_none hstp2.ok hm hbk, cont_none hd hm hm0]
    · rw [hstp2.cont_other hstp.ok hi e, hstp.cont_other hd hi e]
  · have h1 := hstp.cnt hm
    have h2 := hstp2.cnt hm
    rw [if_neg (by omega), if_pos hxk] at h1
    rw [if_pos hk', if_neg (by decide)] at h2
    omega
  · rw [used_free_len hd hm hm0, used_free_len hstp2.ok hm hbk]
    have h1 := hstp.used.length_eq
    have h2 := (U_used (d := d') hm).length_eq
    have h3 := hstp2.used.length_eq
    have h4 := used_free_len hstp2.ok hm hbk
    rw [hstp.raw, List.length_append] at h2
    rw [List.length_append] at h1
    rw [used_free, List.nil_append] at h3
    omega
end Nd
namespace Go.Proofs.Ytbklmpekpcneeaa
open Go.RowKit
set_option maxRecDepth 100000

theorem dash_ne (C : List UInt8) : ((43 :: C) == [45]) = false := by
  rw [beq_eq_false_iff_ne]
  intro h
  injection h with h _
  exact absurd h (by decide)

set_option maxHeartbeats 16000000 in
theorem lalloc_w {v0 v1 : Value} {w : World} (o0 : IsOps w v0) (o1 : IsI64 w v1) : Calls Try.prog 10 #[v0, v1] w fun e w' => e = .returned (.bool true) ∧ Below w.heap.size w w' := by
  obtain ⟨l0, hv0⟩ := o0
  obtain ⟨n1, rfl, -, -⟩ := o1
  obtain ⟨a0, c0, rfl, -⟩ := hv0.open
  have HV0 := Lib.hid hv0
  have HAW := Lib.hid awake_w
  have HFE : Hid (∀ W, Below w.heap.size w W → Calls Try.prog 12 #[.slice a0 l0.length c0] W fun e w' => e = .returned (.bool (Nd.few l0)) ∧ W = w') := fun W hW => rfew_w (hv0.below hW (Nat.le_refl _))
  have HDK : Hid (Nd.few l0 = true → ∀ W, Below w.heap.size w W → Calls Try.prog 13 #[.slice a0 l0.length c0] W fun e w' => ∃ v', e = .returned v' ∧ Sl eb w' v' (Nd.disk l0) ∧ Below W.heap.size W w') := fun hf W hW => rdisk_w (hv0.below hW (Nat.le_refl _)) hf
  have HOK := Lib.hid (Nd.disk_ok l0)
  clear hv0
  generalize Nd.disk l0 = d at *
  cases hf : Nd.few l0 with
  | false =>
    rw [hf] at HFE
    clear hf
    go_enter Try.func10, Try.ntmps10
    go_wp2_with (first
      | (go_at_call 11; (with_reducible refine (HAW.out _).mono ?_); rintro e w1 ⟨rfl, hb1⟩)
      | (go_at_call 12; (with_reducible refine (HFE.out _ hb1).mono ?_); rintro e w' ⟨rfl, rfl⟩))
    go_ret
    exact ⟨rfl, hb1⟩
  | true =>
  have HDK2 := Lib.hid (HDK.out hf)
  rw [hf] at HFE
  clear hf HDK
  have HUS : Hid (∀ W v, Sl eb W v d → Calls Try.prog 16 #[v] W fun e w' => e = .returned (.tuple #[.int .i64 (Nd.cntK d : Int), .int .i64 ((Nd.used (Nd.inos d)).length : Int), .int .i64 0]) ∧ Below W.heap.size W w') := fun W v hv => by
    have h := vusage_w hv (by rw [HOK.out.1]; decide)
    rw [Nd.usage_at HOK.out] at h
    exact h
  have HAL : Hid (∀ W v, Sl eb W v d → Calls Try.prog 34 #[v, .int .i64 n1] W fun e w' => ∃ v', e = .returned (.tuple #[.int .i64 (Nd.alloc d n1).1, v', .int .i64 (Nd.alloc d n1).2.2]) ∧ Sl eb w' v' (Nd.alloc d n1).2.1 ∧ Below W.heap.size W w') := fun W v hv => valloc_w hv (by rw [HOK.out.1]; decide) n1
  have hte := fun n' d' ec h he => Nd.alloc_err (d := d) (d' := d') (kind := n1) (n := n') (ec := ec) HOK.out h he
  have htl := fun n' d' h => Nd.alloc_law (d := d) (d' := d') (kind := n1) (n := n') HOK.out h
  obtain ⟨n', d', ec, hx⟩ : ∃ n' d' ec, Nd.alloc d n1 = (n', d', ec) := ⟨_, _, _, rfl⟩
  rw [hx] at HAL
  by_cases he : ec = 0
  rotate_left
  · obtain ⟨rfl, rfl, hcase⟩ := hte n' d' ec hx he
    have f1 : (ec != 0) = true := by rw [bne_iff_ne]; exact he
    generalize Nd.cntK d = ka at *
    generalize (Nd.used (Nd.inos d)).length = ub at *
    clear hte htl hx
    have hcase2 : (ec = 1 ∧ n1 ≠ 1 ∧ n1 ≠ 2 ∧ ka = 32) ∨ (ec = 1 ∧ n1 ≠ 1 ∧ n1 ≠ 2 ∧ ka ≠ 32) ∨ (ec = 13 ∧ ka = 32) ∨ (ec = 13 ∧ ka ≠ 32 ∧ n1 = 2 ∧ ub = 78) := by
      rcases hcase with ⟨h1, h2, h3⟩ | ⟨h1, h2 | ⟨h2, h3⟩⟩
      · by_cases h : ka = 32
        · exact Or.inl ⟨h1, h2, h3, h⟩
        · exact Or.inr (Or.inl ⟨h1, h2, h3, h⟩)
      · exact Or.inr (Or.inr (Or.inl ⟨h1, h2⟩))
      · by_cases h : ka = 32
        · exact Or.inr (Or.inr (Or.inl ⟨h1, h⟩))
        · exact Or.inr (Or.inr (Or.inr ⟨h1, h, h2, h3⟩))
    clear hcase he
    rcases hcase2 with ⟨h1, h2, h3, h4⟩ | ⟨h1, h2, h3, h4⟩ | ⟨h1, h4⟩ | ⟨h1, h4, h3, h5⟩
    · have f2 : ((ka : Int) == 32) = true := by rw [beq_iff_eq]; omega
      have f3 : (ec == 1) = true := by rw [beq_iff_eq]; exact h1
      have f4 : (n1 != 1) = true := by rw [bne_iff_ne]; exact h2
      have f5 : (n1 != 2) = true := by rw [bne_iff_ne]; exact h3
      clear h1 h2 h3 h4
      go_enter Try.func10, Try.ntmps10
      go_upto_region 8 with (first
        | (go_at_call 11; (with_reducible refine (HAW.out _).mono ?_); rintro e w1 ⟨rfl, hb1⟩)
        | (go_at_call 12; (with_reducible refine (HFE.out _ hb1).mono ?_); rintro e w' ⟨rfl, rfl⟩)
        | (go_at_call 13; (with_reducible refine (HDK2.out _ hb1).mono ?_); rintro e w2 ⟨vd, rfl, hsd, hb2⟩)
        | (go_at_call 16; (with_reducible refine (HUS.out _ _ hsd).mono ?_); rintro e w3 ⟨rfl, hb3⟩)
        | (go_at_call 34; (with_reducible refine (HAL.out _ _ (hsd.below hb3 (Nat.le_refl _))).mono ?_); rintro e w4 ⟨v4, rfl, hs4, hb4⟩))
      obtain ⟨a3, c3, rfl, -⟩ := hs4
      go_wp2_with fail
      go_ret
      exact ⟨by simp, stepAny (stepAny (stepAny hb1 hb2) hb3) hb4⟩
    · have f2 : ((ka : Int) == 32) = false := by rw [beq_eq_false_iff_ne]; omega
      have f3 : (ec == 1) = true := by rw [beq_iff_eq]; exact h1
      have f4 : (n1 != 1) = true := by rw [bne_iff_ne]; exact h2
      have f5 : (n1 != 2) = true := by rw [bne_iff_ne]; exact h3
      have f6 : (n1 == 2) = false := by rw [beq_eq_false_iff_ne]; exact h3
      clear h1 h2 h3 h4
      go_enter Try.func10, Try.ntmps10
      go_upto_region 8 with (first
        | (go_at_call 11; (with_reducible refine (HAW.out _).mono ?_); rintro e w1 ⟨rfl, hb1⟩)
        | (go_at_call 12; (with_reducible refine (HFE.out _ hb1).mono ?_); rintro e w' ⟨rfl, rfl⟩)
        | (go_at_call 13; (with_reducible refine (HDK2.out _ hb1).mono ?_); rintro e w2 ⟨vd, rfl, hsd, hb2⟩)
        | (go_at_call 16; (with_reducible refine (HUS.out _ _ hsd).mono ?_); rintro e w3 ⟨rfl, hb3⟩)
        | (go_at_call 34; (with_reducible refine (HAL.out _ _ (hsd.below hb3 (Nat.le_refl _))).mono ?_); rintro e w4 ⟨v4, rfl, hs4, hb4⟩))
      obtain ⟨a3, c3, rfl, -⟩ := hs4
      go_wp2_with fail
      go_ret
      exact ⟨by simp, stepAny (stepAny (stepAny hb1 hb2) hb3) hb4⟩
    · have f2 : ((ka : Int) == 32) = true := by rw [beq_iff_eq]; omega
      have f3 : (ec == 1) = false := by rw [beq_eq_false_iff_ne]; omega
      have f4 : (ec == 13) = true := by rw [beq_iff_eq]; exact h1
      clear h1 h4
      go_enter Try.func10, Try.ntmps10
      go_upto_region 8 with (first
        | (go_at_call 11; (with_reducible refine (HAW.out _).mono ?_); rintro e w1 ⟨rfl, hb1⟩)
        | (go_at_call 12; (with_reducible refine (HFE.out _ hb1).mono ?_); rintro e w' ⟨rfl, rfl⟩)
        | (go_at_call 13; (with_reducible refine (HDK2.out _ hb1).mono ?_); rintro e w2 ⟨vd, rfl, hsd, hb2⟩)
        | (go_at_call 16; (with_reducible refine (HUS.out _ _ hsd).mono ?_); rintro e w3 ⟨rfl, hb3⟩)
        | (go_at_call 34; (with_reducible refine (HAL.out _ _ (hsd.below hb3 (Nat.le_refl _))).mono ?_); rintro e w4 ⟨v4, rfl, hs4, hb4⟩))
      obtain ⟨a3, c3, rfl, -⟩ := hs4
      go_wp2_with fail
      go_ret
      exact ⟨by simp, stepAny (stepAny (stepAny hb1 hb2) hb3) hb4⟩
    · have f2 : ((ka : Int) == 32) = false := by rw [beq_eq_false_iff_ne]; omega
      have f3 : (ec == 1) = false := by rw [beq_eq_false_iff_ne]; omega
      have f4 : (ec == 13) = true := by rw [beq_iff_eq]; exact h1
      have f5 : (n1 == 2) = true := by rw [beq_iff_eq]; exact h3
      have f6 : ((ub : Int) == 78) = true := by rw [beq_iff_eq]; omega
      clear h1 h3 h4 h5
      go_enter Try.func10, Try.ntmps10
      go_upto_region 8 with (first
        | (go_at_call 11; (with_reducible refine (HAW.out _).mono ?_); rintro e w1 ⟨rfl, hb1⟩)
        | (go_at_call 12; (with_reducible refine (HFE.out _ hb1).mono ?_); rintro e w' ⟨rfl, rfl⟩)
        | (go_at_call 13; (with_reducible refine (HDK2.out _ hb1).mono ?_); rintro e w2 ⟨vd, rfl, hsd, hb2⟩)
        | (go_at_call 16; (with_reducible refine (HUS.out _ _ hsd).mono ?_); rintro e w3 ⟨rfl, hb3⟩)
        | (go_at_call 34; (with_reducible refine (HAL.out _ _ (hsd.below hb3 (Nat.le_refl _))).mono ?_); rintro e w4 ⟨v4, rfl, hs4, hb4⟩))
      obtain ⟨a3, c3, rfl, -⟩ := hs4
      go_wp2_with fail
      go_ret
      exact ⟨by simp, stepAny (stepAny (stepAny hb1 hb2) hb3) hb4⟩
  subst he
  obtain ⟨hok, hk, m, b, rfl, hm, hcd, hcd', hlow, hoth, hfr, hokb, hcb, hcnt, hused⟩ := htl n' d' hx
  clear hte htl hx
  have HCA : Hid (∀ W v (i : Int), Sl eb W v d → Calls Try.prog 15 #[v, .int .i64 i] W fun e w' => e = .returned (.string ⟨(Nd.cont d i).toArray⟩) ∧ Below W.heap.size W w') := fun W v i hv => lcontent_w hv (by rw [HOK.out.1]; decide) i
  have HCB : Hid (∀ W v (i : Int), Sl eb W v d' → Calls Try.prog 15 #[v, .int .i64 i] W fun e w' => e = .returned (.string ⟨(Nd.cont d' i).toArray⟩) ∧ Below W.heap.size W w') := fun W v i hv => lcontent_w hv (by rw [hok.1]; decide) i
  have HCC : Hid (∀ W v (i : Int), Sl eb W v b → Calls Try.prog 15 #[v, .int .i64 i] W fun e w' => e = .returned (.string ⟨(Nd.cont b i).toArray⟩) ∧ Below W.heap.size W w') := fun W v i hv => lcontent_w hv (by rw [hokb.1]; decide) i
  have HFR : Hid (∀ W v, Sl eb W v d' → Calls Try.prog 36 #[v, .int .i64 (m : Int)] W fun e w' => ∃ v', e = .returned (.tuple #[v', .int .i64 0]) ∧ Sl eb w' v' b ∧ Below W.heap.size W w') := fun W v hv => by
    have h := vfree_w hv (by rw [hok.1]; decide) (m : Int)
    rw [hfr] at h
    exact h
  have HUB : Hid (∀ W v, Sl eb W v b → Calls Try.prog 16 #[v] W fun e w' => e = .returned (.tuple #[.int .i64 (Nd.cntK d : Int), .int .i64 ((Nd.used (Nd.inos d)).length : Int), .int .i64 0]) ∧ Below W.heap.size W w') := fun W v hv => by
    have h := vusage_w hv (by rw [hokb.1]; decide)
    rw [Nd.usage_at hokb, hcnt, hused] at h
    exact h
  have HCK : Hid (∀ W v, Sl eb W v d' → Calls Try.prog 17 #[v] W fun e w' => e = .returned (.int .i64 0) ∧ Below W.heap.size W w') := fun W v hv => by
    have h := vcheck_w hv (by rw [hok.1]; decide)
    rw [hok.check] at h
    exact h
  have HCKB : Hid (∀ W v, Sl eb W v b → Calls Try.prog 17 #[v] W fun e w' => e = .returned (.int .i64 0) ∧ Below W.heap.size W w') := fun W v hv => by
    have h := vcheck_w hv (by rw [hokb.1]; decide)
    rw [hokb.check] at h
    exact h
  generalize Nd.cntK d = ka at *
  generalize (Nd.used (Nd.inos d)).length = ub at *
  have HLOW := Lib.hid hlow
  have HOTH := Lib.hid hoth
  have HCBD := Lib.hid hcb
  clear hlow hoth hcb hfr hcnt hused hok hokb
  by_cases hk2 : n1 = 2
  · rw [if_pos hk2] at hcd'
    have f2 : (n1 == 2) = true := by rw [beq_iff_eq]; exact hk2
    obtain ⟨Z, hZ⟩ : ∃ Z, Z = List.replicate 128 (0 : UInt8) := ⟨_, rfl⟩
    rw [← hZ] at hcd'
    have hZl : Z.length = 128 := by rw [hZ, List.length_replicate]
    obtain ⟨T, hT⟩ : ∃ T, T = 43 :: Z := ⟨_, rfl⟩
    rw [← hT] at hcd'
    have HPS : Hid ((⟨#[43]⟩ : ByteArray) ++ ⟨Z.toArray⟩ = ⟨T.toArray⟩) := by rw [hT]; exact plus_str Z
    obtain ⟨i0, hi0, hz0, hz1, hz2⟩ := info_parts Try.info5
    have hm1 : ∀ W : World, (Instr.makeSlice 25 (.int .i64 128) (.int .i64 128)).run Try.prog W = .ok (.slice (some ⟨W.heap.size, 0, none⟩) 128 128) (W.alloc (.cells (Z.map eb).toArray 5 (0, 0))) := fun W => by
      have h := run_make (P := Try.prog) W 25 5 i0 (.int .u8 0) Try.underlying25 hi0 hz0 .i64 .i64 128 128 (by decide) (by decide) (by rw [hz2]; decide) (by decide)
      rw [hz1] at h
      rw [hZ, show (List.replicate 128 (0 : UInt8)).map eb = List.replicate 128 (.int .u8 0) by simp [eb], ← toList_made]
      exact h
    have HCV : Hid (∀ W : World, (convert 25 9 (.slice (some ⟨W.heap.size, 0, none⟩) 128 128)).run Try.prog (W.alloc (.cells (Z.map eb).toArray 5 (0, 0))) = .ok (.string ⟨Z.toArray⟩) (W.alloc (.cells (Z.map eb).toArray 5 (0, 0)))) := fun W => by
      have h := Bk.own (Bk.new W 5 (Z.map eb)) (Nat.le_refl _) (by simp [maxLen, hZl])
      have h2 := own_sl0 (by simpa using h) (by simp)
      obtain ⟨a, c, e, -, -, -, hr⟩ := h2
      injection e with e1 e2 e3
      subst e1 e3
      have h3 := conv_run _ _ Z 128 hr
      rw [hZl] at h3
      exact h3
    generalize (Z.map eb).toArray = ZA at hm1 HCV
    clear hi0 hz0 hz1 hz2 hZ hT hk2 hk
    go_enter Try.func10, Try.ntmps10
    go_upto_region 8 with (first
      | (go_at_call 11; (with_reducible refine (HAW.out _).mono ?_); rintro e w1 ⟨rfl, hb1⟩)
      | (go_at_call 12; (with_reducible refine (HFE.out _ hb1).mono ?_); rintro e w' ⟨rfl, rfl⟩)
      | (go_at_call 13; (with_reducible refine (HDK2.out _ hb1).mono ?_); rintro e w2 ⟨vd, rfl, hsd, hb2⟩)
      | (go_at_call 16; (with_reducible refine (HUS.out _ _ hsd).mono ?_); rintro e w3 ⟨rfl, hb3⟩)
      | (go_at_call 34; (with_reducible refine (HAL.out _ _ (hsd.below hb3 (Nat.le_refl _))).mono ?_); rintro e w4 ⟨v4, rfl, hs4, hb4⟩))
    have hcv := HCV.out w4
    have f9 : ¬ 9223372036854775807 < 1 + Z.length := by omega
    go_upto_region 14 with fail
    rw [HPS.out]
    have hba := low_alloc w4 (.cells ZA 5 (0, 0))
    generalize w4.alloc (.cells ZA 5 (0, 0)) = w5 at hba ⊢
    clear hcv f9 hm1 HPS f2 HCV
    have hl5 := stepAny (stepAny (stepAny (stepAny hb1 hb2) hb3) hb4) hba
    have hs5 := hs4.below hba (Nat.le_refl _)
    have hsd5 := hsd.below (stepAny (stepAny hb3 hb4) hba) (Nat.le_refl _)
    have HL5 := Lib.hid hl5
    have HSD5 := Lib.hid hsd5
    have HS5 := Lib.hid hs5
    clear hl5 hs5 hsd5 hsd hs4 hb1 hb2 hb3 hb4 HAW HFE HDK2 HUS HAL
    have HA : Hid (∀ W (i : Int), Below w5.heap.size w5 W → Calls Try.prog 15 #[vd, .int .i64 i] W fun e w' => e = .returned (.string ⟨(Nd.cont d i).toArray⟩) ∧ Below W.heap.size W w') := fun W i hW => HCA.out W vd i (HSD5.out.below hW (Nat.le_refl _))
    have HB : Hid (∀ W (i : Int), Below w5.heap.size w5 W → Calls Try.prog 15 #[v4, .int .i64 i] W fun e w' => e = .returned (.string ⟨(Nd.cont d' i).toArray⟩) ∧ Below W.heap.size W w') := fun W i hW => HCB.out W v4 i (HS5.out.below hW (Nat.le_refl _))
    have HA1 : Hid (∀ W, Below w5.heap.size w5 W → Calls Try.prog 15 #[vd, .int .i64 (m : Int)] W fun e w' => e = .returned (.string ⟨#[45]⟩) ∧ Below W.heap.size W w') := fun W hW => by
      have h := HA.out W (m : Int) hW
      rw [hcd] at h
      exact h
    have HB1 : Hid (∀ W, Below w5.heap.size w5 W → Calls Try.prog 15 #[v4, .int .i64 (m : Int)] W fun e w' => e = .returned (.string ⟨T.toArray⟩) ∧ Below W.heap.size W w') := fun W hW => by
      have h := HB.out W (m : Int) hW
      rw [hcd'] at h
      exact h
    have HK1 : Hid (∀ W, Below w5.heap.size w5 W → Calls Try.prog 17 #[v4] W fun e w' => e = .returned (.int .i64 0) ∧ Below W.heap.size W w') := fun W hW => HCK.out W v4 (HS5.out.below hW (Nat.le_refl _))
    have HF1 : Hid (∀ W, Below w5.heap.size w5 W → Calls Try.prog 36 #[v4, .int .i64 (m : Int)] W fun e w' => ∃ v', e = .returned (.tuple #[v', .int .i64 0]) ∧ Sl eb w' v' b ∧ Below W.heap.size W w') := fun W hW => HFR.out W v4 (HS5.out.below hW (Nat.le_refl _))
    have HCD := Lib.hid hcd
    clear HCA HCB HCK HFR hcd hcd'
    have hr5 := Below.refl w5.heap.size w5
    go_upto_region 16 with (first
      | (go_at_call 15; (with_reducible refine (HB1.out _ hr5).mono ?_); rintro e wa ⟨rfl, hba⟩; have hba1 := stepAny hr5 hba)
      | (go_at_call 15; (with_reducible refine (HA1.out _ hba1).mono ?_); rintro e wb ⟨rfl, hbb⟩; have hbb1 := stepAny hba1 hbb)
      | (go_at_call 17; (with_reducible refine (HK1.out _ hbb1).mono ?_); rintro e wc ⟨rfl, hbc⟩; have hbc1 := stepAny hbb1 hbc))
    clear hba hba1 hbb hbb1 hbc
    go_upto_region 17 with (go_at_call 36; (with_reducible refine (HF1.out _ hbc1).mono ?_); rintro e w6 ⟨v6, rfl, hs6, hb6⟩)
    have hl6 := stepAny hbc1 hb6
    have HL6 := Lib.hid hl6
    have HC : Hid (∀ W (i : Nat), i < 32 → Below w6.heap.size w6 W → Calls Try.prog 15 #[v6, .int .i64 (i : Int)] W fun e w' => e = .returned (.string ⟨(Nd.cont d (i : Int)).toArray⟩) ∧ Below W.heap.size W w') := fun W i hi hW => by
      have h := HCC.out W v6 (i : Int) (hs6.below hW (Nat.le_refl _))
      rw [HCBD.out i hi] at h
      exact h
    have HD : Hid (∀ W (i : Nat), i < 32 → i ≠ m → Below w6.heap.size w6 W → Calls Try.prog 15 #[v4, .int .i64 (i : Int)] W fun e w' => e = .returned (.string ⟨(Nd.cont d (i : Int)).toArray⟩) ∧ Below W.heap.size W w') := fun W i hi hne hW => by
      have h := HB.out W (i : Int) (stepAny hl6 hW)
      rw [HOTH.out i hi hne] at h
      exact h
    have HE : Hid (∀ W (i : Int), Below w6.heap.size w6 W → Calls Try.prog 15 #[vd, .int .i64 i] W fun e w' => e = .returned (.string ⟨(Nd.cont d i).toArray⟩) ∧ Below W.heap.size W w') := fun W i hW => HA.out W i (stepAny hl6 hW)
    have HU6 : Hid (∀ W, Below w6.heap.size w6 W → Calls Try.prog 16 #[v6] W fun e w' => e = .returned (.tuple #[.int .i64 (ka : Int), .int .i64 (ub : Int), .int .i64 0]) ∧ Below W.heap.size W w') := fun W hW => HUB.out W v6 (hs6.below hW (Nat.le_refl _))
    have HK6 : Hid (∀ W, Below w6.heap.size w6 W → Calls Try.prog 17 #[v6] W fun e w' => e = .returned (.int .i64 0) ∧ Below W.heap.size W w') := fun W hW => HCKB.out W v6 (hs6.below hW (Nat.le_refl _))
    clear hs6 hl6 hb6 hbc1 HB1 HA1 HK1 HF1 HCC HUB HCKB hr5
    go_wp2_with fail
    go_loopw [16] (fun i wt => ∃ j : Nat, i = .int .i64 j ∧ j ≤ 32 ∧ Below w6.heap.size w6 wt) (fun i _ => 32 - (intOf i).toNat)
    case atStart => exact ⟨0, rfl, by omega, Below.refl _ _⟩
    case round =>
      rename World => wt
      obtain ⟨j, rfl, hj, hbt⟩ := hrel
      by_cases hlt : j < 32
      · have g5 : (j : Int) < 32 := by omega
        have HBT := Lib.hid hbt
        have H1 : Hid (∀ W, Below w6.heap.size w6 W → Calls Try.prog 15 #[vd, .int .i64 (j : Int)] W fun e w' => e = .returned (.string ⟨(Nd.cont d (j : Int)).toArray⟩) ∧ Below W.heap.size W w') := fun W hW => HE.out W (j : Int) hW
        have H2 : Hid (∀ W, Below w6.heap.size w6 W → Calls Try.prog 15 #[v6, .int .i64 (j : Int)] W fun e w' => e = .returned (.string ⟨(Nd.cont d (j : Int)).toArray⟩) ∧ Below W.heap.size W w') := fun W hW => HC.out W j hlt hW
        have H3 : Hid (j ≠ m → ∀ W, Below w6.heap.size w6 W → Calls Try.prog 15 #[v4, .int .i64 (j : Int)] W fun e w' => e = .returned (.string ⟨(Nd.cont d (j : Int)).toArray⟩) ∧ Below W.heap.size W w') := fun hne W hW => HD.out W j hlt hne hW
        have hlo := fun h : j < m => HLOW.out j h
        generalize Nd.cont d (j : Int) = Y at *
        by_cases hjm : j < m
        · have g6 : (j : Int) < (m : Int) := by omega
          have g7 : ((j : Int) != (m : Int)) = true := by rw [bne_iff_ne]; omega
          obtain ⟨C, hC⟩ := hlo hjm
          have g8 : (Y == [45]) = false := by rw [hC]; exact dash_ne C
          have H3' := Lib.hid (H3.out (by omega))
          clear hlo hjm hC H3 hbt
          have hbt := HBT.out
          go_wp2_with (first
            | (go_at_call 15; (with_reducible refine (H1.out _ (by with_reducible assumption)).mono ?_); rintro e wa ⟨rfl, hba⟩; have hba1 : Below w6.heap.size w6 wa := stepAny (by with_reducible assumption) hba)
            | (go_at_call 15; (with_reducible refine (H2.out _ (by with_reducible assumption)).mono ?_); rintro e wa ⟨rfl, hba⟩; have hba1 : Below w6.heap.size w6 wa := stepAny (by with_reducible assumption) hba)
            | (go_at_call 15; (with_reducible refine (H3'.out _ (by with_reducible assumption)).mono ?_); rintro e wa ⟨rfl, hba⟩; have hba1 : Below w6.heap.size w6 wa := stepAny (by with_reducible assumption) hba))
          go_roundw
          case rel => exact ⟨j + 1, by go_num, by omega, by with_reducible assumption⟩
          case measure => simp [intOf]; omega
        · have g6 : ¬ (j : Int) < (m : Int) := by omega
          clear hlo
          by_cases hje : j = m
          · have g7 : ((j : Int) != (m : Int)) = false := by rw [hje]; simp
            clear hjm hje H3
            go_wp2_with (first
              | (go_at_call 15; (with_reducible refine (H1.out _ (by with_reducible assumption)).mono ?_); rintro e wa ⟨rfl, hba⟩; have hba1 : Below w6.heap.size w6 wa := stepAny (by with_reducible assumption) hba)
              | (go_at_call 15; (with_reducible refine (H2.out _ (by with_reducible assumption)).mono ?_); rintro e wa ⟨rfl, hba⟩; have hba1 : Below w6.heap.size w6 wa := stepAny (by with_reducible assumption) hba))
            go_roundw
            case rel => exact ⟨j + 1, by go_num, by omega, by with_reducible assumption⟩
            case measure => simp [intOf]; omega
          · have g7 : ((j : Int) != (m : Int)) = true := by rw [bne_iff_ne]; omega
            have H3' := Lib.hid (H3.out hje)
            clear hjm hje H3
            go_wp2_with (first
              | (go_at_call 15; (with_reducible refine (H1.out _ (by with_reducible assumption)).mono ?_); rintro e wa ⟨rfl, hba⟩; have hba1 : Below w6.heap.size w6 wa := stepAny (by with_reducible assumption) hba)
              | (go_at_call 15; (with_reducible refine (H2.out _ (by with_reducible assumption)).mono ?_); rintro e wa ⟨rfl, hba⟩; have hba1 : Below w6.heap.size w6 wa := stepAny (by with_reducible assumption) hba)
              | (go_at_call 15; (with_reducible refine (H3'.out _ (by with_reducible assumption)).mono ?_); rintro e wa ⟨rfl, hba⟩; have hba1 : Below w6.heap.size w6 wa := stepAny (by with_reducible assumption) hba))
            go_roundw
            case rel => exact ⟨j + 1, by go_num, by omega, by with_reducible assumption⟩
            case measure => simp [intOf]; omega
      · have g5 : ¬ (j : Int) < 32 := by omega
        have HBT := Lib.hid (stepAny HL5.out (stepAny HL6.out hbt))
        go_wp2_with (first
          | (go_at_call 16; (with_reducible refine (HU6.out _ hbt).mono ?_); rintro e wa ⟨rfl, hba⟩; have hba1 := stepAny hbt hba)
          | (go_at_call 17; (with_reducible refine (HK6.out _ hba1).mono ?_); rintro e wb ⟨rfl, hbb⟩))
        go_ret
        exact ⟨by simp, stepAny (stepAny HBT.out hba) hbb⟩
  · have f2 : (n1 == 2) = false := by rw [beq_eq_false_iff_ne]; exact hk2
    rw [if_neg hk2] at hcd'
    obtain ⟨T, hT⟩ : ∃ T, T = [(43 : UInt8)] := ⟨_, rfl⟩
    rw [← hT] at hcd'
    have HPS : Hid ((⟨#[43]⟩ : ByteArray) = ⟨T.toArray⟩) := by rw [hT]; rfl
    clear hT hk2 hk
    go_enter Try.func10, Try.ntmps10
    go_upto_region 8 with (first
      | (go_at_call 11; (with_reducible refine (HAW.out _).mono ?_); rintro e w1 ⟨rfl, hb1⟩)
      | (go_at_call 12; (with_reducible refine (HFE.out _ hb1).mono ?_); rintro e w' ⟨rfl, rfl⟩)
      | (go_at_call 13; (with_reducible refine (HDK2.out _ hb1).mono ?_); rintro e w2 ⟨vd, rfl, hsd, hb2⟩)
      | (go_at_call 16; (with_reducible refine (HUS.out _ _ hsd).mono ?_); rintro e w3 ⟨rfl, hb3⟩)
      | (go_at_call 34; (with_reducible refine (HAL.out _ _ (hsd.below hb3 (Nat.le_refl _))).mono ?_); rintro e w4 ⟨v4, rfl, hs4, hb4⟩))
    go_upto_region 14 with fail
    rw [HPS.out]
    have hl5 := stepAny (stepAny (stepAny hb1 hb2) hb3) hb4
    have hs5 := hs4
    have hsd5 := hsd.below (stepAny hb3 hb4) (Nat.le_refl _)
    generalize w4 = w5 at *
    have HL5 := Lib.hid hl5
    have HSD5 := Lib.hid hsd5
    have HS5 := Lib.hid hs5
    clear hl5 hs5 hsd5 hsd hs4 hb1 hb2 hb3 hb4 HAW HFE HDK2 HUS HAL
    have HA : Hid (∀ W (i : Int), Below w5.heap.size w5 W → Calls Try.prog 15 #[vd, .int .i64 i] W fun e w' => e = .returned (.string ⟨(Nd.cont d i).toArray⟩) ∧ Below W.heap.size W w') := fun W i hW => HCA.out W vd i (HSD5.out.below hW (Nat.le_refl _))
    have HB : Hid (∀ W (i : Int), Below w5.heap.size w5 W → Calls Try.prog 15 #[v4, .int .i64 i] W fun e w' => e = .returned (.string ⟨(Nd.cont d' i).toArray⟩) ∧ Below W.heap.size W w') := fun W i hW => HCB.out W v4 i (HS5.out.below hW (Nat.le_refl _))
    have HA1 : Hid (∀ W, Below w5.heap.size w5 W → Calls Try.prog 15 #[vd, .int .i64 (m : Int)] W fun e w' => e = .returned (.string ⟨#[45]⟩) ∧ Below W.heap.size W w') := fun W hW => by
      have h := HA.out W (m : Int) hW
      rw [hcd] at h
      exact h
    have HB1 : Hid (∀ W, Below w5.heap.size w5 W → Calls Try.prog 15 #[v4, .int .i64 (m : Int)] W fun e w' => e = .returned (.string ⟨T.toArray⟩) ∧ Below W.heap.size W w') := fun W hW => by
      have h := HB.out W (m : Int) hW
      rw [hcd'] at h
      exact h
    have HK1 : Hid (∀ W, Below w5.heap.size w5 W → Calls Try.prog 17 #[v4] W fun e w' => e = .returned (.int .i64 0) ∧ Below W.heap.size W w') := fun W hW => HCK.out W v4 (HS5.out.below hW (Nat.le_refl _))
    have HF1 : Hid (∀ W, Below w5.heap.size w5 W → Calls Try.prog 36 #[v4, .int .i64 (m : Int)] W fun e w' => ∃ v', e = .returned (.tuple #[v', .int .i64 0]) ∧ Sl eb w' v' b ∧ Below W.heap.size W w') := fun W hW => HFR.out W v4 (HS5.out.below hW (Nat.le_refl _))
    have HCD := Lib.hid hcd
    clear HCA HCB HCK HFR hcd hcd'
    have hr5 := Below.refl w5.heap.size w5
    go_upto_region 16 with (first
      | (go_at_call 15; (with_reducible refine (HB1.out _ hr5).mono ?_); rintro e wa ⟨rfl, hba⟩; have hba1 := stepAny hr5 hba)
      | (go_at_call 15; (with_reducible refine (HA1.out _ hba1).mono ?_); rintro e wb ⟨rfl, hbb⟩; have hbb1 := stepAny hba1 hbb)
      | (go_at_call 17; (with_reducible refine (HK1.out _ hbb1).mono ?_); rintro e wc ⟨rfl, hbc⟩; have hbc1 := stepAny hbb1 hbc))
    clear hba hba1 hbb hbb1 hbc
    go_upto_region 17 with (go_at_call 36; (with_reducible refine (HF1.out _ hbc1).mono ?_); rintro e w6 ⟨v6, rfl, hs6, hb6⟩)
    have hl6 := stepAny hbc1 hb6
    have HL6 := Lib.hid hl6
    have HC : Hid (∀ W (i : Nat), i < 32 → Below w6.heap.size w6 W → Calls Try.prog 15 #[v6, .int .i64 (i : Int)] W fun e w' => e = .returned (.string ⟨(Nd.cont d (i : Int)).toArray⟩) ∧ Below W.heap.size W w') := fun W i hi hW => by
      have h := HCC.out W v6 (i : Int) (hs6.below hW (Nat.le_refl _))
      rw [HCBD.out i hi] at h
      exact h
    have HD : Hid (∀ W (i : Nat), i < 32 → i ≠ m → Below w6.heap.size w6 W → Calls Try.prog 15 #[v4, .int .i64 (i : Int)] W fun e w' => e = .returned (.string ⟨(Nd.cont d (i : Int)).toArray⟩) ∧ Below W.heap.size W w') := fun W i hi hne hW => by
      have h := HB.out W (i : Int) (stepAny hl6 hW)
      rw [HOTH.out i hi hne] at h
      exact h
    have HE : Hid (∀ W (i : Int), Below w6.heap.size w6 W → Calls Try.prog 15 #[vd, .int .i64 i] W fun e w' => e = .returned (.string ⟨(Nd.cont d i).toArray⟩) ∧ Below W.heap.size W w') := fun W i hW => HA.out W i (stepAny hl6 hW)
    have HU6 : Hid (∀ W, Below w6.heap.size w6 W → Calls Try.prog 16 #[v6] W fun e w' => e = .returned (.tuple #[.int .i64 (ka : Int), .int .i64 (ub : Int), .int .i64 0]) ∧ Below W.heap.size W w') := fun W hW => HUB.out W v6 (hs6.below hW (Nat.le_refl _))
    have HK6 : Hid (∀ W, Below w6.heap.size w6 W → Calls Try.prog 17 #[v6] W fun e w' => e = .returned (.int .i64 0) ∧ Below W.heap.size W w') := fun W hW => HCKB.out W v6 (hs6.below hW (Nat.le_refl _))
    clear hs6 hl6 hb6 hbc1 HB1 HA1 HK1 HF1 HCC HUB HCKB hr5
    go_wp2_with fail
    go_loopw [16] (fun i wt => ∃ j : Nat, i = .int .i64 j ∧ j ≤ 32 ∧ Below w6.heap.size w6 wt) (fun i _ => 32 - (intOf i).toNat)
    case atStart => exact ⟨0, rfl, by omega, Below.refl _ _⟩
    case round =>
      rename World => wt
      obtain ⟨j, rfl, hj, hbt⟩ := hrel
      by_cases hlt : j < 32
      · have g5 : (j : Int) < 32 := by omega
        have HBT := Lib.hid hbt
        have H1 : Hid (∀ W, Below w6.heap.size w6 W → Calls Try.prog 15 #[vd, .int .i64 (j : Int)] W fun e w' => e = .returned (.string ⟨(Nd.cont d (j : Int)).toArray⟩) ∧ Below W.heap.size W w') := fun W hW => HE.out W (j : Int) hW
        have H2 : Hid (∀ W, Below w6.heap.size w6 W → Calls Try.prog 15 #[v6, .int .i64 (j : Int)] W fun e w' => e = .returned (.string ⟨(Nd.cont d (j : Int)).toArray⟩) ∧ Below W.heap.size W w') := fun W hW => HC.out W j hlt hW
        have H3 : Hid (j ≠ m → ∀ W, Below w6.heap.size w6 W → Calls Try.prog 15 #[v4, .int .i64 (j : Int)] W fun e w' => e = .returned (.string ⟨(Nd.cont d (j : Int)).toArray⟩) ∧ Below W.heap.size W w') := fun hne W hW => HD.out W j hlt hne hW
        have hlo := fun h : j < m => HLOW.out j h
        generalize Nd.cont d (j : Int) = Y at *
        by_cases hjm : j < m
        · have g6 : (j : Int) < (m : Int) := by omega
          have g7 : ((j : Int) != (m : Int)) = true := by rw [bne_iff_ne]; omega
          obtain ⟨C, hC⟩ := hlo hjm
          have g8 : (Y == [45]) = false := by rw [hC]; exact dash_ne C
          have H3' := Lib.hid (H3.out (by omega))
          clear hlo hjm hC H3 hbt
          have hbt := HBT.out
          go_wp2_with (first
            | (go_at_call 15; (with_reducible refine (H1.out _ (by with_reducible assumption)).mono ?_); rintro e wa ⟨rfl, hba⟩; have hba1 : Below w6.heap.size w6 wa := stepAny (by with_reducible assumption) hba)
            | (go_at_call 15; (with_reducible refine (H2.out _ (by with_reducible assumption)).mono ?_); rintro e wa ⟨rfl, hba⟩; have hba1 : Below w6.heap.size w6 wa := stepAny (by with_reducible assumption) hba)
            | (go_at_call 15; (with_reducible refine (H3'.out _ (by with_reducible assumption)).mono ?_); rintro e wa ⟨rfl, hba⟩; have hba1 : Below w6.heap.size w6 wa := stepAny (by with_reducible assumption) hba))
          go_roundw
          case rel => exact ⟨j + 1, by go_num, by omega, by with_reducible assumption⟩
          case measure => simp [intOf]; omega
        · have g6 : ¬ (j : Int) < (m : Int) := by omega
          clear hlo
          by_cases hje : j = m
          · have g7 : ((j : Int) != (m : Int)) = false := by rw [hje]; simp
            clear hjm hje H3
            go_wp2_with (first
              | (go_at_call 15; (with_reducible refine (H1.out _ (by with_reducible assumption)).mono ?_); rintro e wa ⟨rfl, hba⟩; have hba1 : Below w6.heap.size w6 wa := stepAny (by with_reducible assumption) hba)
              | (go_at_call 15; (with_reducible refine (H2.out _ (by with_reducible assumption)).mono ?_); rintro e wa ⟨rfl, hba⟩; have hba1 : Below w6.heap.size w6 wa := stepAny (by with_reducible assumption) hba))
            go_roundw
            case rel => exact ⟨j + 1, by go_num, by omega, by with_reducible assumption⟩
            case measure => simp [intOf]; omega
          · have g7 : ((j : Int) != (m : Int)) = true := by rw [bne_iff_ne]; omega
            have H3' := Lib.hid (H3.out hje)
            clear hjm hje H3
            go_wp2_with (first
              | (go_at_call 15; (with_reducible refine (H1.out _ (by with_reducible assumption)).mono ?_); rintro e wa ⟨rfl, hba⟩; have hba1 : Below w6.heap.size w6 wa := stepAny (by with_reducible assumption) hba)
              | (go_at_call 15; (with_reducible refine (H2.out _ (by with_reducible assumption)).mono ?_); rintro e wa ⟨rfl, hba⟩; have hba1 : Below w6.heap.size w6 wa := stepAny (by with_reducible assumption) hba)
              | (go_at_call 15; (with_reducible refine (H3'.out _ (by with_reducible assumption)).mono ?_); rintro e wa ⟨rfl, hba⟩; have hba1 : Below w6.heap.size w6 wa := stepAny (by with_reducible assumption) hba))
            go_roundw
            case rel => exact ⟨j + 1, by go_num, by omega, by with_reducible assumption⟩
            case measure => simp [intOf]; omega
      · have g5 : ¬ (j : Int) < 32 := by omega
        have HBT := Lib.hid (stepAny HL5.out (stepAny HL6.out hbt))
        go_wp2_with (first
          | (go_at_call 16; (with_reducible refine (HU6.out _ hbt).mono ?_); rintro e wa ⟨rfl, hba⟩; have hba1 := stepAny hbt hba)
          | (go_at_call 17; (with_reducible refine (HK6.out _ hba1).mono ?_); rintro e wb ⟨rfl, hbb⟩))
        go_ret
        exact ⟨by simp, stepAny (stepAny HBT.out hba) hbb⟩
end Go.Proofs.Ytbklmpekpcneeaa
namespace Go.Proofs.Ytbklmpekpcneeaa.inodesAlloc
open Go.ChangeShapes Go.WideShapes Go.ChangeAt Go.RowKit
set_option linter.unusedVariables false

theorem own : ownKnob Try.prog.godebug = none := by kernel_rfl
theorem laidOut : laidOutB Try.prog = true := by kernel_rfl

set_option maxRecDepth 100000 in
theorem lifted (os : Os) (started : os.Started) (H : Type) (enc : TypeId × Value → H) :
    ReturnsInHanded {} Try.checked os 10 .any (Rows.inodesAllocSpec.pre6 enc Try.prog Try.f10 Rows.inodesAllocRow.domain false) (Rows.inodesAllocSpec.post enc Try.prog Try.f10 false true false false) := by
  refine returnsInHanded_of_change (C := Try.checked) own started (by kernel_rfl) Try.func10
    (ChangeSpec.witness6 (enc := enc) (C := Try.checked) false ⟨#[], #[.slice none 0 0, .int .i64 0], []⟩ 3 (by kernel_rfl) (by kernel_rfl) (by kernel_rfl) (by kernel_rfl)) ?_
  intro W base args ds gs before hval0 hW hcnd _
  have hval : ∀ (j : Nat) t v, Try.f10.params[j]? = some t → args[j]? = some v → Value.okWide Try.prog W .any base t v := hval0
  have hW' := hW
  obtain ⟨p, q, hA0, hV, rfl, hfz, hnd⟩ := hW
  have hA : DataW.TrodAll enc Try.prog W 0 (fun _ => true) true Try.f10.params.toList args.toList ds p := hA0
  rw [Try.params10] at hA hval
  obtain ⟨v0, vs0, d0, ds0, p0, q0, hargs, rfl, rfl, h0, r0⟩ := trodAll_cons hA
  obtain ⟨v1, vs1, d1, ds1, p1, q1, rfl, rfl, rfl, h1, r1⟩ := trodAll_cons r0
  obtain ⟨rfl, rfl, rfl⟩ := trodAll_nil r1
  obtain rfl : args = #[v0, v1] := by cases args; simp_all
  obtain ⟨rfl, rfl⟩ := trodVars_none hV
  have k0 := h0
  have lt0 : ∀ x ∈ p0, x.block < W.heap.size := by obtain ⟨m, hm⟩ := k0; exact DataW.trod_lt m _ _ _ hm
  have o0 := open_ops (hval 0 22 v0 rfl rfl) (Arg.of h0)
  have k1 := h1
  have lt1 : ∀ x ∈ p1, x.block < W.heap.size := by obtain ⟨m, hm⟩ := k1; exact DataW.trod_lt m _ _ _ hm
  have o1 := open_i64 (hval 1 3 v1 rfl rfl) (Arg.of h1)
  clear hA0 hval0
  refine (lalloc_w o0 o1).mono fun e W' ⟨he, bel⟩ => ?_
  subst he
  exact ⟨_, rfl, _, _, _, [], _, [], hW', trodAll_mk1 (shut_bool Try.underlying4 _), (trodAll_cons_mk (Below.trod laidOut (by kernel_rfl) (of_decide_eq_true (by kernel_rfl)) k0 bel lt0) (trodAll_cons_mk (Below.trod laidOut (by kernel_rfl) (of_decide_eq_true (by kernel_rfl)) k1 bel lt1) trodAll_mk0)), rfl, bel.frame _, fun h => by cases h⟩

theorem over : Rows.inodesAllocRow.holds Try.pinned (OpenSpec.ofChange Rows.inodesAllocSpec) :=
  OpenClaim.holds_of_wide 10 Try.f10 rfl rfl rfl rfl rfl rfl rfl ⟨rfl, rfl, rfl, rfl, rfl⟩ rfl rfl rfl rfl rfl (by kernel_rfl) Try.func10 (by kernel_rfl)
    (of_decide_eq_true (by kernel_rfl)) (by unfold Func.isWrapper; first | (rw [if_pos (by decide +kernel)]; kernel_rfl) | (rw [if_neg (by decide +kernel)]; exact ⟨rfl, rfl⟩))
    (fun os started H enc _ => lifted os started H enc)

/-- The statement. -/
theorem proved : Rows.InodesAllocSaid := over
#print axioms proved
end Go.Proofs.Ytbklmpekpcneeaa.inodesAlloc
