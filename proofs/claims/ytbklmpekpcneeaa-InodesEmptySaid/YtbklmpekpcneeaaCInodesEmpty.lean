/-
  The law InodesEmpty is proved: it answers true for every input (its walk, and the row).
-/
import Derived.Test.YtbklmpekpcneeaaBi
import Derived.Test.YtbklmpekpcneeaaRows
import Derived.WalkKit
import Derived.ProofKit
import Derived.OpenShut
import Derived.ShutString
import Derived.ChangeOld
import Derived.Below
set_option linter.unusedVariables false
set_option linter.unusedSimpArgs false
set_option maxRecDepth 100000
namespace Nd
/-- Of the inodes 1 .. k - 1 none is used. -/
def Emp (d : List UInt8) (k : Nat) : Prop := Ok d ∧ ∀ m, 1 ≤ m → m < k → (raw d m).kind = 0
theorem emp_start {d : List UInt8} (h : Ok d) : Emp d 1 := ⟨h, fun m h1 h2 => by omega⟩
theorem cont_cases {d : List UInt8} (h : Ok d) {m : Nat} (hm : m < 32) : ((raw d m).kind = 0 ∧ cont d (m : Int) = [45]) ∨ ((raw d m).kind ≠ 0 ∧ ∃ C, cont d (m : Int) = 43 :: C ∧ C.length ≤ 1536) := by
  by_cases hk : (raw d m).kind = 0
  · exact Or.inl ⟨hk, cont_none h hm hk⟩
  · obtain ⟨hs, hb⟩ := ok_bk96 h hm hk
    exact Or.inr ⟨hk, _, cont_some h hm hk, by rw [content_len h.1 hb hs]; exact hs⟩
theorem free_go {d : List UInt8} (h : Ok d) {m : Nat} (h1 : 1 ≤ m) (hm : m < 32) (hk : (raw d m).kind ≠ 0) : ∃ d', freeN d (m : Int) = (d', 0) := by
  unfold freeN
  rw [get_in h hm hk, if_neg (by simp), if_neg (by omega)]
  exact ⟨_, rfl⟩
theorem emp_step {d : List UInt8} {k : Nat} (h : Emp d k) (h1 : 1 ≤ k) (hk : k < 32) : (cont d (k : Int) = [45] ∧ Emp d (k + 1)) ∨ ∃ C d', C.length ≤ 1536 ∧ cont d (k : Int) = 43 :: C ∧ freeN d (k : Int) = (d', 0) ∧ Emp d' (k + 1) := by
  rcases cont_cases h.1 hk with ⟨h2, h3⟩ | ⟨h2, C, h3, h4⟩
  · refine Or.inl ⟨h3, h.1, fun m a b => ?_⟩
    by_cases e : m = k
    · rw [e]; exact h2
    · exact h.2 m a (by omega)
  · obtain ⟨d', hf⟩ := free_go h.1 h1 hk h2
    refine Or.inr ⟨C, d', h4, h3, hf, ?_⟩
    obtain ⟨-, -, m, e, hm, -, -, hstp⟩ := free_stp hf
    obtain rfl : k = m := by omega
    refine ⟨hstp.ok, fun j a b => ?_⟩
    by_cases e : j = k
    · rw [e, hstp.raw]; rfl
    · rw [hstp.other j (by omega) e]; exact h.2 j a (by omega)
theorem raw_free {d : List UInt8} (h : Ok d) {m : Nat} (hm : m < 32) (hk : (raw d m).kind = 0) : raw d m = free := by
  rcases (h.2.2.2.2.1 m hm).2 with h1 | h1
  · exact h1
  · rcases h1.1 with h2 | h2 <;> omega
theorem used_root {d : List UInt8} {x : Ino} (hg : good d x) (hk : x.kind = 2) (hl : x.bl.length = 12) : (used [x]).length = 1 := by
  obtain ⟨-, -, hs, h2⟩ := hg
  rcases h2 with h2 | ⟨h2, h3⟩
  · omega
  have hz : ∀ i, 1 ≤ i → i < 12 → bk x i = 0 := fun i h1 hi => by
    rcases hs i hi with h | h
    · exact h
    · have := h.2.2.1; omega
  unfold used
  simp only [List.flatMap_cons, List.flatMap_nil, List.append_nil]
  match hb : x.bl, hl with
  | a :: r, hl =>
    have ha : a ≠ 0 := by have := h3; unfold bk at this; rw [hb] at this; simpa using this
    have hr : r.filter (fun b => b ≠ 0) = [] := by
      rw [List.filter_eq_nil_iff]
      intro b hb2
      obtain ⟨j, hj, rfl⟩ := List.getElem_of_mem hb2
      have hl' : r.length = 11 := by simpa using hl
      have := hz (j + 1) (by omega) (by omega)
      unfold bk at this
      rw [hb, List.getD_eq_getElem?_getD, List.getElem?_cons_succ, List.getElem?_eq_getElem hj] at this
      simpa using this
    rw [List.filter_cons, hr]
    simp [ha]
theorem inos_root {d : List UInt8} (h : Emp d 32) : inos d = raw d 0 :: List.replicate 31 free := by
  apply List.ext_getElem?
  intro i
  by_cases hi : i < 32
  · rw [raw_get d hi]
    cases i with
    | zero => rfl
    | succ i => rw [List.getElem?_cons_succ, List.getElem?_replicate, if_pos (by omega), raw_free h.1 hi (h.2 (i + 1) (by omega) hi)]
  · rw [List.getElem?_eq_none (by rw [inos_len]; omega), List.getElem?_eq_none (by simp; omega)]
theorem emp_end {d : List UInt8} (h : Emp d 32) : usage d = (1, 1, 0) ∧ freeN d 0 = ([], 12) := by
  have hk2 : (raw d 0).kind = 2 := h.1.2.2.2.2.2.1
  have hg := h.1.2.good (n := 0) (by decide) (by omega)
  have hi := inos_root h
  have hk : cntK d = 1 := by
    unfold cntK
    rw [hi, List.filter_cons, if_pos (by simp [hk2])]
    rw [show (List.replicate 31 free).filter (fun x => decide (x.kind ≠ 0)) = [] by decide]
    rfl
  have hu : (used (inos d)).length = 1 := by
    rw [hi]
    have e : used (raw d 0 :: List.replicate 31 free) = used [raw d 0] ++ used (List.replicate 31 free) := by unfold used; simp
    rw [e, show used (List.replicate 31 free) = [] by decide, List.append_nil]
    exact used_root hg hk2 (raw_enc d 0).n
  refine ⟨by rw [usage_at h.1, hk, hu]; rfl, ?_⟩
  have hg0 := get_in h.1 (m := 0) (by decide) (by omega)
  unfold freeN
  rw [show ((0 : Nat) : Int) = 0 from rfl] at hg0
  rw [hg0, if_neg (by simp), if_pos rfl]
end Nd
namespace Go.Proofs.Ytbklmpekpcneeaa
open Go.RowKit
set_option maxRecDepth 100000

theorem str_dash (C : List UInt8) : ((43 :: C) == [45]) = false := by
  rw [beq_eq_false_iff_ne]
  intro h
  injection h with h _
  exact absurd h (by decide)

set_option maxHeartbeats 16000000 in
theorem lempty_w {v0 : Value} {w : World} (o0 : IsOps w v0) : Calls Try.prog 9 #[v0] w fun e w' => e = .returned (.bool true) ∧ Below w.heap.size w w' := by
  obtain ⟨l0, hv0⟩ := o0
  obtain ⟨a0, c0, rfl, -⟩ := hv0.open
  have HV0 := Lib.hid hv0
  have HAW := Lib.hid awake_w
  have HFE : Hid (∀ W, Below w.heap.size w W → Calls Try.prog 12 #[.slice a0 l0.length c0] W fun e w' => e = .returned (.bool (Nd.few l0)) ∧ W = w') := fun W hW => rfew_w (hv0.below hW (Nat.le_refl _))
  have HDK : Hid (Nd.few l0 = true → ∀ W, Below w.heap.size w W → Calls Try.prog 13 #[.slice a0 l0.length c0] W fun e w' => ∃ v', e = .returned v' ∧ Sl eb w' v' (Nd.disk l0) ∧ Below W.heap.size W w') := fun hf W hW => rdisk_w (hv0.below hW (Nat.le_refl _)) hf
  have HOK := Lib.hid (Nd.disk_ok l0)
  clear hv0
  generalize Nd.disk l0 = d at *
  cases hf : Nd.few l0 with
  | false =>
    rw [hf] at HFE
    clear hf
    go_enter Try.func9, Try.ntmps9
    go_wp2_with (first
      | (go_at_call 11; (with_reducible refine (HAW.out _).mono ?_); rintro e w1 ⟨rfl, hb1⟩)
      | (go_at_call 12; (with_reducible refine (HFE.out _ hb1).mono ?_); rintro e w' ⟨rfl, rfl⟩))
    go_ret
    exact ⟨rfl, hb1⟩
  | true =>
  have HDK2 := Lib.hid (HDK.out hf)
  rw [hf] at HFE
  clear hf HDK
  have HE0 := Lib.hid (Nd.emp_start HOK.out)
  go_enter Try.func9, Try.ntmps9
  go_upto_region 6 with (first
    | (go_at_call 11; (with_reducible refine (HAW.out _).mono ?_); rintro e w1 ⟨rfl, hb1⟩)
    | (go_at_call 12; (with_reducible refine (HFE.out _ hb1).mono ?_); rintro e w' ⟨rfl, rfl⟩)
    | (go_at_call 13; (with_reducible refine (HDK2.out _ hb1).mono ?_); rintro e w2 ⟨vd, rfl, hsd, hb2⟩))
  have hb12 := stepAny hb1 hb2
  have HB12 := Lib.hid hb12
  have HSD := Lib.hid hsd
  clear hb12 hb1 hb2 hsd HAW HFE HDK2 HOK
  go_wp2_with fail
  go_loopw [3, 4] (fun v i wr => ∃ (k : Nat) (D : List UInt8), i = .int .i64 k ∧ 1 ≤ k ∧ k ≤ 32 ∧ Hid (Nd.Emp D k) ∧ Hid (Sl eb wr v D) ∧ Below w2.heap.size w2 wr) (fun _ i _ => 32 - (intOf i).toNat)
  case atStart => exact ⟨1, d, rfl, by omega, by omega, HE0, HSD, Below.refl _ _⟩
  case round =>
    obtain ⟨k, D, rfl, hk1, hk, HE, HV, hbr⟩ := hrel
    have hDl : D.length ≤ 100000 := by rw [HE.out.1.1]; decide
    by_cases hlt : k < 32
    · have f5 : (k : Int) < 32 := by omega
      have f6 : (0 : Int) ≤ (k : Int) := by omega
      have HC := Lib.hid (lcontent_w HV.out hDl (k : Int))
      have HBR := Lib.hid hbr
      clear hbr
      rcases Nd.emp_step HE.out hk1 hlt with ⟨h1, h2⟩ | ⟨C, D', hC, h1, h2, h3⟩
      · rw [h1] at HC
        have HE2 := Lib.hid h2
        clear h1 h2
        go_wp2_with (go_at_call 15; (with_reducible refine HC.out.mono ?_); rintro e w3 ⟨rfl, hb3⟩)
        go_roundw
        case rel => exact ⟨k + 1, D, by go_num, by omega, by omega, HE2, HV.out.below hb3 (Nat.le_refl _), stepAny HBR.out hb3⟩
        case measure => simp [intOf]; omega
      · rw [h1] at HC
        have HE2 := Lib.hid h3
        have HF : Hid (∀ W, Below wr.heap.size wr W → Calls Try.prog 36 #[u3, .int .i64 (k : Int)] W fun e w' => ∃ v', e = .returned (.tuple #[v', .int .i64 0]) ∧ Sl eb w' v' D' ∧ Below W.heap.size W w') := fun W hW => by
          have h := vfree_w (HV.out.below hW (Nat.le_refl _)) hDl (k : Int)
          rw [h2] at h
          exact h
        obtain ⟨S, hS⟩ : ∃ S, S = 43 :: C := ⟨_, rfl⟩
        have hne := str_dash C
        rw [← hS] at HC hne
        clear h1 h2 h3 hS hC
        go_wp2_with (first
          | (go_at_call 15; (with_reducible refine HC.out.mono ?_); rintro e w3 ⟨rfl, hb3⟩)
          | (go_at_call 36; (with_reducible refine (HF.out _ hb3).mono ?_); rintro e w4 ⟨v4, rfl, hs4, hb4⟩))
        go_roundw
        case rel => exact ⟨k + 1, D', by go_num, by omega, by omega, HE2, Lib.hid hs4, stepAny (stepAny HBR.out hb3) hb4⟩
        case measure => simp [intOf]; omega
    · have f5 : ¬ (k : Int) < 32 := by omega
      obtain ⟨he1, he2⟩ := Nd.emp_end (show Nd.Emp D 32 from (show k = 32 by omega) ▸ HE.out)
      have HU : Hid (Calls Try.prog 16 #[u3] wr fun e w' => e = .returned (.tuple #[.int .i64 1, .int .i64 1, .int .i64 0]) ∧ Below wr.heap.size wr w') := by
        have h := vusage_w HV.out hDl
        rw [he1] at h
        exact h
      have HF : Hid (∀ W, Below wr.heap.size wr W → Calls Try.prog 36 #[u3, .int .i64 0] W fun e w' => ∃ v', e = .returned (.tuple #[v', .int .i64 12]) ∧ Sl eb w' v' [] ∧ Below W.heap.size W w') := fun W hW => by
        have h := vfree_w (HV.out.below hW (Nat.le_refl _)) hDl 0
        rw [he2] at h
        exact h
      have HBR := Lib.hid (stepAny HB12.out hbr)
      clear he1 he2 hbr hDl
      go_wp2_with (first
        | (go_at_call 16; (with_reducible refine HU.out.mono ?_); rintro e w5 ⟨rfl, hb5⟩)
        | (go_at_call 36; (with_reducible refine (HF.out _ hb5).mono ?_); rintro e w6 ⟨v6, rfl, hs6, hb6⟩))
      go_ret
      exact ⟨rfl, stepAny (stepAny HBR.out hb5) hb6⟩
end Go.Proofs.Ytbklmpekpcneeaa
namespace Go.Proofs.Ytbklmpekpcneeaa.inodesEmpty
open Go.ChangeShapes Go.WideShapes Go.ChangeAt Go.RowKit
set_option linter.unusedVariables false

theorem own : ownKnob Try.prog.godebug = none := by kernel_rfl
theorem laidOut : laidOutB Try.prog = true := by kernel_rfl

set_option maxRecDepth 100000 in
theorem lifted (os : Os) (started : os.Started) (H : Type) (enc : TypeId × Value → H) :
    ReturnsInHanded {} Try.checked os 9 .any (Rows.inodesEmptySpec.pre6 enc Try.prog Try.f9 Rows.inodesEmptyRow.domain false) (Rows.inodesEmptySpec.post enc Try.prog Try.f9 false true false false) := by
  refine returnsInHanded_of_change (C := Try.checked) own started (by kernel_rfl) Try.func9
    (ChangeSpec.witness6 (enc := enc) (C := Try.checked) false ⟨#[], #[.slice none 0 0], []⟩ 2 (by kernel_rfl) (by kernel_rfl) (by kernel_rfl) (by kernel_rfl)) ?_
  intro W base args ds gs before hval0 hW hcnd _
  have hval : ∀ (j : Nat) t v, Try.f9.params[j]? = some t → args[j]? = some v → Value.okWide Try.prog W .any base t v := hval0
  have hW' := hW
  obtain ⟨p, q, hA0, hV, rfl, hfz, hnd⟩ := hW
  have hA : DataW.TrodAll enc Try.prog W 0 (fun _ => true) true Try.f9.params.toList args.toList ds p := hA0
  rw [Try.params9] at hA hval
  obtain ⟨v0, vs0, d0, ds0, p0, q0, hargs, rfl, rfl, h0, r0⟩ := trodAll_cons hA
  obtain ⟨rfl, rfl, rfl⟩ := trodAll_nil r0
  obtain rfl : args = #[v0] := by cases args; simp_all
  obtain ⟨rfl, rfl⟩ := trodVars_none hV
  have k0 := h0
  have lt0 : ∀ x ∈ p0, x.block < W.heap.size := by obtain ⟨m, hm⟩ := k0; exact DataW.trod_lt m _ _ _ hm
  have o0 := open_ops (hval 0 22 v0 rfl rfl) (Arg.of h0)
  clear hA0 hval0
  refine (lempty_w o0).mono fun e W' ⟨he, bel⟩ => ?_
  subst he
  exact ⟨_, rfl, _, _, _, [], _, [], hW', trodAll_mk1 (shut_bool Try.underlying4 _), (trodAll_cons_mk (Below.trod laidOut (by kernel_rfl) (of_decide_eq_true (by kernel_rfl)) k0 bel lt0) trodAll_mk0), rfl, bel.frame _, fun h => by cases h⟩

theorem over : Rows.inodesEmptyRow.holds Try.pinned (OpenSpec.ofChange Rows.inodesEmptySpec) :=
  OpenClaim.holds_of_wide 9 Try.f9 rfl rfl rfl rfl rfl rfl rfl ⟨rfl, rfl, rfl, rfl, rfl⟩ rfl rfl rfl rfl rfl (by kernel_rfl) Try.func9 (by kernel_rfl)
    (of_decide_eq_true (by kernel_rfl)) (by unfold Func.isWrapper; first | (rw [if_pos (by decide +kernel)]; kernel_rfl) | (rw [if_neg (by decide +kernel)]; exact ⟨rfl, rfl⟩))
    (fun os started H enc _ => lifted os started H enc)

/-- The statement. -/
theorem proved : Rows.InodesEmptySaid := over
#print axioms proved
end Go.Proofs.Ytbklmpekpcneeaa.inodesEmpty
