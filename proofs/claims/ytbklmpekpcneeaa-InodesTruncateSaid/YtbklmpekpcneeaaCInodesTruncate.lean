/-
  The law InodesTruncate is proved: it answers true for every input (its walk, and the row).
-/
import Derived.Test.YtbklmpekpcneeaaBi
import Derived.Test.YtbklmpekpcneeaaRows
import Derived.WalkKit
import Derived.ProofKit
import Derived.OpenShut
import Derived.ShutString
import Derived.ChangeOld
import Derived.Below
set_option linter.unusedVariables false
set_option linter.unusedSimpArgs false
namespace Go.Proofs.Ytbklmpekpcneeaa
open Go.RowKit
set_option maxRecDepth 100000

theorem str_take (xs : List UInt8) (k : Nat) : (⟨xs.toArray⟩ : ByteArray).extract 0 k = ⟨(xs.take k).toArray⟩ := by
  apply ByteArray.ext
  simp
theorem str_snoc (xs : List UInt8) (c : UInt8) : (⟨xs.toArray⟩ : ByteArray) ++ ⟨#[c]⟩ = ⟨(xs ++ [c]).toArray⟩ := by
  apply ByteArray.ext
  simp [ByteArray.data_append]
def strLen : Value → Nat
  | .string b => b.size
  | _ => 0
theorem strLen_list (xs : List UInt8) : strLen (.string ⟨xs.toArray⟩) = xs.length := by simp [strLen, ByteArray.size]

set_option maxHeartbeats 16000000 in
theorem ltrunc_w {v0 v1 v2 : Value} {w : World} (o0 : IsOps w v0) (o1 : IsI64 w v1) (o2 : IsI64 w v2) : Calls Try.prog 3 #[v0, v1, v2] w fun e w' => e = .returned (.bool true) ∧ Below w.heap.size w w' := by
  obtain ⟨l0, hv0⟩ := o0
  obtain ⟨n1, rfl, -, -⟩ := o1
  obtain ⟨n2, rfl, -, -⟩ := o2
  obtain ⟨a0, c0, rfl, -⟩ := hv0.open
  have HV0 := Lib.hid hv0
  have HAW := Lib.hid awake_w
  have HFE : Hid (∀ W, Below w.heap.size w W → Calls Try.prog 12 #[.slice a0 l0.length c0] W fun e w' => e = .returned (.bool (Nd.few l0)) ∧ W = w') := fun W hW => rfew_w (hv0.below hW (Nat.le_refl _))
  have HDK : Hid (Nd.few l0 = true → ∀ W, Below w.heap.size w W → Calls Try.prog 13 #[.slice a0 l0.length c0] W fun e w' => ∃ v', e = .returned v' ∧ Sl eb w' v' (Nd.disk l0) ∧ Below W.heap.size W w') := fun hf W hW => rdisk_w (hv0.below hW (Nat.le_refl _)) hf
  have HOK := Lib.hid (Nd.disk_ok l0)
  clear hv0
  generalize Nd.disk l0 = d at *
  cases hf : Nd.few l0 with
  | false =>
    rw [hf] at HFE
    clear hf
    go_enter Try.func3, Try.ntmps3
    go_wp2_with (first
      | (go_at_call 11; (with_reducible refine (HAW.out _).mono ?_); rintro e w1 ⟨rfl, hb1⟩)
      | (go_at_call 12; (with_reducible refine (HFE.out _ hb1).mono ?_); rintro e w' ⟨rfl, rfl⟩))
    go_ret
    exact ⟨rfl, hb1⟩
  | true =>
  have HDK2 := Lib.hid (HDK.out hf)
  rw [hf] at HFE
  clear hf HDK
  have HTW : Hid (∀ W v, Sl eb W v d → Calls Try.prog 14 #[v, .int .i64 n1, .int .i64 n2] W fun e w' => ∃ v', e = .returned (.tuple #[v', .int .i64 (Nd.truncate d n1 n2).2]) ∧ Sl eb w' v' (Nd.truncate d n1 n2).1 ∧ Below W.heap.size W w') := fun W v hv => vtrunc_w hv (by rw [HOK.out.1]; decide) n1 n2
  have hte := fun h => Nd.trunc_err (d := d) (n := n1) (z := n2) h
  have htl := fun d' h => Nd.trunc_law (d := d) (d' := d') (n := n1) (z := n2) HOK.out h
  obtain ⟨d', ec, hx⟩ : ∃ d' ec, Nd.truncate d n1 n2 = (d', ec) := ⟨_, _, rfl⟩
  rw [hx] at HTW hte htl
  simp only at hte
  clear hx
  by_cases he : ec = 0
  rotate_left
  · have hd0 := hte he
    have f1 : (ec != 0) = true := by rw [bne_iff_ne]; exact he
    rw [hd0] at HTW
    clear hte htl he hd0
    go_enter Try.func3, Try.ntmps3
    go_upto_region 7 with (first
      | (go_at_call 11; (with_reducible refine (HAW.out _).mono ?_); rintro e w1 ⟨rfl, hb1⟩)
      | (go_at_call 12; (with_reducible refine (HFE.out _ hb1).mono ?_); rintro e w' ⟨rfl, rfl⟩)
      | (go_at_call 13; (with_reducible refine (HDK2.out _ hb1).mono ?_); rintro e w2 ⟨vd, rfl, hsd, hb2⟩)
      | (go_at_call 14; (with_reducible refine (HTW.out _ _ hsd).mono ?_); rintro e w3 ⟨v3, rfl, hs3, hb3⟩; obtain ⟨a3, c3, rfl, -⟩ := hs3))
    go_wp2_with fail
    go_ret
    exact ⟨by simp, stepAny (stepAny hb1 hb2) hb3⟩
  obtain ⟨hok, m, s, C, rfl, rfl, hs1536, hm32, hc1536, hcd, hcd', hoth, hcnt, hused⟩ := htl d' (by rw [he])
  subst he
  have HCW : Hid (∀ W v (i : Int), Sl eb W v d → Calls Try.prog 15 #[v, .int .i64 i] W fun e w' => e = .returned (.string ⟨(Nd.cont d i).toArray⟩) ∧ Below W.heap.size W w') := fun W v i hv => lcontent_w hv (by rw [HOK.out.1]; decide) i
  have HCW' : Hid (∀ W v (i : Int), Sl eb W v d' → Calls Try.prog 15 #[v, .int .i64 i] W fun e w' => e = .returned (.string ⟨(Nd.cont d' i).toArray⟩) ∧ Below W.heap.size W w') := fun W v i hv => lcontent_w hv (by rw [hok.1]; decide) i
  clear hte htl
  go_enter Try.func3, Try.ntmps3
  go_upto_region 7 with (first
    | (go_at_call 11; (with_reducible refine (HAW.out _).mono ?_); rintro e w1 ⟨rfl, hb1⟩)
    | (go_at_call 12; (with_reducible refine (HFE.out _ hb1).mono ?_); rintro e w' ⟨rfl, rfl⟩)
    | (go_at_call 13; (with_reducible refine (HDK2.out _ hb1).mono ?_); rintro e w2 ⟨vd, rfl, hsd, hb2⟩)
    | (go_at_call 14; (with_reducible refine (HTW.out _ _ hsd).mono ?_); rintro e w3 ⟨v3, rfl, hs3, hb3⟩))
  have hl3 := stepAny (stepAny hb1 hb2) hb3
  have HL3 := Lib.hid hl3
  have HSD := Lib.hid (hsd.below hb3 (Nat.le_refl _))
  have HS3 := Lib.hid hs3
  have HCN : Hid (∀ W v, Sl eb W v d → Calls Try.prog 15 #[v, .int .i64 (m : Int)] W fun e w' => e = .returned (.string ⟨(43 :: C).toArray⟩) ∧ Below W.heap.size W w') := fun W v hv => by
    have h := HCW.out W v (m : Int) hv
    rw [hcd] at h
    exact h
  clear hl3 hsd hs3 hb1 hb2 hb3 HTW HAW HFE HDK2
  obtain ⟨S, hS⟩ : ∃ S, S = 43 :: C := ⟨_, rfl⟩
  have hSl : S.length = C.length + 1 := by rw [hS]; rfl
  rw [← hS] at HCN
  have HSC := Lib.hid hS
  clear hS
  go_upto_region 10 with (go_at_call 15; (with_reducible refine (HCN.out _ _ HSD.out).mono ?_); rintro e w4 ⟨rfl, hb4⟩)
  have hl4 := stepAny HL3.out hb4
  have HL4 := Lib.hid hl4
  have HSD4 := Lib.hid (HSD.out.below hb4 (Nat.le_refl _))
  have HS34 := Lib.hid (HS3.out.below hb4 (Nat.le_refl _))
  clear hl4 hb4 HL3 HSD HS3 HCN
  have e1 : IntKind.i64.wrap (1 + (s : Int)) = 1 + (s : Int) := IntWalk.i64_in _ (by omega)
  go_upto_if 44 with fail
  go_cut [10] (fun s10 W' => s10 = .string ⟨(S.take (1 + s)).toArray⟩ ∧ W' = w4)
  case first =>
    by_cases hc : s < C.length
    · have f1 : 1 + (s : Int) < (C.length : Int) + 1 := by omega
      have HT := Lib.hid (str_take S (1 + s))
      clear hc
      go_wp2_with fail
      go_meet
      exact ⟨by rw [← HT.out], rfl⟩
    · have f1 : ¬ 1 + (s : Int) < (C.length : Int) + 1 := by omega
      have HT : Hid (S.take (1 + s) = S) := List.take_of_length_le (by omega)
      clear hc
      go_wp2_with fail
      go_meet
      exact ⟨by rw [HT.out], rfl⟩
  case rest =>
    obtain ⟨rfl, hwc⟩ := hcut
    rw [hwc]
    clear hwc
    obtain ⟨S2, hS2⟩ : ∃ S2, S2 = S.take (1 + s) := ⟨_, rfl⟩
    have HS2L : Hid (S2.length ≤ 1 + s) := by show _ ≤ _; rw [hS2]; exact List.length_take_le _ _
    have HFIT : Hid (∀ k, S2.length + k = 1 + s → S2 ++ List.replicate k 0 = 43 :: Nd.fit C s) := fun k hk => by
      rw [hS2, HSC.out] at hk ⊢
      rw [show 1 + s = s + 1 by omega, List.take_succ_cons] at hk ⊢
      rw [List.length_cons, List.length_take] at hk
      unfold Nd.fit
      rw [List.cons_append]
      congr 2
      by_cases h : s ≤ C.length
      · rw [show k = 0 by omega, show s - C.length = 0 by omega]
      · rw [show k = s - C.length by omega]
    rw [← hS2]
    clear hS2 hSl HSC
    go_wp2_with fail
    go_loopw [10] (fun u wr => ∃ (X : List UInt8) (k : Nat), u = .string ⟨X.toArray⟩ ∧ Hid (X = S2 ++ List.replicate k 0) ∧ X.length ≤ 1 + s ∧ wr = w4) (fun u _ => 2000 - strLen u)
    case atStart => exact ⟨S2, 0, rfl, by show _ = _; simp, HS2L.out, rfl⟩
    case round =>
      obtain ⟨X, k, rfl, HX, hXl, rfl⟩ := hrel
      by_cases hlt : X.length < 1 + s
      · have f1 : (X.length : Int) < 1 + (s : Int) := by omega
        have f2 : ¬ 9223372036854775807 < X.length + 1 := by omega
        have HSN := Lib.hid (str_snoc X 0)
        have HXN : Hid (X ++ [0] = S2 ++ List.replicate (k + 1) 0) := by
          show _ = _
          rw [HX.out, List.append_assoc, List.replicate_succ']
        have HML : Hid (2000 - strLen (.string ⟨(X ++ [0]).toArray⟩) < 2000 - strLen (.string ⟨X.toArray⟩)) := by
          show _ < _
          rw [strLen_list, strLen_list, List.length_append, List.length_singleton]; omega
        go_wp2_with fail
        go_roundw
        case rel => exact ⟨X ++ [0], k + 1, by rw [HSN.out], HXN.out, by rw [List.length_append, List.length_singleton]; omega, by first | rfl | trivial⟩
        case measure => rw [HSN.out]; exact HML.out
      · have f1 : ¬ (X.length : Int) < 1 + (s : Int) := by omega
        have hXf : X = 43 :: Nd.fit C s := by
          have hxl : S2.length + k = 1 + s := by
            have h := congrArg List.length HX.out
            rw [List.length_append, List.length_replicate] at h
            omega
          rw [HX.out]
          exact HFIT.out k hxl
        have HWANT : Hid (Nd.cont d' (m : Int) = X) := by rw [hXf]; exact hcd'
        clear hXf HX hXl hlt HFIT HS2L hcd' hcd
        go_upto_region 15 with fail
        clear f1
        have hls := HL4.out.size
        go_wp2_with fail
        go_loopw [11] (fun i wt => ∃ j : Nat, i = .int .i64 j ∧ j ≤ 32 ∧ Below wr.heap.size wr wt) (fun i _ => 32 - (intOf i).toNat)
        case atStart => exact ⟨0, rfl, by omega, Below.refl _ _⟩
        case round =>
          rename World => wt
          obtain ⟨j, rfl, hj, hbt⟩ := hrel
          by_cases hlt : j < 32
          · have f5 : (j : Int) < 32 := by omega
            have f6 : (0 : Int) ≤ (j : Int) := by omega
            by_cases hjm : j = m
            · have f7 : ((j : Int) != (m : Int)) = false := by rw [hjm]; simp
              have HBT := Lib.hid hbt
              clear hjm hbt
              go_wp2_with fail
              go_roundw
              case rel => exact ⟨j + 1, by go_num, by omega, HBT.out⟩
              case measure => simp [intOf]; omega
            · have f7 : ((j : Int) != (m : Int)) = true := by rw [bne_iff_ne]; omega
              have hA := HCW.out wt vd (j : Int) (HSD4.out.below hbt (Nat.le_refl _))
              have hB : Hid (∀ W, Below wr.heap.size wr W → Calls Try.prog 15 #[v3, .int .i64 (j : Int)] W fun e w' => e = .returned (.string ⟨(Nd.cont d (j : Int)).toArray⟩) ∧ Below W.heap.size W w') := fun W hW => by
                have h := HCW'.out W v3 (j : Int) (HS34.out.below hW (Nat.le_refl _))
                rw [hoth j hlt hjm] at h
                exact h
              have HA := Lib.hid hA
              have HBT := Lib.hid hbt
              generalize Nd.cont d (j : Int) = Y at *
              clear hjm hA hbt
              go_wp2_with (first
                | (go_at_call 15; (with_reducible refine HA.out.mono ?_); rintro e w5 ⟨rfl, hb5⟩; have hb15 := stepAny HBT.out hb5)
                | (go_at_call 15; (with_reducible refine (hB.out _ hb15).mono ?_); rintro e w6 ⟨rfl, hb6⟩; have hb16 := stepAny hb15 hb6))
              go_roundw
              case rel => exact ⟨j + 1, by go_num, by omega, hb16⟩
              case measure => simp [intOf]; omega
          · have f5 : ¬ (j : Int) < 32 := by omega
            have HU1 : Hid (∀ W, Below wr.heap.size wr W → Calls Try.prog 16 #[vd] W fun e w' => e = .returned (.tuple #[.int .i64 (Nd.cntK d : Int), .int .i64 ((Nd.used (Nd.inos d)).length : Int), .int .i64 0]) ∧ Below W.heap.size W w') := fun W hW => by
              have h := vusage_w (HSD4.out.below hW (Nat.le_refl _)) (by rw [HOK.out.1]; decide)
              rw [Nd.usage_at HOK.out] at h
              exact h
            have HU2 : Hid (∀ W, Below wr.heap.size wr W → Calls Try.prog 16 #[v3] W fun e w' => e = .returned (.tuple #[.int .i64 (Nd.cntK d : Int), .int .i64 ((Nd.used (Nd.inos d')).length : Int), .int .i64 0]) ∧ Below W.heap.size W w') := fun W hW => by
              have h := vusage_w (HS34.out.below hW (Nat.le_refl _)) (by rw [hok.1]; decide)
              rw [Nd.usage_at hok, hcnt] at h
              exact h
            have HC2 : Hid (∀ W, Below wr.heap.size wr W → Calls Try.prog 15 #[v3, .int .i64 (m : Int)] W fun e w' => e = .returned (.string ⟨X.toArray⟩) ∧ Below W.heap.size W w') := fun W hW => by
              have h := HCW'.out W v3 (m : Int) (HS34.out.below hW (Nat.le_refl _))
              rw [HWANT.out] at h
              exact h
            have HCK : Hid (∀ W, Below wr.heap.size wr W → Calls Try.prog 17 #[v3] W fun e w' => e = .returned (.int .i64 0) ∧ Below W.heap.size W w') := fun W hW => by
              have h := vcheck_w (HS34.out.below hW (Nat.le_refl _)) (by rw [hok.1]; decide)
              rw [hok.check] at h
              exact h
            generalize Nd.cntK d = ka at *
            generalize (Nd.used (Nd.inos d)).length = ub at *
            generalize (Nd.used (Nd.inos d')).length = uq at *
            have f6 : (uq : Int) ≤ (ub : Int) := by omega
            go_wp2_with (first
              | (go_at_call 16; (with_reducible refine (HU1.out _ hbt).mono ?_); rintro e w5 ⟨rfl, hb5⟩; have hb15 := stepAny hbt hb5)
              | (go_at_call 16; (with_reducible refine (HU2.out _ hb15).mono ?_); rintro e w6 ⟨rfl, hb6⟩; have hb16 := stepAny hb15 hb6)
              | (go_at_call 15; (with_reducible refine (HC2.out _ hb16).mono ?_); rintro e w7 ⟨rfl, hb7⟩; have hb17 := stepAny hb16 hb7)
              | (go_at_call 17; (with_reducible refine (HCK.out _ hb17).mono ?_); rintro e w8 ⟨rfl, hb8⟩; have hb18 := stepAny hb17 hb8))
            go_ret
            exact ⟨by simp, stepAny HL4.out hb18⟩
end Go.Proofs.Ytbklmpekpcneeaa
namespace Go.Proofs.Ytbklmpekpcneeaa.inodesTruncate
open Go.ChangeShapes Go.WideShapes Go.ChangeAt Go.RowKit
set_option linter.unusedVariables false

theorem own : ownKnob Try.prog.godebug = none := by kernel_rfl
theorem laidOut : laidOutB Try.prog = true := by kernel_rfl

set_option maxRecDepth 100000 in
theorem lifted (os : Os) (started : os.Started) (H : Type) (enc : TypeId × Value → H) :
    ReturnsInHanded {} Try.checked os 3 .any (Rows.inodesTruncateSpec.pre6 enc Try.prog Try.f3 Rows.inodesTruncateRow.domain false) (Rows.inodesTruncateSpec.post enc Try.prog Try.f3 false true false false) := by
  refine returnsInHanded_of_change (C := Try.checked) own started (by kernel_rfl) Try.func3
    (ChangeSpec.witness6 (enc := enc) (C := Try.checked) false ⟨#[], #[.slice none 0 0, .int .i64 0, .int .i64 0], []⟩ 4 (by kernel_rfl) (by kernel_rfl) (by kernel_rfl) (by kernel_rfl)) ?_
  intro W base args ds gs before hval0 hW hcnd _
  have hval : ∀ (j : Nat) t v, Try.f3.params[j]? = some t → args[j]? = some v → Value.okWide Try.prog W .any base t v := hval0
  have hW' := hW
  obtain ⟨p, q, hA0, hV, rfl, hfz, hnd⟩ := hW
  have hA : DataW.TrodAll enc Try.prog W 0 (fun _ => true) true Try.f3.params.toList args.toList ds p := hA0
  rw [Try.params3] at hA hval
  obtain ⟨v0, vs0, d0, ds0, p0, q0, hargs, rfl, rfl, h0, r0⟩ := trodAll_cons hA
  obtain ⟨v1, vs1, d1, ds1, p1, q1, rfl, rfl, rfl, h1, r1⟩ := trodAll_cons r0
  obtain ⟨v2, vs2, d2, ds2, p2, q2, rfl, rfl, rfl, h2, r2⟩ := trodAll_cons r1
  obtain ⟨rfl, rfl, rfl⟩ := trodAll_nil r2
  obtain rfl : args = #[v0, v1, v2] := by cases args; simp_all
  obtain ⟨rfl, rfl⟩ := trodVars_none hV
  have k0 := h0
  have lt0 : ∀ x ∈ p0, x.block < W.heap.size := by obtain ⟨m, hm⟩ := k0; exact DataW.trod_lt m _ _ _ hm
  have o0 := open_ops (hval 0 22 v0 rfl rfl) (Arg.of h0)
  have k1 := h1
  have lt1 : ∀ x ∈ p1, x.block < W.heap.size := by obtain ⟨m, hm⟩ := k1; exact DataW.trod_lt m _ _ _ hm
  have o1 := open_i64 (hval 1 3 v1 rfl rfl) (Arg.of h1)
  have k2 := h2
  have lt2 : ∀ x ∈ p2, x.block < W.heap.size := by obtain ⟨m, hm⟩ := k2; exact DataW.trod_lt m _ _ _ hm
  have o2 := open_i64 (hval 2 3 v2 rfl rfl) (Arg.of h2)
  clear hA0 hval0
  refine (ltrunc_w o0 o1 o2).mono fun e W' ⟨he, bel⟩ => ?_
  subst he
  exact ⟨_, rfl, _, _, _, [], _, [], hW', trodAll_mk1 (shut_bool Try.underlying4 _), (trodAll_cons_mk (Below.trod laidOut (by kernel_rfl) (of_decide_eq_true (by kernel_rfl)) k0 bel lt0) (trodAll_cons_mk (Below.trod laidOut (by kernel_rfl) (of_decide_eq_true (by kernel_rfl)) k1 bel lt1) (trodAll_cons_mk (Below.trod laidOut (by kernel_rfl) (of_decide_eq_true (by kernel_rfl)) k2 bel lt2) trodAll_mk0))), rfl, bel.frame _, fun h => by cases h⟩

theorem over : Rows.inodesTruncateRow.holds Try.pinned (OpenSpec.ofChange Rows.inodesTruncateSpec) :=
  OpenClaim.holds_of_wide 3 Try.f3 rfl rfl rfl rfl rfl rfl rfl ⟨rfl, rfl, rfl, rfl, rfl⟩ rfl rfl rfl rfl rfl (by kernel_rfl) Try.func3 (by kernel_rfl)
    (of_decide_eq_true (by kernel_rfl)) (by unfold Func.isWrapper; first | (rw [if_pos (by decide +kernel)]; kernel_rfl) | (rw [if_neg (by decide +kernel)]; exact ⟨rfl, rfl⟩))
    (fun os started H enc _ => lifted os started H enc)

/-- The statement. -/
theorem proved : Rows.InodesTruncateSaid := over
#print axioms proved
end Go.Proofs.Ytbklmpekpcneeaa.inodesTruncate
