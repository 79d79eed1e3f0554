/-
  The walks of Valid and Few of the reference.
-/
import Derived.Test.YtehniblcodkmaaaIc
namespace Go.Proofs.Ytehniblcodkmaaa
open Go.RowKit

set_option maxRecDepth 20000 in
set_option maxHeartbeats 1600000 in
theorem rvalid_w {m0 m1 m2 m3 m4 : Bool} {u : Value} {ls : List Iq.Ln} {w : World} (h : Lp w u ls) :
    Calls Try.prog 12 #[.agg #[.bool m0, .bool m1, .bool m2, .bool m3, .bool m4, u]] w fun e w' => e = .returned (.bool (Iq.valid ([m0, m1, m2, m3, m4], ls))) ∧ Below w.heap.size w w' := by
  obtain ⟨a, cap, rfl, hc, hcm, hna, hel⟩ := h.open
  have HE := Lib.hid hel
  have HL := Lib.hid h
  clear hel h
  unfold maxLen at hcm
  go_enter Try.func12, Try.ntmps12
  go_wp2
  go_loopw [3] (fun i wr => ∃ k : Nat, i = .int .i64 k ∧ k ≤ ls.length ∧ Hid (∀ j (hj : j < ls.length), j < k → Iq.proper ls[j] = true ∧ Iq.pend (ls.take j) ls[j] = false) ∧ Bk wr w.heap.size 25 (stC m0 m1 m2 m3 m4 (.slice a ls.length cap)) ∧ Below w.heap.size w wr) (fun i _ => ls.length - (intOf i).toNat)
  case atStart => exact ⟨0, rfl, Nat.zero_le _, fun j _ h => absurd h (Nat.not_lt_zero _), Bk.new w _ (stC m0 m1 m2 m3 m4 (.slice a ls.length cap)), low_alloc _ _⟩
  case round =>
    obtain ⟨k, rfl, hk, HN, hK, hbl⟩ := hrel
    have s0 := hK.cell 0
    have s5 := hK.cell 5
    simp only [stC, List.getElem?_cons_zero, List.getElem?_cons_succ] at s0 s5
    by_cases hlt : k < ls.length
    · obtain ⟨b, off, u2, rfl, hb, h4, hs⟩ := HE.out k hlt
      have f1 : (0 : Int) ≤ (k : Int) := by omega
      have f2 : (k : Int) < (ls.length : Int) := by omega
      have f3 : (k : Int) ≤ (cap : Int) := by omega
      have h4r := h4.below hbl hb
      have HB := Lib.hid (fun (hp : Iq.proper ls[k] = false ∨ Iq.pend (ls.take k) ls[k] = true) => Iq.valid_bad (m := [m0, m1, m2, m3, m4]) hlt hp)
      have HT := Lib.hid (HL.out.take k hk)
      have HG : Hid (∀ (h1 : Iq.proper ls[k] = true) (h2 : Iq.pend (ls.take k) ls[k] = false), ∀ j (hj : j < ls.length), j < k + 1 → Iq.proper ls[j] = true ∧ Iq.pend (ls.take j) ls[j] = false) := fun h1 h2 j hj hjk => by
        by_cases e : j = k
        · subst e; exact ⟨h1, h2⟩
        · exact HN.out j hj (by omega)
      generalize hy : ls[k] = y at *
      have HY := Lib.hid hy
      clear hy
      obtain ⟨d, t, n, ys⟩ := y
      have HS := Lib.hid hs
      obtain ⟨a2, cc2, rfl, -⟩ := hs
      have HQ : Hid (∀ W, Below wr.heap.size wr W → W.cell? ⟨b, off + k * 4, none⟩ = some (.int .i64 d) ∧ W.cell? ⟨b, off + k * 4 + 1, none⟩ = some (.int .i64 t) ∧ W.cell? ⟨b, off + k * 4 + 2, none⟩ = some (.int .i64 n) ∧ W.cell? ⟨b, off + k * 4 + 3, none⟩ = some (.slice a2 ys.length cc2) ∧ W.cell? ⟨w.heap.size, 5, none⟩ = some (.slice (some ⟨b, off, none⟩) ls.length cap)) := fun W hW =>
        have h1 := h4r.below hW (Nat.lt_of_lt_of_le hb hbl.size)
        have h2 := hK.below hW hK.lt
        ⟨h1.c0, h1.c1, h1.c2, h1.c3, h2.cell 5⟩
      have HP : Hid (∀ W, Below wr.heap.size wr W → Calls Try.prog 19 #[.agg #[.int .i64 d, .int .i64 t, .int .i64 n, .slice a2 ys.length cc2]] W fun e w' => e = .returned (.bool (Iq.proper (d, t, n, ys))) ∧ Below W.heap.size W w') := fun W hW =>
        rproper_w (l := (d, t, n, ys)) ⟨_, rfl, (HS.out.below hbl (Nat.le_refl _)).below hW (Nat.le_refl _)⟩
      have HR : Hid (∀ W, Below wr.heap.size wr W → Calls Try.prog 34 #[.slice (some ⟨b, off, none⟩) k cap, .agg #[.int .i64 d, .int .i64 t, .int .i64 n, .slice a2 ys.length cc2]] W fun e w' => e = .returned (.bool (Iq.pend (ls.take k) (d, t, n, ys))) ∧ Below W.heap.size W w') := fun W hW =>
        rpending_w (x := (d, t, n, ys)) ((HT.out.below hbl (Nat.le_refl _)).below hW (Nat.le_refl _)) ⟨_, rfl, (HS.out.below hbl (Nat.le_refl _)).below hW (Nat.le_refl _)⟩
      have hKW : Hid (∀ W, Below wr.heap.size wr W → Bk W w.heap.size 25 (stC m0 m1 m2 m3 m4 (.slice (some ⟨b, off, none⟩) ls.length cap)) ∧ Below w.heap.size w W) := fun W hW => ⟨hK.below hW hK.lt, stepAny hbl hW⟩
      have hl0 := low_drew wr
      obtain ⟨c0, c1, c2, c3⟩ := h4r
      obtain ⟨q0, q1, q2, q3, q4⟩ := HQ.out wr.drew hl0
      clear h4 hK s0 HT
      cases hp : Iq.proper (d, t, n, ys) with
      | false =>
        rw [hp] at HP
        have HBB := Lib.hid (HB.out (.inl hp))
        clear HR HG HB hp
        go_wp2_with fail
        refine wp_region_any (by kernel_rfl) ?_
        change wpAny _ _ _ _ _ _ _ (World.drew _)
        refine wpAny_take (i := 0) (oi := ⟨some 11, _, _, _, _, _⟩) (v := ?_) rfl (by kernel_rfl) (by kernel_rfl) (by kernel_rfl) (fun _ _ _ h => h) (Or.inl ⟨by rfl, ?hy0⟩) ?re0
        case hy0 => ((intro w; go_simp); first | done | with_reducible rfl)
        (try simp only [Act.put, List.setIfInBounds_toArray, List.set_cons_zero, List.set_cons_succ])
        refine wpAny_take (i := 2) (oi := ⟨some 13, _, _, _, _, _⟩) (v := ?_) rfl (by kernel_rfl) (by kernel_rfl) (by kernel_rfl) (fun _ _ _ h => h) (Or.inl ⟨by rfl, ?hy2⟩) ?re2
        case hy2 => ((intro w; go_simp); first | done | with_reducible rfl)
        (try simp only [Act.put, List.setIfInBounds_toArray, List.set_cons_zero, List.set_cons_succ])
        refine wpAny_ready (rs := [1]) (by kernel_rfl) (by simp) ?_
        refine AllReady.cons rfl (fun K hK => ?_) AllReady.nil
        go_simp
        (try (refine hK _ _ ?_; clear hK K))
        (try simp only [Act.put, List.setIfInBounds_toArray, List.set_cons_zero, List.set_cons_succ])
        refine wpAny_take (i := 3) (oi := ⟨some 14, _, _, _, _, _⟩) (v := ?_) rfl (by kernel_rfl) (by kernel_rfl) (by kernel_rfl) (fun _ _ _ h => h) (Or.inl ⟨by rfl, ?hy3⟩) ?re3
        case hy3 => ((intro w; go_simp); first | done | with_reducible rfl)
        (try simp only [Act.put, List.setIfInBounds_toArray, List.set_cons_zero, List.set_cons_succ])
        refine wpAny_ready (rs := [4]) (by kernel_rfl) (by simp) ?_
        refine AllReady.cons rfl (fun K hK => ?_) AllReady.nil
        go_simp
        (try (refine hK _ _ ?_; clear hK K))
        (try simp only [Act.put, List.setIfInBounds_toArray, List.set_cons_zero, List.set_cons_succ])
        refine wpAny_ready (rs := [5]) (by kernel_rfl) (by simp) ?_
        refine AllReady.cons rfl (fun K hK => ?_) AllReady.nil
        go_simp
        go_wp2_with (go_at_call 19; refine (HP.out _ (by assumption)).mono ?_; rintro e w3 ⟨rfl, hb3⟩; have hl3 := stepAny (by assumption) hb3)
        (try (refine hK _ _ ?_; clear hK K))
        (try simp only [Act.put, List.setIfInBounds_toArray, List.set_cons_zero, List.set_cons_succ])
        refine wpAny_take (i := 6) (oi := ⟨some 17, _, _, _, _, _⟩) (v := ?_) rfl (by kernel_rfl) (by kernel_rfl) (by kernel_rfl) (fun _ _ _ h => h) (Or.inl ⟨by rfl, ?hy6⟩) ?re6
        case hy6 => ((intro w; go_simp); first | done | with_reducible rfl)
        (try simp only [Act.put, List.setIfInBounds_toArray, List.set_cons_zero, List.set_cons_succ])
        refine wpAny_take (i := 7) (oi := ⟨some 18, _, _, _, _, _⟩) (v := ?_) rfl (by kernel_rfl) (by kernel_rfl) (by kernel_rfl) (fun _ _ _ h => h) (Or.inl ⟨by rfl, ?hy7⟩) ?re7
        case hy7 => ((intro w; go_simp); first | done | with_reducible rfl)
        (try simp only [Act.put, List.setIfInBounds_toArray, List.set_cons_zero, List.set_cons_succ])
        refine wpAny_take (i := 8) (oi := ⟨some 19, _, _, _, _, _⟩) (v := undef) rfl (by kernel_rfl) (by kernel_rfl) (by kernel_rfl) (fun _ _ _ h => h) (Or.inr ⟨by rfl, rfl⟩) ?_
        (try simp only [Act.put, List.setIfInBounds_toArray, List.set_cons_zero, List.set_cons_succ])
        refine wpAny_take (i := 9) (oi := ⟨some 20, _, _, _, _, _⟩) (v := undef) rfl (by kernel_rfl) (by kernel_rfl) (by kernel_rfl) (fun _ _ _ h => h) (Or.inr ⟨by rfl, rfl⟩) ?_
        (try simp only [Act.put, List.setIfInBounds_toArray, List.set_cons_zero, List.set_cons_succ])
        refine wpAny_take (i := 10) (oi := ⟨some 21, _, _, _, _, _⟩) (v := undef) rfl (by kernel_rfl) (by kernel_rfl) (by kernel_rfl) (fun _ _ _ h => h) (Or.inr ⟨by rfl, rfl⟩) ?_
        (try simp only [Act.put, List.setIfInBounds_toArray, List.set_cons_zero, List.set_cons_succ])
        refine wpAny_take (i := 11) (oi := ⟨some 22, _, _, _, _, _⟩) (v := undef) rfl (by kernel_rfl) (by kernel_rfl) (by kernel_rfl) (fun _ _ _ h => h) (Or.inr ⟨by rfl, rfl⟩) ?_
        (try simp only [Act.put, List.setIfInBounds_toArray, List.set_cons_zero, List.set_cons_succ])
        refine wpAny_take (i := 12) (oi := ⟨some 23, _, _, _, _, _⟩) (v := undef) rfl (by kernel_rfl) (by kernel_rfl) (by kernel_rfl) (fun _ _ _ h => h) (Or.inr ⟨by rfl, rfl⟩) ?_
        (try simp only [Act.put, List.setIfInBounds_toArray, List.set_cons_zero, List.set_cons_succ])
        refine wpAny_take (i := 13) (oi := ⟨some 24, _, _, _, _, _⟩) (v := undef) rfl (by kernel_rfl) (by kernel_rfl) (by kernel_rfl) (fun _ _ _ h => h) (Or.inr ⟨by rfl, rfl⟩) ?_
        (try simp only [Act.put, List.setIfInBounds_toArray, List.set_cons_zero, List.set_cons_succ])
        refine wpAny_take (i := 14) (oi := ⟨some 25, _, _, _, _, _⟩) (v := undef) rfl (by kernel_rfl) (by kernel_rfl) (by kernel_rfl) (fun _ _ _ h => h) (Or.inr ⟨by rfl, rfl⟩) ?_
        (try simp only [Act.put, List.setIfInBounds_toArray, List.set_cons_zero, List.set_cons_succ])
        refine wpAny_take (i := 15) (oi := ⟨some 26, _, _, _, _, _⟩) (v := undef) rfl (by kernel_rfl) (by kernel_rfl) (by kernel_rfl) (fun _ _ _ h => h) (Or.inr ⟨by rfl, rfl⟩) ?_
        (try simp only [Act.put, List.setIfInBounds_toArray, List.set_cons_zero, List.set_cons_succ])
        refine wpAny_take (i := 16) (oi := ⟨some 27, _, _, _, _, _⟩) (v := undef) rfl (by kernel_rfl) (by kernel_rfl) (by kernel_rfl) (fun _ _ _ h => h) (Or.inr ⟨by rfl, rfl⟩) ?_
        (try simp only [Act.put, List.setIfInBounds_toArray, List.set_cons_zero, List.set_cons_succ])
        refine wpAny_take (i := 17) (oi := ⟨some 28, _, _, _, _, _⟩) (v := undef) rfl (by kernel_rfl) (by kernel_rfl) (by kernel_rfl) (fun _ _ _ h => h) (Or.inr ⟨by rfl, rfl⟩) ?_
        (try simp only [Act.put, List.setIfInBounds_toArray, List.set_cons_zero, List.set_cons_succ])
        refine wpAny_take (i := 18) (oi := ⟨some 29, _, _, _, _, _⟩) (v := ?_) rfl (by kernel_rfl) (by kernel_rfl) (by kernel_rfl) (fun _ _ _ h => h) (Or.inl ⟨by rfl, ?hy18⟩) ?re18
        case hy18 => ((intro w; go_simp); first | done | with_reducible rfl)
        (try simp only [Act.put, List.setIfInBounds_toArray, List.set_cons_zero, List.set_cons_succ])
        refine wpAny_done (by kernel_rfl) ?_ _
        go_wp2
        go_ret
        exact ⟨ret_bool HBB.out.symm, (hKW.out _ hl3).2⟩
      | true =>
        rw [hp] at HP
        cases hpd : Iq.pend (ls.take k) (d, t, n, ys) with
        | true =>
          rw [hpd] at HR
          have HBB := Lib.hid (HB.out (.inr hpd))
          clear HG HB hp hpd
          go_wp2_with fail
          go_region_held3 (fun w' => w'.cell? ⟨b, off + k * 4, none⟩ = some (.int .i64 d) ∧ w'.cell? ⟨b, off + k * 4 + 1, none⟩ = some (.int .i64 t) ∧ w'.cell? ⟨b, off + k * 4 + 2, none⟩ = some (.int .i64 n) ∧ w'.cell? ⟨b, off + k * 4 + 3, none⟩ = some (.slice a2 ys.length cc2) ∧ w'.cell? ⟨w.heap.size, 5, none⟩ = some (.slice (some ⟨b, off, none⟩) ls.length cap)) (first | go_keep | exact ⟨by assumption, by assumption, by assumption, by assumption, by assumption⟩) ((first
            | (go_at_call 19; refine (HP.out _ (by assumption)).mono ?_; rintro e w3 ⟨rfl, hb3⟩; have hl3 := stepAny (by assumption) hb3; obtain ⟨q03, q13, q23, q33, q43⟩ := HQ.out w3 hl3)
            | (go_at_call 34; refine (HR.out _ (by assumption)).mono ?_; rintro e w4 ⟨rfl, hb4⟩; have hl4 := stepAny (by assumption) hb4; obtain ⟨q04, q14, q24, q34, q44⟩ := HQ.out w4 hl4)))
          go_wp2
          go_ret
          exact ⟨ret_bool HBB.out.symm, (hKW.out _ hl4).2⟩
        | false =>
          rw [hpd] at HR
          have HGG := Lib.hid (HG.out hp hpd)
          clear HG HB hp hpd
          go_wp2_with fail
          go_region_held3 (fun w' => w'.cell? ⟨b, off + k * 4, none⟩ = some (.int .i64 d) ∧ w'.cell? ⟨b, off + k * 4 + 1, none⟩ = some (.int .i64 t) ∧ w'.cell? ⟨b, off + k * 4 + 2, none⟩ = some (.int .i64 n) ∧ w'.cell? ⟨b, off + k * 4 + 3, none⟩ = some (.slice a2 ys.length cc2) ∧ w'.cell? ⟨w.heap.size, 5, none⟩ = some (.slice (some ⟨b, off, none⟩) ls.length cap)) (first | go_keep | exact ⟨by assumption, by assumption, by assumption, by assumption, by assumption⟩) ((first
            | (go_at_call 19; refine (HP.out _ (by assumption)).mono ?_; rintro e w3 ⟨rfl, hb3⟩; have hl3 := stepAny (by assumption) hb3; obtain ⟨q03, q13, q23, q33, q43⟩ := HQ.out w3 hl3)
            | (go_at_call 34; refine (HR.out _ (by assumption)).mono ?_; rintro e w4 ⟨rfl, hb4⟩; have hl4 := stepAny (by assumption) hb4; obtain ⟨q04, q14, q24, q34, q44⟩ := HQ.out w4 hl4)))
          go_wp2
          go_roundw
          case rel => exact ⟨k + 1, by go_num, by omega, HGG.out, (hKW.out _ hl4).1, (hKW.out _ hl4).2⟩
          case measure => simp [intOf]; omega
    · obtain rfl : k = ls.length := by omega
      have HV := Lib.hid (valid_end (m0 := m0) (m1 := m1) (m2 := m2) (m3 := m3) (m4 := m4) HN.out)
      by_cases h32 : ls.length ≤ 32
      · have f4 : (ls.length : Int) ≤ 32 := by omega
        have HD : Hid (decide (ls.length ≤ 32) = true) := by show _ = _; simp [h32]
        go_wp2
        go_ret
        exact ⟨ret_bool (by rw [HV.out, HD.out]; rfl), hbl⟩
      · have f4 : (32 : Int) < (ls.length : Int) := by omega
        have HD : Hid (decide (ls.length ≤ 32) = false) := by show _ = _; simp [h32]
        go_wp2
        go_ret
        exact ⟨ret_bool (by rw [HV.out, HD.out]; rfl), hbl⟩

set_option maxHeartbeats 800000 in
theorem rfew_w {m0 m1 m2 m3 m4 : Bool} {u : Value} {ls : List Iq.Ln} {w : World} (h : Lp w u ls) (m : List Bool) :
    Calls Try.prog 11 #[.agg #[.bool m0, .bool m1, .bool m2, .bool m3, .bool m4, u]] w fun e w' => e = .returned (.bool (Iq.few (m, ls))) ∧ Below w.heap.size w w' := by
  obtain ⟨a, cap, rfl, hc, hcm, hna, hel⟩ := h.open
  have HE := Lib.hid hel
  clear hel h
  unfold maxLen at hcm
  go_enter Try.func11, Try.ntmps11
  go_wp2
  go_loop [3] (fun i => ∃ k : Nat, i = .int .i64 k ∧ k ≤ ls.length ∧ Hid (∀ j (hj : j < ls.length), j < k → ls[j].2.2.2.length ≤ 300)) (fun i => ls.length - (intOf i).toNat)
  case atStart => exact ⟨0, rfl, Nat.zero_le _, fun j _ h => absurd h (Nat.not_lt_zero _)⟩
  case round =>
    obtain ⟨k, rfl, hk, HN⟩ := hrel
    by_cases hlt : k < ls.length
    · obtain ⟨b, off, u2, rfl, hb, h4, a2, cc2, rfl, -⟩ := HE.out k hlt
      have f1 : (0 : Int) ≤ (k : Int) := by omega
      have f2 : (k : Int) < (ls.length : Int) := by omega
      have c3 := h4.c3
      by_cases hg : 300 < ls[k].2.2.2.length
      · have HF : Hid (Iq.few (m, ls) = false) := by
          show _ = _
          rw [Bool.eq_false_iff]
          intro e
          have := (Iq.few_iff.1 e).1 k hlt
          simp only at this
          omega
        have f3 : (300 : Int) < (ls[k].2.2.2.length : Int) := by omega
        go_wp2
        go_ret
        exact ⟨ret_bool HF.out.symm, low_alloc _ _⟩
      · have HN2 : Hid (∀ j (hj : j < ls.length), j < k + 1 → ls[j].2.2.2.length ≤ 300) := fun j hj hjk => by
          by_cases e : j = k
          · subst e; omega
          · exact HN.out j hj (by omega)
        have f3 : (ls[k].2.2.2.length : Int) ≤ 300 := by omega
        go_wp2
        go_round
        case rel => exact ⟨k + 1, by go_num, by omega, HN2⟩
        case measure => simp [intOf]; omega
    · have HN2 : Hid (∀ j (hj : j < ls.length), ls[j].2.2.2.length ≤ 300) := fun j hj => HN.out j hj (by omega)
      have HF : Hid (Iq.few (m, ls) = decide (ls.length ≤ 40)) := by
        show _ = _
        rw [Bool.eq_iff_iff, Iq.few_iff, decide_eq_true_iff]
        exact ⟨fun h => h.2, fun h => ⟨HN2.out, h⟩⟩
      go_wp2
      go_ret
      exact ⟨ret_bool (by rw [HF.out, Bool.eq_iff_iff]; simp; omega), low_alloc _ _⟩
end Go.Proofs.Ytehniblcodkmaaa
