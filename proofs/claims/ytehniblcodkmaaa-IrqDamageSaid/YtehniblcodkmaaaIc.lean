/-
  The walks of Valid of irq and of the reference, and of Few.
-/
import Derived.Test.YtehniblcodkmaaaIb
import Derived.Test.YtehniblcodkmaaaStep
namespace Go.Proofs.Ytehniblcodkmaaa
open Go.RowKit

/-- The cells of a state. -/
def stC (m0 m1 m2 m3 m4 : Bool) (u : Value) : List Value := [.bool m0, .bool m1, .bool m2, .bool m3, .bool m4, u]

theorem valid_end {ls : List Iq.Ln} {m0 m1 m2 m3 m4 : Bool} (h : ∀ j (hj : j < ls.length), j < ls.length → Iq.proper ls[j] = true ∧ Iq.pend (ls.take j) ls[j] = false) :
    Iq.valid ([m0, m1, m2, m3, m4], ls) = (decide (ls.length ≤ 32) && !m0) := by
  unfold Iq.valid
  rw [Iq.okAll_iff.2 fun k hk => h k hk hk]
  rfl

set_option maxRecDepth 20000 in
set_option maxHeartbeats 1600000 in
theorem valid_w {m0 m1 m2 m3 m4 : Bool} {u : Value} {ls : List Iq.Ln} {w : World} (h : Lp w u ls) :
    Calls Try.prog 25 #[.agg #[.bool m0, .bool m1, .bool m2, .bool m3, .bool m4, u]] w fun e w' => e = .returned (.bool (Iq.valid ([m0, m1, m2, m3, m4], ls))) ∧ Below w.heap.size w w' := by
  obtain ⟨a, cap, rfl, hc, hcm, hna, hel⟩ := h.open
  have HE := Lib.hid hel
  have HL := Lib.hid h
  clear hel h
  unfold maxLen at hcm
  go_enter Try.func25, Try.ntmps25
  go_wp2
  go_loopw [3, 4, 8] (fun _ _ i wr => ∃ k : Nat, i = .int .i64 k ∧ k ≤ ls.length ∧ Hid (∀ j (hj : j < ls.length), j < k → Iq.proper ls[j] = true ∧ Iq.pend (ls.take j) ls[j] = false) ∧ Bk wr w.heap.size 30 (stC m0 m1 m2 m3 m4 (.slice a ls.length cap)) ∧ Below w.heap.size w wr) (fun _ _ i _ => ls.length - (intOf i).toNat)
  case atStart => exact ⟨0, rfl, Nat.zero_le _, fun j _ h => absurd h (Nat.not_lt_zero _), Bk.new w _ (stC m0 m1 m2 m3 m4 (.slice a ls.length cap)), low_alloc _ _⟩
  case round =>
    obtain ⟨k, rfl, hk, HN, hK, hbl⟩ := hrel
    have s0 := hK.cell 0
    have s5 := hK.cell 5
    simp only [stC, List.getElem?_cons_zero, List.getElem?_cons_succ] at s0 s5
    by_cases hlt : k < ls.length
    · obtain ⟨b, off, u2, rfl, hb, h4, hs⟩ := HE.out k hlt
      have f1 : (0 : Int) ≤ (k : Int) := by omega
      have f2 : (k : Int) < (ls.length : Int) := by omega
      have f3 : (k : Int) ≤ (cap : Int) := by omega
      obtain ⟨c0, c1, c2, c3⟩ := h4.below hbl hb
      have HB := Lib.hid (fun (hp : Iq.proper ls[k] = false ∨ Iq.pend (ls.take k) ls[k] = true) => Iq.valid_bad (m := [m0, m1, m2, m3, m4]) hlt hp)
      have HT := Lib.hid (HL.out.take k hk)
      have HG : Hid (∀ (h1 : Iq.proper ls[k] = true) (h2 : Iq.pend (ls.take k) ls[k] = false), ∀ j (hj : j < ls.length), j < k + 1 → Iq.proper ls[j] = true ∧ Iq.pend (ls.take j) ls[j] = false) := fun h1 h2 j hj hjk => by
        by_cases e : j = k
        · subst e; exact ⟨h1, h2⟩
        · exact HN.out j hj (by omega)
      generalize hy : ls[k] = y at *
      have HY := Lib.hid hy
      clear hy
      obtain ⟨d, t, n, ys⟩ := y
      simp only at c0 c1 c2 c3 hs
      have HS := Lib.hid hs
      obtain ⟨a2, cc2, rfl, -⟩ := hs
      have hb' := hbl.size
      -- the world behind the copy of the element
      have c0' := hbl.size
      obtain ⟨W0, hW0⟩ : ∃ W0, W0 = wr.alloc (.cells #[.int .i64 d, .int .i64 t, .int .i64 n, (.slice a2 ys.length cc2)] 38 (0, 0)) := ⟨_, rfl⟩
      have hw0 : Below wr.heap.size wr W0 := hW0 ▸ low_alloc _ _
      have hq : Bk W0 wr.heap.size 38 [.int .i64 d, .int .i64 t, .int .i64 n, (.slice a2 ys.length cc2)] := hW0 ▸ Bk.new wr _ [_, _, _, _]
      have hK0 : Bk W0 w.heap.size 30 (stC m0 m1 m2 m3 m4 (.slice (some ⟨b, off, none⟩) ls.length cap)) := hK.below hw0 hK.lt
      have HQ : Hid (∀ W, Below W0.heap.size W0 W → W.cell? ⟨wr.heap.size, 0, none⟩ = some (.int .i64 d) ∧ W.cell? ⟨wr.heap.size, 1, none⟩ = some (.int .i64 t) ∧ W.cell? ⟨wr.heap.size, 2, none⟩ = some (.int .i64 n) ∧ W.cell? ⟨wr.heap.size, 3, none⟩ = some (.slice a2 ys.length cc2) ∧ W.cell? ⟨w.heap.size, 5, none⟩ = some (.slice (some ⟨b, off, none⟩) ls.length cap)) := fun W hW =>
        have h1 := hq.below hW hq.lt
        have h2 := hK0.below hW hK0.lt
        ⟨h1.cell 0, h1.cell 1, h1.cell 2, h1.cell 3, h2.cell 5⟩
      have hL0 : Below w.heap.size w W0 := stepAny hbl hw0
      have HP : Hid (∀ W, Below W0.heap.size W0 W → Calls Try.prog 27 #[.agg #[.int .i64 d, .int .i64 t, .int .i64 n, (.slice a2 ys.length cc2)]] W fun e w' => e = .returned (.bool (Iq.proper (d, t, n, ys))) ∧ Below W.heap.size W w') := fun W hW =>
        proper_w (l := (d, t, n, ys)) ⟨_, rfl, (HS.out.below hL0 (Nat.le_refl _)).below hW (Nat.le_refl _)⟩
      have HR : Hid (∀ W, Below W0.heap.size W0 W → Calls Try.prog 42 #[.slice (some ⟨b, off, none⟩) k cap, .agg #[.int .i64 d, .int .i64 t, .int .i64 n, (.slice a2 ys.length cc2)]] W fun e w' => e = .returned (.bool (Iq.pend (ls.take k) (d, t, n, ys))) ∧ Below W.heap.size W w') := fun W hW =>
        pending_w (x := (d, t, n, ys)) ((HT.out.below hL0 (Nat.le_refl _)).below hW (Nat.le_refl _)) ⟨_, rfl, (HS.out.below hL0 (Nat.le_refl _)).below hW (Nat.le_refl _)⟩
      have hKW : Hid (∀ W, Below W0.heap.size W0 W → Bk W w.heap.size 30 (stC m0 m1 m2 m3 m4 (.slice (some ⟨b, off, none⟩) ls.length cap)) ∧ Below w.heap.size w W) := fun W hW => ⟨hK0.below hW hK0.lt, stepAny hL0 hW⟩
      have hl0 := low_drew W0
      have HQ0 := Lib.hid (HQ.out W0.drew hl0)
      clear hq hK0 hw0 hL0 hK s0 HT
      subst hW0
      cases hp : Iq.proper (d, t, n, ys) with
      | false =>
        rw [hp] at HP
        have HBB := Lib.hid (HB.out (.inl hp))
        clear HR HG HB hp
        go_wp2_with fail
        obtain ⟨q0, q1, q2, q3, q4⟩ := HQ0.out
        refine wp_region_any (by kernel_rfl) ?_
        change wpAny _ _ _ _ _ _ _ (World.drew _)
        refine wpAny_ready (rs := [0]) (by kernel_rfl) (by simp) ?_
        refine AllReady.cons rfl (fun K hK => ?_) AllReady.nil
        go_simp
        (try (refine hK _ _ ?_; clear hK K))
        (try simp only [Act.put, List.setIfInBounds_toArray, List.set_cons_zero, List.set_cons_succ])
        refine wpAny_ready (rs := [1]) (by kernel_rfl) (by simp) ?_
        refine AllReady.cons rfl (fun K hK => ?_) AllReady.nil
        go_simp
        go_wp2_with (go_at_call 27; refine (HP.out _ (by assumption)).mono ?_; rintro e w3 ⟨rfl, hb3⟩; have hl3 := stepAny (by assumption) hb3)
        (try (refine hK _ _ ?_; clear hK K))
        (try simp only [Act.put, List.setIfInBounds_toArray, List.set_cons_zero, List.set_cons_succ])
        refine wpAny_take (i := 2) (oi := ⟨some 15, _, _, _, _, _⟩) (v := ?_) rfl (by kernel_rfl) (by kernel_rfl) (by kernel_rfl) (fun _ _ _ h => h) (Or.inl ⟨by rfl, ?hy2⟩) ?re2
        case hy2 => ((intro w; go_simp); first | done | with_reducible rfl)
        (try simp only [Act.put, List.setIfInBounds_toArray, List.set_cons_zero, List.set_cons_succ])
        refine wpAny_take (i := 3) (oi := ⟨some 16, _, _, _, _, _⟩) (v := ?_) rfl (by kernel_rfl) (by kernel_rfl) (by kernel_rfl) (fun _ _ _ h => h) (Or.inl ⟨by rfl, ?hy3⟩) ?re3
        case hy3 => ((intro w; go_simp); first | done | with_reducible rfl)
        (try simp only [Act.put, List.setIfInBounds_toArray, List.set_cons_zero, List.set_cons_succ])
        refine wpAny_take (i := 4) (oi := ⟨some 17, _, _, _, _, _⟩) (v := undef) rfl (by kernel_rfl) (by kernel_rfl) (by kernel_rfl) (fun _ _ _ h => h) (Or.inr ⟨by rfl, rfl⟩) ?_
        (try simp only [Act.put, List.setIfInBounds_toArray, List.set_cons_zero, List.set_cons_succ])
        refine wpAny_take (i := 5) (oi := ⟨some 18, _, _, _, _, _⟩) (v := undef) rfl (by kernel_rfl) (by kernel_rfl) (by kernel_rfl) (fun _ _ _ h => h) (Or.inr ⟨by rfl, rfl⟩) ?_
        (try simp only [Act.put, List.setIfInBounds_toArray, List.set_cons_zero, List.set_cons_succ])
        refine wpAny_take (i := 6) (oi := ⟨some 19, _, _, _, _, _⟩) (v := undef) rfl (by kernel_rfl) (by kernel_rfl) (by kernel_rfl) (fun _ _ _ h => h) (Or.inr ⟨by rfl, rfl⟩) ?_
        (try simp only [Act.put, List.setIfInBounds_toArray, List.set_cons_zero, List.set_cons_succ])
        refine wpAny_take (i := 7) (oi := ⟨some 20, _, _, _, _, _⟩) (v := undef) rfl (by kernel_rfl) (by kernel_rfl) (by kernel_rfl) (fun _ _ _ h => h) (Or.inr ⟨by rfl, rfl⟩) ?_
        (try simp only [Act.put, List.setIfInBounds_toArray, List.set_cons_zero, List.set_cons_succ])
        refine wpAny_take (i := 8) (oi := ⟨some 21, _, _, _, _, _⟩) (v := undef) rfl (by kernel_rfl) (by kernel_rfl) (by kernel_rfl) (fun _ _ _ h => h) (Or.inr ⟨by rfl, rfl⟩) ?_
        (try simp only [Act.put, List.setIfInBounds_toArray, List.set_cons_zero, List.set_cons_succ])
        refine wpAny_take (i := 9) (oi := ⟨some 22, _, _, _, _, _⟩) (v := undef) rfl (by kernel_rfl) (by kernel_rfl) (by kernel_rfl) (fun _ _ _ h => h) (Or.inr ⟨by rfl, rfl⟩) ?_
        (try simp only [Act.put, List.setIfInBounds_toArray, List.set_cons_zero, List.set_cons_succ])
        refine wpAny_take (i := 10) (oi := ⟨some 23, _, _, _, _, _⟩) (v := ?_) rfl (by kernel_rfl) (by kernel_rfl) (by kernel_rfl) (fun _ _ _ h => h) (Or.inl ⟨by rfl, ?hy10⟩) ?re10
        case hy10 => ((intro w; go_simp); first | done | with_reducible rfl)
        (try simp only [Act.put, List.setIfInBounds_toArray, List.set_cons_zero, List.set_cons_succ])
        refine wpAny_done (by kernel_rfl) ?_ _
        go_wp2
        go_ret
        exact ⟨ret_bool HBB.out.symm, (hKW.out _ hl3).2⟩
      | true =>
        rw [hp] at HP
        cases hpd : Iq.pend (ls.take k) (d, t, n, ys) with
        | true =>
          rw [hpd] at HR
          have HBB := Lib.hid (HB.out (.inr hpd))
          clear HG HB hp hpd
          go_wp2_with fail
          obtain ⟨q0, q1, q2, q3, q4⟩ := HQ0.out
          go_region_held3 (fun w' => w'.cell? ⟨wr.heap.size, 0, none⟩ = some (.int .i64 d) ∧ w'.cell? ⟨wr.heap.size, 1, none⟩ = some (.int .i64 t) ∧ w'.cell? ⟨wr.heap.size, 2, none⟩ = some (.int .i64 n) ∧ w'.cell? ⟨wr.heap.size, 3, none⟩ = some (.slice a2 ys.length cc2) ∧ w'.cell? ⟨w.heap.size, 5, none⟩ = some (.slice (some ⟨b, off, none⟩) ls.length cap)) (first | go_keep | exact ⟨by assumption, by assumption, by assumption, by assumption, by assumption⟩) ((first
            | (go_at_call 27; refine (HP.out _ (by assumption)).mono ?_; rintro e w3 ⟨rfl, hb3⟩; have hl3 := stepAny (by assumption) hb3; obtain ⟨q03, q13, q23, q33, q43⟩ := HQ.out w3 hl3)
            | (go_at_call 42; refine (HR.out _ (by assumption)).mono ?_; rintro e w4 ⟨rfl, hb4⟩; have hl4 := stepAny (by assumption) hb4; obtain ⟨q04, q14, q24, q34, q44⟩ := HQ.out w4 hl4)))
          go_wp2
          go_ret
          exact ⟨ret_bool HBB.out.symm, (hKW.out _ hl4).2⟩
        | false =>
          rw [hpd] at HR
          have HGG := Lib.hid (HG.out hp hpd)
          clear HG HB hp hpd
          go_wp2_with fail
          obtain ⟨q0, q1, q2, q3, q4⟩ := HQ0.out
          go_region_held3 (fun w' => w'.cell? ⟨wr.heap.size, 0, none⟩ = some (.int .i64 d) ∧ w'.cell? ⟨wr.heap.size, 1, none⟩ = some (.int .i64 t) ∧ w'.cell? ⟨wr.heap.size, 2, none⟩ = some (.int .i64 n) ∧ w'.cell? ⟨wr.heap.size, 3, none⟩ = some (.slice a2 ys.length cc2) ∧ w'.cell? ⟨w.heap.size, 5, none⟩ = some (.slice (some ⟨b, off, none⟩) ls.length cap)) (first | go_keep | exact ⟨by assumption, by assumption, by assumption, by assumption, by assumption⟩) ((first
            | (go_at_call 27; refine (HP.out _ (by assumption)).mono ?_; rintro e w3 ⟨rfl, hb3⟩; have hl3 := stepAny (by assumption) hb3; obtain ⟨q03, q13, q23, q33, q43⟩ := HQ.out w3 hl3)
            | (go_at_call 42; refine (HR.out _ (by assumption)).mono ?_; rintro e w4 ⟨rfl, hb4⟩; have hl4 := stepAny (by assumption) hb4; obtain ⟨q04, q14, q24, q34, q44⟩ := HQ.out w4 hl4)))
          go_wp2
          go_roundw
          case rel => exact ⟨k + 1, by go_num, by omega, HGG.out, (hKW.out _ hl4).1, (hKW.out _ hl4).2⟩
          case measure => simp [intOf]; omega
    · obtain rfl : k = ls.length := by omega
      have HV := Lib.hid (valid_end (m0 := m0) (m1 := m1) (m2 := m2) (m3 := m3) (m4 := m4) HN.out)
      by_cases h32 : ls.length ≤ 32
      · have f4 : (ls.length : Int) ≤ 32 := by omega
        have HD : Hid (decide (ls.length ≤ 32) = true) := by show _ = _; simp [h32]
        go_wp2
        go_ret
        exact ⟨ret_bool (by rw [HV.out, HD.out]; rfl), hbl⟩
      · have f4 : (32 : Int) < (ls.length : Int) := by omega
        have HD : Hid (decide (ls.length ≤ 32) = false) := by show _ = _; simp [h32]
        go_wp2
        go_ret
        exact ⟨ret_bool (by rw [HV.out, HD.out]; rfl), hbl⟩
end Go.Proofs.Ytehniblcodkmaaa
