/-
  SchedAsks: the law's walk.
-/
import Derived.Test.YtolfkgbcjfkbnaaLasks
namespace Go.Proofs.Ytolfkgbcjfkbnaa
open Go.RowKit

set_option maxHeartbeats 1600000 in
theorem schedAsks_w (v : Value) (xs : List Int) (bits : Int) (w : World) (hv : Sl (Value.int .i64) w v xs) (hb0 : 0 ≤ bits) (hb1 : bits < 4294967296) :
    Calls Try.prog 6 #[v, .int .u32 bits] w fun e w' => e = .returned (.bool true) ∧ Below w.heap.size w w' := by
  obtain ⟨a, cap, rfl, h1, h2, h3, h4⟩ := id hv
  have HV := Lib.hid hv
  have HR := Lib.hid h4
  have H3 := Lib.hid h3
  clear hv h3 h4
  have hba : ∀ W', Below (w.alloc (.cells #[.int .u32 bits] 24)).heap.size (w.alloc (.cells #[.int .u32 bits] 24)) W' → Below w.heap.size w W' := fun W' h => ((Below.refl _ w).alloc (Nat.le_refl _) _).trans (h.mono (by simp))
  have HBA := Lib.hid hba
  clear hba
  by_cases h60 : 60 < xs.length
  · have f1 : (60 : Int) < (xs.length : Int) := by omega
    go_enter Try.func6, Try.ntmps6
    go_wp2_with fail
    refine (awake_w _).mono ?_
    rintro e w1 ⟨rfl, hb1⟩
    go_wp2_with fail
    refine (awake_w _).mono ?_
    rintro e w2 ⟨rfl, hb2⟩
    go_wp2
    go_ret
    exact ⟨rfl, HBA.out _ (hb1.trans (hb2.mono hb1.size))⟩
  · have f1 : ¬ (60 : Int) < (xs.length : Int) := by omega
    cases hval : Sq.valid xs with
    | false =>
      have HX := Lib.hid hval
      clear hval
      go_enter Try.func6, Try.ntmps6
      go_wp2_with fail
      refine (awake_w _).mono ?_
      rintro e w1 ⟨rfl, hb1⟩
      go_wp2_with fail
      refine (rvalid_sl (HV.out.below (HBA.out _ hb1) (Nat.le_refl _)) (by omega)).mono ?_
      rintro e w2 ⟨rfl, rfl⟩
      rw [HX.out]
      go_wp2_with fail
      refine (awake_w _).mono ?_
      rintro e w2 ⟨rfl, hb2⟩
      go_wp2
      go_ret
      exact ⟨rfl, HBA.out _ (hb1.trans (hb2.mono hb1.size))⟩
    | true =>
      obtain ⟨al, hal⟩ : ∃ al, askedOf (Sq.ready bits) xs = al := ⟨_, rfl⟩
      obtain ⟨l, t, ok, hn⟩ : ∃ l t ok, Sq.next (Sq.ready bits) xs = (l, t, ok) := ⟨_, _, _, rfl⟩
      have hcase : (ok = false ∧ al = xs) ∨ ∃ k, ∃ hk : k < xs.length, ok = true ∧ t = xs[k] ∧ al = xs.take (k + 1) := by
        unfold askedOf at hal
        rcases Sq.idx_cases (Sq.ready bits) xs with ⟨e, _⟩ | ⟨k, hk, e, _, _⟩
        · rw [Sq.next_none hval e] at hn
          rw [e, if_pos (by omega)] at hal
          simp at hn
          exact .inl ⟨hn.2.2, hal.symm⟩
        · rw [Sq.next_some hval hk e] at hn
          rw [e, if_neg (by omega)] at hal
          simp at hn
          exact .inr ⟨k, hk, hn.2.2, hn.2.1.symm, by rw [← hal]; simp⟩
      have hall : al = xs.take al.length ∧ al.length ≤ xs.length := by
        rcases hcase with ⟨_, rfl⟩ | ⟨k, hk, _, _, rfl⟩
        · simp
        · simp; omega
      have HX := Lib.hid hval
      have HAL := Lib.hid hal
      have HN := Lib.hid hn
      have HCS := Lib.hid hcase
      have HALL := Lib.hid hall.1
      have hle := hall.2
      clear hval hal hn hcase hall
      have hBlt : ∀ W' : World, (w.alloc (.cells #[.int .u32 bits] 24)).heap.size ≤ W'.heap.size → w.heap.size < W'.heap.size := fun W' h => by simp at h; omega
      have HBLT := Lib.hid hBlt
      clear hBlt
      go_enter Try.func6, Try.ntmps6
      go_wp2_with fail
      refine (awake_w _).mono ?_
      rintro e w1 ⟨rfl, hb1⟩
      have hlt1 := HBLT.out _ hb1.size
      have hbc1 : w1.cell? ⟨w.heap.size, 0, none⟩ = some (.int .u32 bits) := by
        rw [hb1.cell (p := ⟨w.heap.size, 0, none⟩) (by simp), cell_of_row _ _ _ _ _ _ (heap_alloc_new w _)]; simp
      have hbl1 := HBA.out _ hb1
      have HV1 := HV.out.below hbl1 (Nat.le_refl _)
      clear hb1
      go_wp2_with fail
      refine (rvalid_sl HV1 (by omega)).mono ?_
      rintro e w1' ⟨rfl, rfl⟩
      rw [HX.out]
      have hAsk : Asked (w1.heap.size + 1) w1.heap.size w.heap.size w.heap.size bits [] (w1.alloc (.cells #[.slice none 0 0] 22)) (w1.alloc (.cells #[.slice none 0 0] 22)) :=
        ⟨⟨_, (by rw [cell_of_row _ _ _ _ _ _ (heap_alloc_new w1 _)]; rfl), World.ownsRow_nil _ _ _ _⟩, frozen_of_row _ _ _ _ _ (heap_alloc_new w1 _), (by rw [World.cell?_alloc_lt _ _ _ hlt1]; exact hbc1), (by simp), Below.refl _ _⟩
      have hblA : Below w.heap.size w (w1.alloc (.cells #[.slice none 0 0] 22)) := hbl1.alloc hbl1.size _
      clear hbc1
      go_wp2_with fail
      refine (nextAsks_w (w1.heap.size + 1) w1.heap.size w.heap.size w.heap.size bits a cap xs _ (by omega) h1 h2 H3.out (by omega) (by omega) (by omega) (by omega) (fun W hW => HR.out.below (hblA.trans hW) (Nat.le_refl _)) HX.out hb0 hb1 hAsk).mono ?_
      rintro e w2 ⟨v2, rfl, hask⟩
      rw [HN.out]
      rw [HAL.out] at hask
      obtain ⟨⟨va, hcv, hov⟩, _, _, hsz2, hbl2⟩ := hask
      obtain ⟨aa, ca, rfl, hc1, hc2, hc3, hc4⟩ := Sl.ofOwn hov
      have hbl02 := hblA.trans hbl2
      have HB02 := Lib.hid hbl02
      have hsv : Sl (Value.int .i64) w2 (.slice aa al.length ca) al := ⟨aa, ca, rfl, hc1, hc2, hc3, hc4⟩
      have hsq : Sl (Value.int .i64) w2 (.slice a al.length cap) al := by
        refine ⟨a, cap, rfl, by omega, h2, H3.out, ?_⟩
        rw [HALL.out]
        exact (HR.out.below hbl02 (Nat.le_refl _)).take _
      have HSV := Lib.hid hsv
      have HSQ := Lib.hid hsq
      have HRA := Lib.hid hc4
      clear hov hsz2 hbl2 hc3 hc4 hAsk hblA hbl02 HV1 hsv hsq
      have g1 : ¬ (xs.length : Int) < (al.length : Int) := by omega
      have g2 : decide ((xs.length : Int) < (al.length : Int)) = false := by simp; omega
      have g3 : (0 : Int) ≤ (al.length : Int) := by omega
      have g4 : (al.length : Int) ≤ (cap : Int) := by omega
      have g5 : decide (xs.length < al.length) = false := by simp; omega
      have HQ : Hid (∀ n, Calls Try.prog 14 #[.slice aa al.length ca, .slice a al.length cap] (w2.drewN n) fun e w' => e = .returned (.bool true) ∧ ∃ q, w' = (w2.drewN n).drewN q) := fun n => by
        have := sameInts_q (.slice aa al.length ca) (.slice a al.length cap) al al (w2.drewN n) (HSV.out.below (below_drewN (Below.refl w2.heap.size _) n) (Nat.le_refl _)) (HSQ.out.below (below_drewN (Below.refl w2.heap.size _) n) (Nat.le_refl _))
        rw [decide_eq_true rfl] at this
        exact this
      go_wp2_with fail
      go_quiet ((go_at_call 14; exact Calls.quiet_of (HQ.out _)))
      have hbq : Below w.heap.size w (w2.drewN nq) := HB02.out.trans (below_drewN (Below.refl _ _) nq)
      have HBQ := Lib.hid hbq
      clear hbq
      rcases HCS.out with ⟨rfl, rfl⟩ | ⟨k, hk, rfl, rfl, rfl⟩
      · go_wp2
        go_ret
        exact ⟨ret_bool (by simp), HBQ.out⟩
      · have hlen : (xs.take (k + 1)).length = k + 1 := by simp; omega
        rw [hlen] at hcv
        obtain ⟨b, off, rfl, hbb, hcell⟩ := HRA.out.form (by omega)
        have hck := hcell k (by omega)
        rw [List.getElem_take] at hck
        have q1 : (xs[k] == xs[k]) = true := by simp
        clear hcell g1 g2 g3 g4 g5
        go_wp2
        go_ret
        exact ⟨ret_bool (by simp), HBQ.out⟩
end Go.Proofs.Ytolfkgbcjfkbnaa
