/-
  The walk of the reference's Take.
-/
import Derived.Test.YtehniblcodkmaaaIo
import Derived.Deep.DeepCutAuto
namespace Go.Proofs.Ytehniblcodkmaaa
open Go.RowKit

section
variable {α : Type} {s : Nat} {enc : α → List Value}
theorem Rm.take {w : World} {a : Option Addr} {xs : List α} (h : Rm s enc w a xs) (k : Nat) : Rm s enc w a (xs.take k) := by
  intro i hi
  have hi' : i < xs.length := by simp at hi; omega
  obtain ⟨b, off, ha, hlt, hc⟩ := h i hi'
  exact ⟨b, off, ha, hlt, fun j hj => by rw [List.getElem_take]; exact hc j hj⟩
theorem Rm.drop {w : World} {b off : Nat} {xs : List α} (h : Rm s enc w (some ⟨b, off, none⟩) xs) (k : Nat) : Rm s enc w (some ⟨b, off + k * s, none⟩) (xs.drop k) := by
  intro i hi
  have hi' : k + i < xs.length := by simp at hi; omega
  obtain ⟨b', off', ha, hlt, hc⟩ := h (k + i) hi'
  simp only [Option.some.injEq, Addr.mk.injEq, and_true] at ha
  obtain ⟨rfl, rfl⟩ := ha
  refine ⟨b, off + k * s, rfl, hlt, fun j hj => ?_⟩
  rw [List.getElem_drop, ← hc j hj, show off + k * s + i * s + j = off + (k + i) * s + j by rw [Nat.add_mul]; omega]
end

theorem LsR.erase {w : World} {es : List El} {ls : List Iq.Ln} (h : LsR w es ls) (k : Nat) : LsR w (es.eraseIdx k) (ls.eraseIdx k) := by
  refine ⟨by rw [List.length_eraseIdx, List.length_eraseIdx, h.1], fun i h1 h2 => ?_⟩
  rw [List.length_eraseIdx] at h1 h2
  rw [List.getElem_eraseIdx, List.getElem_eraseIdx]
  by_cases hi : i < k
  · simp only [hi, dif_pos]
    exact h.2 i _ _
  · simp only [hi, dif_neg, not_false_iff]
    exact h.2 (i + 1) _ _

theorem stC_at (m0 m1 m2 m3 m4 : Bool) (u : Value) (D : Nat) (h : D ≤ 4) : (stC m0 m1 m2 m3 m4 u)[D]? = some (.bool ([m0, m1, m2, m3, m4].getD D false)) := by
  match D, h with
  | 0, _ => rfl
  | 1, _ => rfl
  | 2, _ => rfl
  | 3, _ => rfl
  | 4, _ => rfl

/-- What the reference's Take returns. -/
def RetTR (w : World) (r : Iq.St × Iq.Ln × Bool) (e : Ending) (w' : World) : Prop :=
  ∃ n0 n1 n2 n3 n4 v' u', r.1.1 = [n0, n1, n2, n3, n4] ∧ e = .returned (.tuple #[.agg #[.bool n0, .bool n1, .bool n2, .bool n3, .bool n4, v'], .agg #[.int .i64 r.2.1.1, .int .i64 r.2.1.2.1, .int .i64 r.2.1.2.2.1, u'], .bool r.2.2]) ∧ Lp w' v' r.1.2 ∧ Sl eb w' u' r.2.1.2.2.2 ∧ Below w.heap.size w w'

theorem RetTR.zero {w w' : World} (hb : Below w.heap.size w w') : RetTR w (Iq.zst, Iq.zln, false) (.returned (.tuple #[.agg #[.bool false, .bool false, .bool false, .bool false, .bool false, .slice none 0 0], .agg #[.int .i64 0, .int .i64 0, .int .i64 0, .slice none 0 0], .bool false])) w' :=
  ⟨false, false, false, false, false, _, _, rfl, rfl, Lp.nil, Sl.nil _ _, hb⟩

set_option maxRecDepth 20000 in
set_option maxHeartbeats 8000000 in
theorem rtake_w {m0 m1 m2 m3 m4 : Bool} {u : Value} {ls : List Iq.Ln} {w : World} (h : Lp w u ls) :
    Calls Try.prog 21 #[.agg #[.bool m0, .bool m1, .bool m2, .bool m3, .bool m4, u]] w (RetTR w (Iq.take ([m0, m1, m2, m3, m4], ls))) := by
  have HLP : Hid (∀ W, Below w.heap.size w W → Lp W u ls) := fun W hW => h.below hW (Nat.le_refl _)
  have HV : Hid (∀ W, Below w.heap.size w W → Calls Try.prog 12 #[.agg #[.bool m0, .bool m1, .bool m2, .bool m3, .bool m4, u]] W fun e w' => e = .returned (.bool (Iq.valid ([m0, m1, m2, m3, m4], ls))) ∧ Below W.heap.size W w') := fun W hW => rvalid_w (HLP.out W hW)
  obtain ⟨es, ⟨a, cap, rfl, hc, hcm, hna, hrm⟩, hle, hre⟩ := h
  unfold maxLen at hcm
  have HST := Lib.hid (TK.start (w := w) (T1 := 25) (T2 := 37) (m0 := m0) (m1 := m1) (m2 := m2) (m3 := m3) (m4 := m4) (u := .slice a es.length cap))
  have HR : Hid (∀ r, Iq.take ([m0, m1, m2, m3, m4], ls) = r → Iq.take ([m0, m1, m2, m3, m4], ls) = r) := fun _ h => h
  obtain ⟨r, hr⟩ : ∃ r, Iq.take ([m0, m1, m2, m3, m4], ls) = r := ⟨_, rfl⟩
  have HRR := Lib.hid hr
  have HBAD : Hid (Iq.valid ([m0, m1, m2, m3, m4], ls) = false → r = (Iq.zst, Iq.zln, false)) := fun h => by
    have := HRR.out
    unfold Iq.take at this
    rw [h] at this
    simp at this
    exact this.symm
  have HNO : Hid ((∀ j (hj : j < ls.length), Iq.free [m0, m1, m2, m3, m4] ls[j] = false) → Iq.valid ([m0, m1, m2, m3, m4], ls) = true → r = (Iq.zst, Iq.zln, false)) := fun h hv => by
    have := HRR.out
    unfold Iq.take at this
    have hf : ls.findIdx? (Iq.free [m0, m1, m2, m3, m4]) = none := by
      rw [List.findIdx?_eq_none_iff]
      intro x hx
      obtain ⟨j, hj, rfl⟩ := List.getElem_of_mem hx
      exact h j hj
    rw [hv] at this
    simp [hf] at this
    exact this.symm
  have HYES : Hid (∀ k (hk : k < ls.length), Iq.valid ([m0, m1, m2, m3, m4], ls) = true → (∀ j (hj : j < ls.length), j < k → Iq.free [m0, m1, m2, m3, m4] ls[j] = false) → Iq.free [m0, m1, m2, m3, m4] ls[k] = true → r = (([m0, m1, m2, m3, m4], ls.eraseIdx k), ls[k], true)) := fun k hk hv h1 h2 => by
    have := HRR.out
    unfold Iq.take at this
    have hf : ls.findIdx? (Iq.free [m0, m1, m2, m3, m4]) = some k := by
      rw [List.findIdx?_eq_some_iff_getElem]
      exact ⟨hk, h2, fun j hj => by rw [h1 j (by omega) hj]; simp⟩
    rw [hv] at this
    simp only [hf, Iq.getD_at Iq.zln hk] at this
    simp at this
    exact this.symm
  have HPB : Hid (∀ k (hk : k < ls.length), Iq.valid ([m0, m1, m2, m3, m4], ls) = true → 1 ≤ ls[k].1 ∧ ls[k].1 ≤ 4) := fun k hk hv => by
    have := Iq.proper_bd hv k hk
    exact ⟨this.1, this.2.1⟩
  have HML : Hid (Iq.valid ([m0, m1, m2, m3, m4], ls) = true → es.length ≤ 32) := fun hv => by rw [hle]; exact (Iq.valid_iff.1 hv).2.1
  rw [hr]
  generalize Iq.valid ([m0, m1, m2, m3, m4], ls) = V at *
  have HRM := Lib.hid hrm
  have HRE : Hid (LsR w es ls) := ⟨hle, hre⟩
  have HLE := Lib.hid hle
  clear hr HR HRR HLP hrm hre hle
  obtain ⟨i0, hi, hz0, hz1, hz2⟩ := info_parts Try.infoRLine
  go_enter Try.func21, Try.ntmps21
  go_wp2_with fail
  go_loopw [5, 6] (fun i _ wr => ∃ k : Nat, i = .int .i64 k ∧ k ≤ es.length ∧ Hid (∀ j (hj : j < ls.length), j < k → Iq.free [m0, m1, m2, m3, m4] ls[j] = false) ∧ Hid (V = false → k = 0) ∧ TK w 25 37 m0 m1 m2 m3 m4 (.slice a es.length cap) wr) (fun i _ _ => es.length - (intOf i).toNat)
  case atStart => exact ⟨0, rfl, Nat.zero_le _, fun j _ h => absurd h (Nat.not_lt_zero _), fun _ => rfl, HST.out⟩
  case round =>
    clear HST
    obtain ⟨k, rfl, hk, HN, HV0, hT⟩ := hrel
    obtain ⟨p0, p1, p2, p3, p4, p5, -⟩ := hT.b0.box
    have HT := Lib.hid hT
    by_cases hlt : k < es.length
    · have hlt' : k < ls.length := by have := HLE.out; omega
      cases V with
      | false =>
        have hz := HBAD.out rfl
        subst hz
        clear hT
        go_wp2_with (go_at_call 12; refine (HV.out _ HT.out.low).mono ?_; rintro e w1 ⟨rfl, hb1⟩; have hk1 := HT.out.step hb1; obtain ⟨p0, p1, p2, p3, p4, p5, z0, z1, z2, z3, z4, z5⟩ := hk1.b1.box; obtain ⟨q0, q1, q2, q3, y3⟩ := hk1.b2.box4; have y0 := hk1.b2.frozen 0; have y1 := hk1.b2.frozen 1; have y2 := hk1.b2.frozen 2)
        refine bodyPost_ret (v := .tuple #[.agg #[.bool false, .bool false, .bool false, .bool false, .bool false, .slice none 0 0], .agg #[.int .i64 0, .int .i64 0, .int .i64 0, .slice none 0 0], .bool false]) (by simp [results, Try.results21, go_sem, p0, p1, p2, p3, p4, p5, q0, q1, q2, q3]) rfl (RetTR.zero ?_)
        exact set4 (set6 hk1.low (by omega) _ _ _ _ _ _) (by omega) _ _ _ _
      | true =>
        have hbd := HPB.out k hlt' rfl
        have hml := HML.out rfl
        obtain ⟨b, off, rfl, hb, hc4⟩ := (HRM.out).form (by omega)
        have h4 := (at4_el (hc4 k hlt))
        have hln := HRE.out.2 k hlt hlt'
        have HY := Lib.hid (fun h1 h2 => HYES.out k hlt' rfl h1 h2)
        have HFN : Hid (Iq.free [m0, m1, m2, m3, m4] ls[k] = false → ∀ j (hj : j < ls.length), j < k + 1 → Iq.free [m0, m1, m2, m3, m4] ls[j] = false) := fun h j hj hjk => by
          by_cases e : j = k
          · subst e; exact h
          · exact HN.out j hj (by omega)
        generalize hek : es[k] = x at *
        obtain ⟨d, t, n, ad, m, c⟩ := x
        generalize hlk : ls[k] = y at *
        obtain ⟨d2, t2, n2, ys⟩ := y
        obtain ⟨e1, e2, e3, e4⟩ := hln
        simp only at e1 e2 e3 e4 h4 hbd
        subst e1 e2 e3
        obtain ⟨D, rfl⟩ : ∃ D : Nat, d = D := ⟨d.toNat, by omega⟩
        have f1 : (0 : Int) ≤ (k : Int) := by omega
        have f2 : (k : Int) < (es.length : Int) := by omega
        have f3 : (0 : Int) ≤ (D : Int) := by omega
        have f4 : (D : Int) < (5 : Int) := by omega
        have hfr : Iq.free [m0, m1, m2, m3, m4] ((D : Int), t, n, ys) = !([m0, m1, m2, m3, m4].getD D false) := rfl
        have pD : ∀ W, TK w 25 37 m0 m1 m2 m3 m4 (.slice (some ⟨b, off, none⟩) es.length cap) W → W.cell? ⟨w.heap.size, D, none⟩ = some (.bool ([m0, m1, m2, m3, m4].getD D false)) := fun W h => (h.b0.cell D).trans (stC_at _ _ _ _ _ _ D (by omega))
        have HPD := Lib.hid pD
        have HHK := Lib.hid hek
        have HLK := Lib.hid hlk
        clear pD hbd hc4 hek hlk
        generalize [m0, m1, m2, m3, m4].getD D false = fr at *
        have HFR := Lib.hid hfr
        clear hfr
        cases fr with
        | true =>
          have HNN := Lib.hid (HFN.out (by rw [HFR.out]; rfl))
          clear hT HY
          go_wp2_with (go_at_call 12; refine (HV.out _ HT.out.low).mono ?_; rintro e w1 ⟨rfl, hb1⟩; have hk1 := HT.out.step hb1; have p51 := hk1.b0.box.p5; have pD1 := HPD.out _ hk1; obtain ⟨c0, c1, c2, c3⟩ := h4.below hk1.low hb; have hs0 := hk1.b0.lt)
          have hk2 := hk1.step (low_alloc w1 (.cells #[.int .i64 (D : Int), .int .i64 t, .int .i64 n, .slice ad m c] 37 (0, 0)))
          go_roundw
          case rel => exact ⟨k + 1, by go_num, by omega, HNN.out, (fun h => by cases h), hk2⟩
          case measure => simp [intOf]; omega
        | false =>
          have hz := HY.out HN.out (by rw [HFR.out]; rfl)
          subst hz
          clear hT HY
          obtain ⟨ad2, hA⟩ : ∃ ad2, (if cap = k + 1 then some (⟨b, off, none⟩ : Addr) else some ⟨b, off + (k + 1) * 4, none⟩) = ad2 := ⟨_, rfl⟩
          have HR2 : Hid (∀ W, Below w.heap.size w W → Rm 4 el W ad2 (es.drop (k + 1))) := fun W hW => by
            by_cases h : cap = k + 1
            · have : es.drop (k + 1) = [] := List.drop_eq_nil_iff.2 (by omega)
              rw [this]; exact Rm.nil _ _
            · rw [if_neg h] at hA
              subst hA
              exact (HRM.out.drop (k + 1)).below hW (Nat.le_refl _)
          have HR1 : Hid (∀ W, Below w.heap.size w W → Rm 4 el W (some ⟨b, off, none⟩) (es.take k)) := fun W hW => (HRM.out.take k).below hW (Nat.le_refl _)
          have HAN : Hid (ad2 = none → cap - (k + 1) = 0) := fun h => by
            split at hA
            · omega
            · rw [h] at hA; cases hA
          have f5 : (k : Int) ≤ (cap : Int) := by omega
          have f6 : (0 : Int) ≤ (k : Int) + 1 := by omega
          have f7 : ((k : Int) + 1).toNat = k + 1 := by omega
          have f8 : (k : Int) + 1 ≤ (es.length : Int) := by omega
          have f10 : IntKind.i64.wrap ((k : Int) + 1) = (k : Int) + 1 := IntWalk.i64_in _ (by omega)
          have f9 : (es.length : Int) ≤ (cap : Int) := by omega
          have HTK : Hid ((es.take k).length = k) := by show _ = _; rw [List.length_take]; omega
          have HDK : Hid ((es.drop (k + 1)).length = es.length - (k + 1)) := by show _ = _; rw [List.length_drop]
          go_upto_region 6 with (go_at_call 12; refine (HV.out _ HT.out.low).mono ?_; rintro e w1 ⟨rfl, hb1⟩; have hk1 := HT.out.step hb1; have p51 := hk1.b0.box.p5; have pD1 := HPD.out _ hk1; obtain ⟨c0, c1, c2, c3⟩ := h4.below hk1.low hb; have hs0 := hk1.b0.lt)
          have hs2 := hk1.b2.lt
          have hT4 := hk1.step (low_alloc w1 (.cells #[.int .i64 (D : Int), .int .i64 t, .int .i64 n, .slice ad m c] 37 (0, 0)))
          have hK6 : Bk (w1.alloc (.cells #[.int .i64 (D : Int), .int .i64 t, .int .i64 n, .slice ad m c] 37 (0, 0))) w1.heap.size 37 [.int .i64 (D : Int), .int .i64 t, .int .i64 n, .slice ad m c] := Bk.new w1 _ [_, _, _, _]
          generalize w1.alloc (.cells #[.int .i64 (D : Int), .int .i64 t, .int .i64 n, .slice ad m c] 37 (0, 0)) = W4 at *
          generalize w1.heap.size = b6 at *
          clear hb1 hk1 p51 pD1 c0 c1 c2 c3 hs0 HT p0 p1 p2 p3 p4 p5
          have HT4 : Hid (∀ W, Below W4.heap.size W4 W → TK w 25 37 m0 m1 m2 m3 m4 (.slice (some ⟨b, off, none⟩) es.length cap) W ∧ Bk W b6 37 [.int .i64 (D : Int), .int .i64 t, .int .i64 n, .slice ad m c]) := fun W hW => ⟨hT4.step hW, hK6.below hW hK6.lt⟩
          have p5 := hT4.b0.box.p5
          have hs40 := hT4.b0.lt
          have hs46 := hK6.lt
          have HLOW4 := Lib.hid hT4.low
          have HFIN : Hid (∀ (w7 : World) (v7 : Value), w7.ownsRow W4.heap.size 37 4 v7 (k + (es.length - (k + 1))) ((es.take k ++ es.drop (k + 1)).flatMap el) → ∀ W9, (∀ b, b ≠ w.heap.size → b ≠ w.heap.size + 1 → b ≠ w.heap.size + 1 + 1 → W9.heap[b]? = w7.heap[b]?) → Below w.heap.size w W9 → Lp W9 v7 (ls.eraseIdx k) ∧ Sl eb W9 (.slice ad m c) ys) := fun w7 v7 ho W9 hk9 hlow9 => by
            have h1 : w.heap.size + 1 + 1 < W4.heap.size := hT4.b2.lt
            have ho9 := own_keep4 (w' := W9) ho fun g hg => hk9 g (by have := (ho.lt g hg).1; omega) (by have := (ho.lt g hg).1; omega) (by have := (ho.lt g hg).1; omega)
            have hl : (es.take k ++ es.drop (k + 1)).length = k + (es.length - (k + 1)) := by rw [List.length_append, HTK.out, HDK.out]
            refine ⟨⟨_, Sm.ofOwn el_len ho9 hl.symm, ?_⟩, e4.below hlow9 (Nat.le_refl _)⟩
            rw [← List.eraseIdx_eq_take_drop_succ]
            exact (HRE.out.erase k).below hlow9 (Nat.le_refl _)
          clear hT4 hK6 HN HNO HBAD HYES HPB HML HFN HPD HFR HV0 HV
          go_cut [] (fun W => ∃ a7 c7, TK w 25 37 m0 m1 m2 m3 m4 (.slice a7 (k + (es.length - (k + 1))) c7) W ∧ Bk W b6 37 [.int .i64 (D : Int), .int .i64 t, .int .i64 n, .slice ad m c] ∧ Hid (∀ W9 : World, (∀ b, b ≠ w.heap.size → b ≠ w.heap.size + 1 → b ≠ w.heap.size + 1 + 1 → W9.heap[b]? = W.heap[b]?) → Below w.heap.size w W9 → Lp W9 (.slice a7 (k + (es.length - (k + 1))) c7) (ls.eraseIdx k) ∧ Sl eb W9 (.slice ad m c) ys))
          case first =>
            go_region_law ((first
              | (have _t := tokA; refine step_append_m el el_len (by omega) el_one (by rfl) (.tmp 34) (.tmp 39) 23 (by rfl) W4.heap.size 37 i0 (.agg #[.int .i64 0, .int .i64 0, .int .i64 0, .slice none 0 0]) 48 Try.underlying23 hi hz0 hz1 hz2 rfl _ k (es.take k) (by rfl) ho6 ad2 (cap - (k + 1)) (es.drop (k + 1)) (es.length - (k + 1)) (by rfl) HDK.out HAN.out (by omega) (HR2.out _ (stepAny HLOW4.out hl6)) (by unfold maxLen; omega) (by omega) (by exact hl6.size) ?_; intro v7 w7 ho7 hs7 hb7; obtain ⟨a7, c7, rfl⟩ := own_slice4 ho7; have hl7 : Below W4.heap.size W4 w7 := hl6.trans hb7; obtain ⟨hT7, hK7⟩ := HT4.out w7 hl7; have r57 := hT7.b0.box.p5; have z57 := hT7.b0.box.z5)
              | (refine step_append_m el el_len (by omega) el_one (by rfl) (.tmp 29) (.tmp 33) 23 (by rfl) W4.heap.size 37 i0 (.agg #[.int .i64 0, .int .i64 0, .int .i64 0, .slice none 0 0]) 48 Try.underlying23 hi hz0 hz1 hz2 rfl (.slice (some ⟨W4.heap.size, 0, none⟩) 0 0) 0 [] (by rfl) (own_new rfl (Nat.le_refl _)) (some ⟨b, off, none⟩) cap (es.take k) k (by rfl) HTK.out (by simp) (by omega) (HR1.out _ (stepAny HLOW4.out ((low_drew W4).alloc (Nat.le_refl _) _))) (by unfold maxLen; omega) (by omega) (by first | (simp; done) | (simp; omega)) ?_; intro v6 w6 ho6 hs6 hb6; rw [Nat.zero_add, List.nil_append] at ho6; obtain ⟨a6, c6, rfl⟩ := own_slice4 ho6; have hl6 : Below W4.heap.size W4 w6 := ((low_drew W4).alloc (Nat.le_refl _) _).trans hb6; obtain ⟨hT6, hK66⟩ := HT4.out w6 hl6; have r56 := hT6.b0.box.p5; have tokA := True.intro)))
            all_goals
              have HF7 := Lib.hid (HFIN.out w7 _ ho7)
              have hT8 := hT7.set5 (.slice a7 (k + (es.length - (k + 1))) c7)
              have hK8 := hK7.far (p := ⟨w.heap.size, 5, none⟩) (by simp; omega) (.slice a7 (k + (es.length - (k + 1))) c7)
              go_wp2_with fail
              go_meet
              exact ⟨_, _, hT8, hK8, fun W9 hW9 hlow => HF7.out W9 (fun g h1 h2 h3 => (hW9 g h1 h2 h3).trans (Below.heap_setCell _ _ _ _ h1)) hlow⟩
          case rest =>
            obtain ⟨a7, c7, hT8, hK8, HF8⟩ := hcut
            obtain ⟨s0, s1, s2, s3, s4, s5, -⟩ := hT8.b0.box
            obtain ⟨x0, x1, x2, x3, -⟩ := hK8.box4
            obtain ⟨o0, o1, o2, o3, o4, o5, z0, z1, z2, z3, z4, z5⟩ := hT8.b1.box
            obtain ⟨q0, q1, q2, q3, y3⟩ := hT8.b2.box4
            have y0 := hT8.b2.frozen 0
            have y1 := hT8.b2.frozen 1
            have y2 := hT8.b2.frozen 2
            have HT8 := Lib.hid hT8
            clear hT8 hK8
            go_wp2_with fail
            go_region
            all_goals (try go_wp2)
            have hlow := (set4 (set6 HT8.out.low (b := w.heap.size + 1) (by omega) (.bool m0) (.bool m1) (.bool m2) (.bool m3) (.bool m4) (.slice a7 (k + (es.length - (k + 1))) c7)) (b := w.heap.size + 1 + 1) (by omega) (.int .i64 (D : Int)) (.int .i64 t) (.int .i64 n) (.slice ad m c)).drew
            have hfin := HF8.out _ (fun b _ h1 h2 => (drew_heap _ b).trans ((set4_heap h2 _ _ _ _).trans (set6_heap h1 _ _ _ _ _ _))) hlow
            exact bodyPost_ret (v := .tuple #[.agg #[.bool m0, .bool m1, .bool m2, .bool m3, .bool m4, .slice a7 (k + (es.length - (k + 1))) c7], .agg #[.int .i64 (D : Int), .int .i64 t, .int .i64 n, .slice ad m c], .bool true]) (by simp [results, Try.results21, go_sem, o0, o1, o2, o3, o4, o5, q0, q1, q2, q3]) rfl ⟨m0, m1, m2, m3, m4, _, _, rfl, rfl, hfin.1, hfin.2, hlow⟩
    · obtain rfl : k = es.length := by omega
      have hz : r = (Iq.zst, Iq.zln, false) := by
        cases V with
        | false => exact HBAD.out rfl
        | true => exact HNO.out (fun j hj => HN.out j hj (by have := HLE.out; omega)) rfl
      subst hz
      obtain ⟨p0, p1, p2, p3, p4, p5', z0, z1, z2, z3, z4, z5⟩ := hT.b1.box
      obtain ⟨q0, q1, q2, q3, y3⟩ := hT.b2.box4
      have y0 := hT.b2.frozen 0
      have y1 := hT.b2.frozen 1
      have y2 := hT.b2.frozen 2
      clear hT
      go_wp2
      refine bodyPost_ret (v := .tuple #[.agg #[.bool false, .bool false, .bool false, .bool false, .bool false, .slice none 0 0], .agg #[.int .i64 0, .int .i64 0, .int .i64 0, .slice none 0 0], .bool false]) (by simp [results, Try.results21, go_sem, p0, p1, p2, p3, p4, p5', q0, q1, q2, q3]) rfl (RetTR.zero ?_)
      exact set4 (set6 HT.out.low (by omega) _ _ _ _ _ _) (by omega) _ _ _ _
end Go.Proofs.Ytehniblcodkmaaa
