/-
  The walk of the law JournalRead.
-/
import Derived.Test.YtcbgablnbgpjdaaArgs
import Derived.Test.YtcbgablnbgpjdaaJc
namespace Go.Proofs.Ytcbgablnbgpjdaa
open Go.RowKit

theorem RetRec.at {d : List UInt8} {W w' : World} {e : Ending} {r : List UInt8} {q : Bool} {c : Int} (h : RetRec d W e w') (hr : Jr.recover d = (r, q, c)) : ∃ a k, e = .returned (.tuple #[.slice a r.length k, .bool q, .int .i64 c]) ∧ w'.ownsRow W.heap.size 5 1 (.slice a r.length k) r.length (r.map eb) ∧ Below W.heap.size W w' := by
  unfold RetRec at h
  rw [hr] at h
  obtain ⟨v, h1, h2, h3⟩ := h
  obtain ⟨a, k, rfl⟩ := own_slice h2
  exact ⟨a, k, h1, h2, h3⟩

/-- One cell of a row of bytes is written. -/
theorem own_store8 {w : World} {base g n cap i : Nat} {xs : List UInt8} {c : UInt8} (h : w.ownsRow base 5 1 (.slice (some ⟨g, 0, none⟩) n cap) n (xs.map eb)) : (w.setCell ⟨g, i, none⟩ (eb c)).ownsRow base 5 1 (.slice (some ⟨g, 0, none⟩) n cap) n ((xs.set i c).map eb) := by
  obtain ⟨h1, h2, h3, cur, h4, h5, h6⟩ := own_bk' h
  have h7 := bk_own (n := n) h1 h2 h3 (h4.set i (eb c)) (by rw [List.length_set]; exact h5)
  rw [List.take_set, h6, ← List.map_set] at h7
  exact h7
theorem own_cell8 {w : World} {base g n cap i : Nat} {xs : List UInt8} (h : w.ownsRow base 5 1 (.slice (some ⟨g, 0, none⟩) n cap) n (xs.map eb)) (hi : i < xs.length) (hn : xs.length = n) : w.cell? ⟨g, i, none⟩ = some (eb xs[i]) ∧ w.frozen? ⟨g, i, none⟩ = false := by
  obtain ⟨h1, h2, h3, cur, h4, h5, h6⟩ := own_bk' h
  refine ⟨?_, h4.frozen i⟩
  rw [h4.cell]
  have e : (cur.take n)[i]? = (xs.map eb)[i]? := by rw [h6]
  rw [List.getElem?_take, if_pos (by omega), List.getElem?_map, List.getElem?_eq_getElem hi] at e
  exact e

theorem Jr.read_len (d : List UInt8) : (Jr.read d).2.1.length ≤ 11 := by
  rw [← Jr.pread_eq]
  unfold Jr.pread
  split
  · simp
  · split
    · simp
    · split
      · simp
      · rename_i h1 h2 h3
        rw [show (Jr.seqOf d, Jr.logged d (Jr.cnt (Jr.blk d 1)), (0 : Int)).2.1 = Jr.logged d (Jr.cnt (Jr.blk d 1)) from rfl, Jr.logged_len]
        have hf : Jr.formOk (Jr.blk d 1) = true := by simpa using h2
        unfold Jr.formOk Jr.leadOk at hf
        simp only [Bool.and_eq_true, Bool.or_eq_true, decide_eq_true_eq] at hf
        omega

set_option maxRecDepth 100000 in
set_option maxHeartbeats 4000000 in
theorem lread_w {v0 v1 : Value} {w : World} (o0 : IsSp w v0) (o1 : IsChg w v1) : Calls Try.prog 6 #[v0, v1] w fun e w' => e = .returned (.bool true) ∧ Below w.heap.size w w' := by
  obtain ⟨⟨bl, seq, lg⟩, u1, u2, rfl, hw1, hw2, hq0, hq1⟩ := o0
  obtain ⟨n, c, rfl, hn⟩ := o1
  simp only at hw1 hw2 hq0 hq1
  obtain ⟨a1, c1, rfl⟩ := hw1.slice
  obtain ⟨a2, c2, rfl⟩ := hw2.slice
  obtain ⟨W1, hW1⟩ : ∃ W1, W1 = (w.alloc (.cells #[.slice a1 bl.length c1, .int .u32 seq, .slice a2 lg.length c2] 25 (0, 0))).alloc (.cells #[.int .u16 n, eb c] 44 (0, 0)) := ⟨_, rfl⟩
  have hs1 : W1.heap.size = w.heap.size + 2 := by rw [hW1]; simp
  have hbx : Bk W1 w.heap.size 25 [.slice a1 bl.length c1, .int .u32 seq, .slice a2 lg.length c2] := by rw [hW1]; exact (Bk.new w _ [_, _, _]).alloc _
  have hbc : Bk W1 (w.heap.size + 1) 44 [.int .u16 n, eb c] := by rw [hW1]; exact Bk.newAt _ _ [_, _] (by simp)
  have hlow1 : Below w.heap.size w W1 := by rw [hW1]; exact (low_alloc _ _).alloc (by simp) _
  have HLW : Hid (∀ W, Below W1.heap.size W1 W → Below w.heap.size w W) := fun W hW => stepAny hlow1 hW
  have HQ : Hid (∀ W, Below W1.heap.size W1 W → W.cell? ⟨w.heap.size, 0, none⟩ = some (.slice a1 bl.length c1) ∧ W.cell? ⟨w.heap.size, 1, none⟩ = some (.int .u32 seq) ∧ W.cell? ⟨w.heap.size, 2, none⟩ = some (.slice a2 lg.length c2) ∧ W.cell? ⟨w.heap.size + 1, 0, none⟩ = some (.int .u16 n) ∧ W.cell? ⟨w.heap.size + 1, 1, none⟩ = some (.int .u8 (c.toNat : Int))) := fun W hW => by
    have h := hbx.below hW (by omega)
    have h2 := hbc.below hW (by omega)
    exact ⟨h.cell 0, h.cell 1, h.cell 2, h2.cell 0, h2.cell 1⟩
  have HFW : Hid (∀ W, Below W1.heap.size W1 W → Calls Try.prog 11 #[.agg #[.slice a1 bl.length c1, .int .u32 seq, .slice a2 lg.length c2]] W fun e w' => e = .returned (.bool (Jr.few (bl, seq, lg))) ∧ Below W.heap.size W w') := fun W hW =>
    few_w ⟨_, _, rfl, hw1.below (HLW.out W hW) (Nat.le_refl _), hw2.below (HLW.out W hW) (Nat.le_refl _), hq0, hq1⟩
  have HDW : Hid (Jr.few (bl, seq, lg) = true → ∀ W, Below W1.heap.size W1 W → Calls Try.prog 13 #[.agg #[.slice a1 bl.length c1, .int .u32 seq, .slice a2 lg.length c2]] W (RetDisk (bl, seq, lg) W)) := fun hf W hW => by
    unfold Jr.few Jr.short at hf
    simp only [Bool.and_eq_true, decide_eq_true_eq] at hf
    exact rdisk_w (hw1.below (HLW.out W hW) (Nat.le_refl _)) (hw2.below (HLW.out W hW) (Nat.le_refl _)) hq0 hq1 (by omega) (by omega)
  unfold RetDisk at HDW
  have HDL := Lib.hid (Jr.disk_length (bl, seq, lg))
  have HAW := Lib.hid (fun W => awake_w W)
  generalize Jr.disk (bl, seq, lg) = D at *
  have HW1 := Lib.hid hW1
  clear hw1 hw2 hbx hbc hlow1 hW1
  go_enter Try.func6, Try.ntmps6
  go_upto_region 1 with fail
  rw [← HW1.out]
  go_upto_region 3 with (go_at_call 10; (with_reducible refine (HAW.out _).mono ?_); rintro e w2 ⟨rfl, hb2⟩)
  obtain ⟨y0, y1, y2, y3, y4⟩ := HQ.out w2 hb2
  have HB2 := Lib.hid hb2
  clear hb2
  cases hf : Jr.few (bl, seq, lg) with
  | false =>
    rw [hf] at HFW
    clear hf
    go_wp2_with (go_at_call 11; (with_reducible refine (HFW.out _ HB2.out).mono ?_); rintro e w3 ⟨rfl, hb3⟩)
    go_ret
    exact ⟨rfl, HLW.out _ (stepAny HB2.out hb3)⟩
  | true =>
    have HDW2 := Lib.hid (HDW.out hf)
    rw [hf] at HFW
    clear hf
    go_upto_region 5 with (go_at_call 11; (with_reducible refine (HFW.out _ HB2.out).mono ?_); rintro e w3 ⟨rfl, hb3⟩)
    have hb13 := stepAny HB2.out hb3
    clear y0 y1 y2 y3 y4
    obtain ⟨y0, y1, y2, y3, y4⟩ := HQ.out w3 hb13
    have HB3 := Lib.hid hb13
    clear hb3 hb13
    go_upto_region 6 with (go_at_call 13; (with_reducible refine (HDW2.out _ HB3.out).mono ?_); rintro e w4 ⟨g, cg, rfl, ho4, hb4⟩)
    have hb14 := stepAny HB3.out hb4
    clear y0 y1 y2 y3 y4
    obtain ⟨z0, z1, z2, z3, z4⟩ := HQ.out w4.drew hb14.drew
    obtain ⟨i, hi⟩ : ∃ i, n % 12288 = i := ⟨_, rfl⟩
    have hil : i < 12288 := by omega
    have hrem : ((n : Int) % 12288) = (i : Int) := by omega
    obtain ⟨old, hold⟩ : ∃ o, w4.cell? ⟨g, i, none⟩ = some o := ⟨_, (own_cell8 ho4 (by rw [HDL.out]; exact hil) HDL.out).1⟩
    have hfr : w4.frozen? ⟨g, i, none⟩ = false := (own_cell8 ho4 (by rw [HDL.out]; exact hil) HDL.out).2
    have holdd : w4.drew.cell? ⟨g, i, none⟩ = some old := hold
    have hfrd : w4.drew.frozen? ⟨g, i, none⟩ = false := hfr
    have HI := Lib.hid hi
    have f1 : (0 : Int) ≤ (i : Int) := by omega
    have f2 : (i : Int) < 12288 := by omega
    have hw : IntKind.i64.wrap (n : Int) = (n : Int) := IntWalk.i64_in _ (by omega)
    have hrt : (n : Int).tmod 12288 = (i : Int) := by rw [Int.tmod_eq_emod_of_nonneg (by omega)]; exact hrem
    clear hi
    go_region
    all_goals
      go_upto_region 7 with fail
      have ho5 : ((w4.setCell ⟨g, i, none⟩ (.int .u8 (c.toNat : Int))).drew).ownsRow w3.heap.size 5 1 (.slice (some ⟨g, 0, none⟩) 12288 cg) 12288 ((D.set i c).map eb) := own_below (own_store8 ho4) (low_drew _)
      have hb5 : Below w3.heap.size w3 ((w4.setCell ⟨g, i, none⟩ (.int .u8 (c.toNat : Int))).drew) := (hb4.setCell (p := ⟨g, i, none⟩) (ho4.lt g rfl).1 _).drew
      generalize (w4.setCell ⟨g, i, none⟩ (.int .u8 (c.toNat : Int))).drew = W5 at *
      have HDL5 : Hid ((D.set i c).length = 12288) := by show _ = _; rw [List.length_set]; exact HDL.out
      have HLOW5 := Lib.hid (HLW.out _ (stepAny HB3.out hb5))
      have HO5 := Lib.hid ho5
      generalize D.set i c = E at *
      obtain ⟨⟨m, l, ce⟩, hr⟩ : ∃ x, Jr.read E = x := ⟨_, rfl⟩
      obtain ⟨⟨r, q, cr⟩, hrc⟩ : ∃ x, Jr.recover E = x := ⟨_, rfl⟩
      have HLL : Hid (l.length ≤ 11) := by
        have h := Jr.read_len E
        rw [hr] at h
        exact h
      have H1 : Hid (∀ W, Below W5.heap.size W5 W → Calls Try.prog 22 #[.slice (some ⟨g, 0, none⟩) 12288 cg] W fun e w' => ∃ a k, e = .returned (.tuple #[.int .i64 m, .slice a l.length k, .int .i64 ce]) ∧ Wo W.heap.size 63 [] w' (.slice a l.length k) l ∧ Below W.heap.size W w') := fun W hW => (jread_w (own_sl HO5.out hW)).mono fun _ _ h => h.at hr
      have H2 : Hid (∀ W, Below W5.heap.size W5 W → Calls Try.prog 27 #[.slice (some ⟨g, 0, none⟩) 12288 cg] W fun e w' => ∃ a k, e = .returned (.tuple #[.int .i64 m, .slice a l.length k, .int .i64 ce]) ∧ Wo W.heap.size 66 [] w' (.slice a l.length k) l ∧ Below W.heap.size W w') := fun W hW => (rread_w (own_sl HO5.out hW)).mono fun _ _ h => h.at hr
      have H3 : Hid (∀ W, Below W5.heap.size W5 W → Calls Try.prog 28 #[.slice (some ⟨g, 0, none⟩) 12288 cg] W fun e w' => ∃ a k, e = .returned (.tuple #[.slice a r.length k, .bool q, .int .i64 cr]) ∧ w'.ownsRow W.heap.size 5 1 (.slice a r.length k) r.length (r.map eb) ∧ Below W.heap.size W w') := fun W hW => (jrecover_w (own_sl HO5.out hW)).mono fun _ _ h => h.at hrc
      have H4 : Hid (∀ W, Below W5.heap.size W5 W → Calls Try.prog 29 #[.slice (some ⟨g, 0, none⟩) 12288 cg] W fun e w' => ∃ a k, e = .returned (.tuple #[.slice a r.length k, .bool q, .int .i64 cr]) ∧ w'.ownsRow W.heap.size 5 1 (.slice a r.length k) r.length (r.map eb) ∧ Below W.heap.size W w') := fun W hW => (rrecover_w (own_sl HO5.out hW)).mono fun _ _ h => h.at hrc
      clear ho5 hb5 ho4 hb4 hb14 hr hrc hold hfr holdd hfrd z0 z1 z2 z3 z4 hrem hrt hw f1 f2 hil
      go_upto_region 11 with (first
        | (go_at_call 22; (with_reducible refine (H1.out _ (low_refl _)).mono ?_); rintro e w6 ⟨a6, k6, rfl, hl6, hb6⟩)
        | (go_at_call 27; (with_reducible refine (H2.out _ hb6).mono ?_); rintro e w7 ⟨a7, k7, rfl, hl7, hb7⟩; have hb57 := stepAny hb6 hb7)
        | (go_at_call 28; (with_reducible refine (H3.out _ hb57).mono ?_); rintro e w8 ⟨a8, k8, rfl, ho8, hb8⟩; have hb58 := stepAny hb57 hb8)
        | (go_at_call 29; (with_reducible refine (H4.out _ hb58).mono ?_); rintro e w9 ⟨a9, k9, rfl, ho9, hb9⟩; have hb59 := stepAny hb58 hb9))
      have HL6 := Lib.hid (hl6.wp.below (low_trans (low_trans hb7 hb8) hb9) (Nat.le_refl _))
      have HL7 := Lib.hid (hl7.wp.below (low_trans hb8 hb9) (Nat.le_refl _))
      have HO8 := Lib.hid (own_below ho8 hb9)
      have HO9 := Lib.hid ho9
      have HB9 := Lib.hid (stepAny HLOW5.out hb59)
      clear hl6 hl7 ho8 ho9 hb6 hb7 hb8 hb9 hb57 hb58 hb59
      have HFR := Lib.hid (from_w HL6.out (by have := HLL.out; omega))
      go_wp2_with (first
        | (go_at_call 18; (with_reducible refine HFR.out.mono ?_); rintro e w10 ⟨v10, rfl, hl10, hb10⟩)
        | (go_at_call 17; refine (rsame_t hl10.wp (HL7.out.below hb10 (Nat.le_refl _))).mono ?_; rintro e w11 ⟨rfl, hb11⟩; have hb911 := low_trans hb10 hb11; have hc1 := conv_sl (own_sl HO8.out hb911); have hc2 := conv_sl (own_sl HO9.out hb911)))
      go_ret
      exact ⟨rfl, stepAny HB9.out hb911⟩
end Go.Proofs.Ytcbgablnbgpjdaa
