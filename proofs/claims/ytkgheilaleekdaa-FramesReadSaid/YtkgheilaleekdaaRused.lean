/-
  The walks of the reference's Used and New.
-/
import Derived.Test.YtkgheilaleekdaaUsed
namespace Go.Proofs.Ytkgheilaleekdaa
open Go.RowKit

theorem lowAlloc (w : World) (o : Obj) : Below w.heap.size w (w.alloc o) := (Below.refl _ w).alloc (Nat.le_refl _) o

/-- make([]byte, 128): a block of zeros, its cells under a name. -/
theorem make128 : ∃ Z : List Value, Z = List.replicate 128 (.int .u8 0) ∧ ∀ W : World, (Instr.makeSlice 27 (.int .i64 128) (.int .i64 128)).run Try.prog W = .ok (.slice (some ⟨W.heap.size, 0, none⟩) 128 128) (W.alloc (.cells Z.toArray 5 (0, 0))) := by
  obtain ⟨i5, hi5, hz5, hs5, hb5⟩ := info_parts Try.info5
  refine ⟨_, rfl, fun W => ?_⟩
  have h := run_make (P := Try.prog) W 27 5 i5 (.int .u8 0) Try.underlying27 hi5 hz5 .i64 .i64 128 128 (by decide) (by decide) (by rw [hb5]; decide) (by decide)
  rw [hs5] at h
  rw [← toList_made]
  exact h

theorem sl_zeros {w : World} {g : Nat} {Z : List Value} (hZ : Z = List.replicate 128 (.int .u8 0)) (h : Bk w g 5 Z) : Sl eb w (.slice (some ⟨g, 0, none⟩) 128 128) Fr.zeros := by
  refine ⟨some ⟨g, 0, none⟩, 128, by rw [Fr.zeros_len], by rw [Fr.zeros_len]; exact Nat.le_refl _, by simp [maxLen], by simp, fun i hi => ⟨g, 0, rfl, h.lt, ?_⟩⟩
  rw [Nat.zero_add, h.cell, hZ, List.getElem?_replicate, if_pos (by rw [Fr.zeros_len] at hi; exact hi), Fr.zeros_get]
  rfl

set_option maxRecDepth 20000 in
set_option maxHeartbeats 1600000 in
theorem rused_w {v : Value} {ps : List (List UInt8)} {w : World} (hv : Pg w v ps) :
    Calls Try.prog 26 #[.agg #[v]] w fun e w' => ∃ v', e = .returned v' ∧ Sl ei w' v' (Fr.used ps) ∧ Below w.heap.size w w' := by
  have HV := Lib.hid hv
  have HC : Hid (∀ w', Below w.heap.size w w' → Calls Try.prog 16 #[.agg #[v]] w' fun e w'' => e = .returned (.bool (Fr.valid ps)) ∧ Below w'.heap.size w' w'') := fun w' hb => rvalid_w (hv.below hb (Nat.le_refl _))
  obtain ⟨a, cap, rfl, hcc, hcm, hna, -⟩ := hv.open
  unfold maxLen at hcm
  cases hva : Fr.valid ps with
  | false =>
    have HE : Hid (Fr.used ps = []) := by show _ = _; unfold Fr.used; rw [hva]; rfl
    rw [hva] at HC
    clear hva hv
    go_enter Try.func26, Try.ntmps26
    go_wp2
    go_loopw [3, 4] (fun s3 s4 wr => s3 = .slice none 0 0 ∧ s4 = .int .i64 0 ∧ Below (w.alloc (.cells #[.slice a ps.length cap] 24 (0, 0))).heap.size (w.alloc (.cells #[.slice a ps.length cap] 24 (0, 0))) wr) (fun _ _ _ => 0)
    case atStart => exact ⟨rfl, rfl, Below.refl _ _⟩
    case round =>
      obtain ⟨rfl, rfl, hbr⟩ := hrel
      obtain ⟨hbw, k0⟩ := box1 hbr
      by_cases h0 : 0 < ps.length
      · have f1 : (0 : Int) < (ps.length : Int) := by omega
        go_wp2_with (go_at_call 16; refine (HC.out _ hbw).mono ?_; rintro e w1 ⟨rfl, hb1⟩)
        go_ret
        rw [HE.out]
        exact ⟨_, rfl, Sl.nil _ _, hbw.trans (hb1.mono hbw.size)⟩
      · go_wp2
        go_ret
        rw [HE.out]
        exact ⟨_, rfl, Sl.nil _ _, hbw⟩
  | true =>
    have HE : Hid (Fr.used ps = Fr.usedTo ps 96) := by show _ = _; unfold Fr.used; rw [if_pos hva]
    obtain ⟨hl, hpl⟩ := Fr.valid_iff.1 hva
    rw [hva] at HC
    have HL := Lib.hid hl
    have HPL := Lib.hid hpl
    obtain ⟨i0, hi, hz0, hz1, hz2⟩ := info_parts Try.info3
    obtain ⟨Z, hZ, hmk⟩ := make128
    have HZ := Lib.hid hZ
    rw [hl] at HC hcc ⊢
    clear hva hv hl hpl hZ
    go_enter Try.func26, Try.ntmps26
    go_wp2
    go_loopw [3, 4] (fun s3 s4 wr => ∃ (k : Nat) (a3 : Option Addr) (c3 : Nat) (L : List Nat), s4 = .int .i64 k ∧ k ≤ 96 ∧ s3 = .slice a3 L.length c3 ∧ Hid (L = Fr.usedTo ps k) ∧ L.length ≤ k ∧ wr.ownsRow (w.heap.size + 1) 3 1 (.slice a3 L.length c3) L.length (L.map ei) ∧ Below (w.alloc (.cells #[.slice a 96 cap] 24 (0, 0))).heap.size (w.alloc (.cells #[.slice a 96 cap] 24 (0, 0))) wr) (fun _ s4 _ => 96 - (intOf s4).toNat)
    case atStart => exact ⟨0, none, 0, [], rfl, Nat.zero_le _, rfl, rfl, Nat.le_refl _, ⟨by simp, .inl ⟨rfl, rfl⟩⟩, Below.refl _ _⟩
    case round =>
      obtain ⟨k, a3, c3, L, rfl, hk, rfl, HK, hLk, hO, hbr⟩ := hrel
      obtain ⟨hbw, k0⟩ := box1 hbr
      by_cases hlt : k < 96
      · have hkp : k < ps.length := by rw [HL.out]; exact hlt
        have f1 : (0 : Int) ≤ (k : Int) := by omega
        have f2 : (k : Int) < 96 := by omega
        go_wp2_with (go_at_call 16; refine (HC.out _ hbw).mono ?_; rintro e w1 ⟨rfl, hb1⟩; obtain ⟨hbw1, k1⟩ := box1 (hbr.trans (hb1.mono hbr.size)))
        have hO1 : w1.ownsRow (w.heap.size + 1) 3 1 (.slice a3 L.length c3) L.length (L.map ei) := by
          refine ⟨hO.1, hO.2.elim .inl ?_⟩
          rintro ⟨g, cp, cur, e1, e2, e3, e4⟩
          exact .inr ⟨g, cp, cur, e1, e2, (hb1.block g (Array.getElem?_eq_some_iff.1 e3).1).trans e3, e4⟩
        have hbr1 := hbr.trans (hb1.mono hbr.size)
        have hs1 : w.heap.size < w1.heap.size := by have := hbr1.size; simp at this; omega
        have hs2 : w1.heap.size ≠ w.heap.size := by omega
        obtain ⟨b, off, a', c', rfl, hb, hck, p1, p2, p3, p4⟩ := (HV.out.below hbw1 (Nat.le_refl _)).el k hkp
        have hpl := HPL.out k hkp
        have HSB : Hid (∀ W g, Below w1.heap.size w1 W → Bk W g 5 Z → Calls Try.prog 15 #[.slice a' 128 c', .slice (some ⟨g, 0, none⟩) 128 128] W fun e w' => e = .returned (.bool (decide (ps[k] = Fr.zeros))) ∧ Below W.heap.size W w') := fun W g hW hg =>
          sameBytes_w ⟨a', c', by rw [hpl], p1, p2, p3, p4.below hW (Nat.le_refl _)⟩ (sl_zeros HZ.out hg)
        have HU := Lib.hid (Fr.usedTo_succ ps k)
        have hgd : ps.getD k [] = ps[k] := by simp [List.getD, hkp]
        rw [hgd, Fr.any_zeros hpl] at HU
        rw [hpl] at hck
        have k1d : w1.drew.cell? ⟨w.heap.size, 0, none⟩ = some (.slice (some ⟨b, off, none⟩) 96 cap) := k1
        have ckd : w1.drew.cell? ⟨b, off + k, none⟩ = some (.slice a' 128 c') := hck
        have hs3 : w1.heap.size ≠ b := by omega
        generalize hdz : decide (ps[k] = Fr.zeros) = y at *
        clear p4 hgd hdz hO hb1 hbr hbw k0 hpl
        go_region_held3 (fun w' => w'.cell? ⟨w.heap.size, 0, none⟩ = some (.slice (some ⟨b, off, none⟩) 96 cap) ∧ w'.cell? ⟨b, off + k, none⟩ = some (.slice a' 128 c')) (first | go_keep | exact ⟨by assumption, by assumption⟩) ((first
          | (go_at_call 15; refine (HSB.out _ _ (by first | exact (lowAlloc w1 _).drew | exact (Below.refl _ w1).drew.alloc (Nat.le_refl _) _) (by first | exact Bk.newAt w1 _ Z rfl)).mono ?_; rintro e w2 ⟨rfl, hb2⟩; have hl2 : Below w1.heap.size w1 w2 := (lowAlloc w1 _).trans ((show Below w1.heap.size (w1.alloc (.cells Z.toArray 5 (0, 0))) w2 from ⟨hb2.os, hb2.tape, hb2.output, hb2.size, fun k hk => hb2.block k (by simp; omega)⟩)); have q1 := (hl2.cell (p := ⟨w.heap.size, 0, none⟩) hs1).trans k1; have q2 := (hl2.cell (p := ⟨b, off + k, none⟩) hb).trans hck)))
        have hO2 : w2.ownsRow (w.heap.size + 1) 3 1 (.slice a3 L.length c3) L.length (L.map ei) := by
          refine ⟨hO1.1, hO1.2.elim .inl ?_⟩
          rintro ⟨g, cp, cur, e1, e2, e3, e4⟩
          exact .inr ⟨g, cp, cur, e1, e2, (hl2.block g (Array.getElem?_eq_some_iff.1 e3).1).trans e3, e4⟩
        have hbr2 := hbr1.trans (hl2.mono hbr1.size)
        have hs4 : w.heap.size + 1 ≤ w2.heap.size := by have := hl2.size; omega
        cases y with
        | false =>
          have HN : Hid (L ++ [k] = Fr.usedTo ps (k + 1)) := by show _ = _; rw [HU.out, HK.out]; rfl
          clear HU HK hO1
          go_wp2_with (at_builtin; refine wpList_append_rd ei (fun _ => rfl) rfl (.tmp 24) (.tmp 26) 48 rfl (w.heap.size + 1) 3 i0 (.int .i64 0) 8 Try.underlying48 hi hz0 hz1 hz2 rfl _ L.length L rfl (hO2.alloc _) (some ⟨w2.heap.size, 0, none⟩) 1 [k] 1 rfl rfl (by simp) (by omega) (Rd.one _ _ _ _ _) (by unfold maxLen; omega) (by omega) (by simp; omega) ?_; intro v2 w3 ho2 hs2 hb3; obtain ⟨a2, c2, rfl⟩ := own_slice ho2)
          have hbr3 : Below (w.alloc (.cells #[.slice (some ⟨b, off, none⟩) 96 cap] 24 (0, 0))).heap.size (w.alloc (.cells #[.slice (some ⟨b, off, none⟩) 96 cap] 24 (0, 0))) w3 := by
            refine (hbr2.alloc hbr2.size (.cells #[.int .i64 k] 3 (0, 0))).trans (hb3.mono (by simp))
          clear hs2 hb3
          go_roundw
          case rel => exact ⟨k + 1, a2, c2, L ++ [k], by go_num, by omega, by rw [List.length_append]; rfl, HN, by rw [List.length_append]; show L.length + 1 ≤ k + 1; omega, by rw [List.length_append]; exact ho2, hbr3⟩
          case measure => simp [intOf]; omega
        | true =>
          have HN : Hid (L = Fr.usedTo ps (k + 1)) := by show _ = _; rw [HU.out, HK.out]; simp
          clear HU HK hO1
          go_wp2
          go_roundw
          case rel => exact ⟨k + 1, a3, c3, L, by go_num, by omega, rfl, HN, by omega, hO2, hbr2⟩
          case measure => simp [intOf]; omega
      · obtain rfl : k = 96 := by omega
        have HS := Lib.hid (Sl.ofOwn hO)
        go_wp2
        go_ret
        rw [HE.out, ← HK.out]
        exact ⟨_, rfl, HS.out, hbw⟩
end Go.Proofs.Ytkgheilaleekdaa
