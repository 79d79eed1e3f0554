/-
  The walk of FramesCopy.
-/
import Derived.Test.YtkgheilaleekdaaLkeeps
import Derived.Test.YtkgheilaleekdaaArgs2
namespace Go.Proofs.Ytkgheilaleekdaa
open Go.RowKit

/-- The two boxes of the law (a memory, two numbers) in every later world. -/
def LK2 (w : World) (u : Value) (x y : Int) (W : World) : Prop := Keeps w [(w.heap.size, 24, [u]), (w.heap.size + 1, 59, [.int .i64 x, .int .i64 y])] W
theorem LK2.start (w : World) (u : Value) (x y : Int) : LK2 w u x y ((w.alloc (.cells #[u] 24 (0, 0))).alloc (.cells #[.int .i64 x, .int .i64 y] 59 (0, 0))) :=
  (((Keeps.start w).add 24 [u] rfl).add 59 [.int .i64 x, .int .i64 y] (n := w.heap.size + 1) (by simp)).less (by simp)
theorem LK2.facts {w W : World} {u : Value} {x y : Int} (h : LK2 w u x y W) :
    W.cell? ⟨w.heap.size, 0, none⟩ = some u ∧ W.cell? ⟨w.heap.size + 1, 0, none⟩ = some (.int .i64 x) ∧ W.cell? ⟨w.heap.size + 1, 1, none⟩ = some (.int .i64 y) ∧ w.heap.size < W.heap.size ∧ w.heap.size + 1 < W.heap.size ∧ W.heap.size ≠ w.heap.size ∧ W.heap.size ≠ w.heap.size + 1 ∧ w.heap.size ≠ W.heap.size ∧ w.heap.size + 1 ≠ W.heap.size := by
  have c0 : Bk W w.heap.size _ [u] := h.2 _ (.head _)
  have c1 : Bk W (w.heap.size + 1) _ [.int .i64 x, .int .i64 y] := h.2 _ (.tail _ (.head _))
  exact ⟨c0.cell 0, c1.cell 0, c1.cell 1, c0.lt, c1.lt, Nat.ne_of_gt c0.lt, Nat.ne_of_gt c1.lt, Nat.ne_of_lt c0.lt, Nat.ne_of_lt c1.lt⟩
theorem LK2.low {w W : World} {u : Value} {x y : Int} (h : LK2 w u x y W) : Below w.heap.size w W := h.1
theorem LK2.step {w W W' : World} {u : Value} {x y : Int} (h : LK2 w u x y W) (hb : Below W.heap.size W W') : LK2 w u x y W' := Keeps.step h hb
theorem LK2.alloc {w W : World} {u : Value} {x y : Int} (h : LK2 w u x y W) (o : Obj) : LK2 w u x y (W.alloc o) := Keeps.alloc h o

theorem u8_succ (b : UInt8) : IntKind.u8.wrap ((b.toNat : Int) + 1) = ((b + 1).toNat : Int) := by
  have h := b.toNat_lt
  simp only [IntKind.wrap, IntKind.bits, IntKind.signed, Bool.false_and, UInt8.toNat_add]
  simp

set_option maxRecDepth 20000 in
set_option maxHeartbeats 1600000 in
theorem lcopy_w {w : World} {v0 v1 v2 : Value} (h0 : IsMem w v0) (h1 : IsInts2 w v1) (h2 : IsU8 w v2) :
    Calls Try.prog 9 #[v0, v1, v2] w fun e w' => e = .returned (.bool true) ∧ Below w.heap.size w w' := by
  obtain ⟨u, ps, rfl, hv⟩ := h0
  obtain ⟨x, y, rfl, -, -⟩ := h1
  obtain ⟨bb, rfl⟩ := h2
  have HF := Lib.hid (fun w' (hb : Below w.heap.size w w') => rfew_w (hv.below hb (Nat.le_refl _)))
  have HV := Lib.hid hv
  obtain ⟨a, cap, rfl, hcc, hcm, -⟩ := hv.open
  unfold maxLen at hcm
  have hbd := bb.toNat_lt
  have HU := Lib.hid (u8_succ bb)
  cases hfew : Fr.few ps with
  | false =>
    rw [hfew] at HF
    clear hfew hv
    unfold eb
    go_enter Try.func9, Try.ntmps9
    go_wp2_with (first
      | (go_at_call 10; refine (awake_w w2).mono ?_; rintro e w3 ⟨rfl, hb3⟩)
      | (go_at_call 10; refine (awake_w _).mono ?_; rintro e w1 ⟨rfl, hb1⟩; have hk1 := LK2.step (LK2.start _ _ _ _) hb1; obtain ⟨k0, k1, k2, z0, z1, y0, y1, x0, x1⟩ := hk1.facts)
      | (go_at_call 11; refine (HF.out w1 hk1.low).mono ?_; rintro e w2 ⟨rfl, hb2⟩; have hk2 := hk1.step hb2; obtain ⟨k0, k1, k2, z0, z1, y0, y1, x0, x1⟩ := hk2.facts))
    go_ret
    exact ⟨rfl, (hk2.step hb3).low⟩
  | true =>
    rw [hfew] at HF
    have H1 := Lib.hid (fun w' (hbl : Below w.heap.size w w') => fcopy_w x y (HV.out.below hbl (Nat.le_refl _)))
    have H2 := Lib.hid (fun w' (hbl : Below w.heap.size w w') => rcopy_w x y (HV.out.pa.below hbl (Nat.le_refl _)) (fun b h => Nat.lt_of_lt_of_le h hbl.size))
    obtain ⟨qs, c, hr⟩ : ∃ qs c, Fr.copy ps x y = (qs, c) := ⟨_, _, rfl⟩
    rw [hr] at H1 H2
    have HR := Lib.hid hr
    clear hr hfew hv
    unfold eb
    go_enter Try.func9, Try.ntmps9
    go_wp2_with (first
      | (go_at_call 10; refine (awake_w _).mono ?_; rintro e w1 ⟨rfl, hb1⟩; have hk1 := LK2.step (LK2.start _ _ _ _) hb1; obtain ⟨k0, k1, k2, z0, z1, y0, y1, x0, x1⟩ := hk1.facts)
      | (go_at_call 11; refine (HF.out w1 hk1.low).mono ?_; rintro e w2 ⟨rfl, hb2⟩; have hk2 := hk1.step hb2; obtain ⟨k0, k1, k2, z0, z1, y0, y1, x0, x1⟩ := hk2.facts))
    go_cut [7, 8] (fun s7 s8 W => Got w2 (qs, c) s7 s8 W)
    case first =>
      have kd0 : w2.drew.cell? ⟨w.heap.size, 0, none⟩ = some (.slice a ps.length cap) := k0
      have kd1 : w2.drew.cell? ⟨w.heap.size + 1, 0, none⟩ = some (.int .i64 x) := k1
      have kd2 : w2.drew.cell? ⟨w.heap.size + 1, 1, none⟩ = some (.int .i64 y) := k2
      clear hb1 hb2 H2
      go_region_held3 (fun w' => w'.cell? ⟨w.heap.size, 0, none⟩ = some (.slice a ps.length cap) ∧ w'.cell? ⟨w.heap.size + 1, 0, none⟩ = some (.int .i64 x) ∧ w'.cell? ⟨w.heap.size + 1, 1, none⟩ = some (.int .i64 y)) (first | go_keep | exact ⟨by assumption, by assumption, by assumption⟩) ((first
        | (go_at_call 13; refine (to_w _ _ _ _).mono ?_; rintro e w3 ⟨rfl, hb3⟩; have hl3 := stepAny (by first | exact low_drew w2 | exact low_adrew w2 _) hb3; have hk3 := hk2.step hl3; obtain ⟨k03, k13, k23, z03, z13, y03, y13, x03, x13⟩ := hk3.facts; obtain ⟨hc3, hf3⟩ := bcell hb3; (try have hz3 : w2.heap.size < w3.heap.size := (by have := hb3.size; simp at this; omega)))
        | (go_at_call 30; refine (H1.out _ (by first | exact hk3.low | exact (hk3.alloc _).low)).mono ?_; rintro e w4 ⟨u4, rfl, hr4, hb4⟩; obtain ⟨a4, n4, c4, rfl⟩ := hr4.form; have hl4 := stepAny (by first | exact Below.refl _ w3 | exact low_alloc w3 _) hb4; have hk4 := hk3.step hl4; obtain ⟨k04, k14, k24, z04, z14, y04, y14, x04, x14⟩ := hk4.facts; obtain ⟨hc4, hf4⟩ := bcell hb4; (try have hz4 : w2.heap.size < w4.heap.size := (by have := hb4.size; simp at this; omega)); (try have hz5 : w3.heap.size < w4.heap.size := (by have := hb4.size; simp at this; omega)))))
      all_goals (go_wp2_with fail; go_meet)
      all_goals first
        | exact Got.new (stepAny hl3 hl4) hr4 hl3.size
        | exact Got.old (stepAny hl3 hl4) hr4 (by simp; have := hl3.size; omega) hl3.size (by simp) (Bk.newAt w3 _ [_] rfl) hb4
        | exact Got.old (stepAny hl3 hl4) hr4 hl3.size (Nat.le_refl _) hz3 (Bk.newAt w2 _ [_] rfl) (stepAny (stepAny (low_drew _) hb3) hl4)
    case rest =>
      obtain ⟨g7, a7, n7, c7, rfl, rfl, hlc, hg7, B7, R7⟩ := hcut
      have hkc := hk2.step hlc
      have HR7 := Lib.hid R7
      clear R7 k0 k1 k2 z0 z1 y0 y1 x0 x1 hb1 hb2 hk1 hk2 hlc HF H1
      obtain ⟨k0, k1, k2, z0, z1, y0, y1, x0, x1⟩ := hkc.facts
      go_wp2_with (go_at_call 31; refine (H2.out wc hkc.low).mono ?_; rintro e w5 ⟨a9, n9, c9, rfl, hp5, hb5⟩; have HP5 := Lib.hid hp5; clear hp5)
      have hb56 := (stepAny (Below.refl _ wc) hb5).alloc hb5.size (.cells #[.slice a9 n9 c9] 24 (0, 0))
      have hkf := hkc.step hb56
      have B7f := B7.below hb56 B7.lt
      have B9f := Bk.newAt w5 24 [.slice a9 n9 c9] rfl
      have HR7f := Lib.hid (HR7.out.below hb56 (Nat.le_refl _))
      have P9f := (HP5.out.below (low_alloc w5 (.cells #[.slice a9 n9 c9] 24 (0, 0))) (Nat.le_refl _)).pg
      generalize w5.alloc (.cells #[.slice a9 n9 c9] 24 (0, 0)) = wf at *
      generalize w5.heap.size = g9 at *
      have P7f := HR7f.out.pg
      have Pm : Pg wf (.slice a ps.length cap) ps := HV.out.below hkf.low (Nat.le_refl _)
      have HE1 : Hid (∀ W, Below wf.heap.size wf W → Calls Try.prog 18 #[.agg #[.slice a7 n7 c7], .agg #[.slice a9 n9 c9]] W fun e w' => e = .returned (.bool true) ∧ Below W.heap.size W w') := fun W hW => requal_t (P7f.below hW (Nat.le_refl _)) (P9f.below hW (Nat.le_refl _))
      have HE2 : Hid (∀ W, Below wf.heap.size wf W → Calls Try.prog 18 #[.agg #[.slice a ps.length cap], .agg #[.slice a9 n9 c9]] W fun e w' => e = .returned (.bool (decide (ps = qs))) ∧ Below W.heap.size W w') := fun W hW => requal_w (Pm.below hW (Nat.le_refl _)) (P9f.below hW (Nat.le_refl _))
      have HE3 : Hid (∀ W, Below wf.heap.size wf W → Calls Try.prog 29 #[.agg #[.slice a ps.length cap], .agg #[.slice a7 n7 c7]] W fun e w' => e = .returned (.bool (decide (ps = qs))) ∧ Below W.heap.size W w') := fun W hW => fequal_w (Pm.below hW (Nat.le_refl _)) (P7f.below hW (Nat.le_refl _))
      have q7 : ∀ W, Below wf.heap.size wf W → W.cell? ⟨g7, 0, none⟩ = some (.slice a7 n7 c7) ∧ W.cell? ⟨g9, 0, none⟩ = some (.slice a9 n9 c9) ∧ W.cell? ⟨w.heap.size, 0, none⟩ = some (.slice a ps.length cap) := fun W hW =>
        ⟨(B7f.below hW B7f.lt).cell 0, (B9f.below hW B9f.lt).cell 0, (hkf.step hW).facts.1⟩
      have HQ := Lib.hid q7
      have hg7f := B7f.lt
      generalize hB : decide (ps = qs) = B at *
      have HB := Lib.hid hB
      clear q7 P7f P9f Pm B7 HR7 HP5 hb5 H2 k0 k1 k2 z0 z1 y0 y1 x0 x1 hkc hb56 hB B9f
      obtain ⟨e7, e9, em⟩ := HQ.out wf.drew (low_drew wf)
      go_cut [61] (fun s61 W => s61 = .bool false ∧ Below wf.heap.size wf W)
      case first =>
        go_region_held3 (fun w' => w'.cell? ⟨g7, 0, none⟩ = some (.slice a7 n7 c7) ∧ w'.cell? ⟨g9, 0, none⟩ = some (.slice a9 n9 c9) ∧ w'.cell? ⟨w.heap.size, 0, none⟩ = some (.slice a ps.length cap)) (first | go_keep | exact ⟨by assumption, by assumption, by assumption⟩) ((first
          | (go_at_call 19; refine (from_w _ _ _ _).mono ?_; rintro e wA ⟨rfl, hbA⟩; have hlA := stepAny (low_drew wf) hbA; obtain ⟨m7, m9, mm⟩ := HQ.out wA hlA)
          | (go_at_call 18; (with_reducible refine (HE1.out wA hlA).mono ?_); rintro e wR ⟨rfl, hbR⟩; have hlR := stepAny hlA hbR; obtain ⟨m7, m9, mm⟩ := HQ.out wR hlR)
          | (go_at_call 18; (with_reducible refine (HE2.out _ (by first | exact hlF | exact hlT | exact hlR)).mono ?_); rintro e wS ⟨rfl, hbS⟩; have hlS := stepAny (by first | exact hlF | exact hlT | exact hlR) hbS; obtain ⟨m7, m9, mm⟩ := HQ.out wS hlS)
          | (go_at_call 13; refine (to_w _ _ _ _).mono ?_; rintro e wT ⟨rfl, hbT⟩; have hlT := stepAny (by first | exact hlS | exact hlR) hbT; obtain ⟨m7, m9, mm⟩ := HQ.out wT hlT)
          | (go_at_call 29; refine (HE3.out _ (by first | exact hlS | exact hlT)).mono ?_; rintro e wF ⟨rfl, hbF⟩; have hlF := stepAny (by first | exact hlS | exact hlT) hbF; obtain ⟨m7, m9, mm⟩ := HQ.out wF hlF)))
        all_goals (go_wp2_with fail; go_meet)
        all_goals exact ⟨by first | rfl | simp, by first | exact hlF | exact hlS⟩
      case rest =>
        obtain ⟨rfl, hlc⟩ := hcut
        have hkc := hkf.step hlc
        have B7c := B7f.below hlc hg7f
        have k7 := B7c.cell 0
        simp only [List.getElem?_cons_zero] at k7
        obtain ⟨k0, k1, k2, z0, z1, y0, y1, x0, x1⟩ := hkc.facts
        clear e7 e9 em
        have hR7 := HR7f.out
        rcases hR7 with ⟨g, h, hv7, -, -, -, hFm, hz⟩ | ⟨hv7, hnil, hz⟩
        · have hcp := HR.out
          have hrng : Fr.valid ps = true ∧ 0 ≤ x ∧ x < 96 ∧ 0 ≤ y ∧ y < 96 ∧ qs = ps.set x.toNat (Fr.page ps y) := by
            unfold Fr.copy at hcp
            split at hcp
            · split at hcp
              · rename_i h1 h2
                injection hcp with e1 e2
                exact ⟨h1, h2.1, h2.2.1, h2.2.2.1, h2.2.2.2, e1.symm⟩
              · injection hcp with e1 e2
                simp only at hz
                omega
            · injection hcp with e1 e2
              simp only at hz
              omega
          obtain ⟨hva, r1, r2, r3, r4, hqs⟩ := hrng
          simp only at hz
          subst hz
          obtain ⟨X, rfl⟩ := Int.eq_ofNat_of_zero_le r1
          obtain ⟨Y, rfl⟩ := Int.eq_ofNat_of_zero_le r3
          injection hv7 with e1 e2 e3
          subst e1 e2 e3
          by_cases hxy : X = Y
          · have f1 : ((X : Int) == (Y : Int)) = true := by rw [hxy]; simp
            clear hxy hqs hcp
            go_wp2
            go_ret
            exact ⟨rfl, hkc.low⟩
          · have f1 : ((X : Int) == (Y : Int)) = false := by rw [beq_eq_false_iff_ne]; omega
            have hFmc := hFm.below hlc (Nat.le_refl _)
            obtain ⟨hl, hpl⟩ := Fr.valid_iff.1 hva
            have hY : Y < ps.length := by omega
            have hpg : Fr.page ps Y = ps[Y] := by simp [Fr.page, List.getD, hY]
            have hqv : Fr.valid qs = true := Fr.valid_iff.2 ⟨hFmc.len, hFmc.pl⟩
            have hc5 : Fr.chk qs Y 7 ([bb, bb + 1] : List UInt8).length = 0 := Fr.chk_ok hqv (Fr.okR_iff.2 ⟨by omega, by omega, by omega, by omega, by simp, by simp⟩)
            have hqX : qs[X]'(by rw [hFmc.len]; omega) = ps[Y] := by subst hqs; rw [← hpg]; simp
            have hrd : Fr.read (qs.set Y (Fr.put (Fr.page qs Y) 7 [bb, bb + 1])) X 0 128 = (ps[Y], 0) := by
              have hv2 : Fr.valid (qs.set Y (Fr.put (Fr.page qs Y) 7 [bb, bb + 1])) = true := by
                refine Fr.valid_iff.2 ⟨by rw [List.length_set]; exact hFmc.len, fun i hi => ?_⟩
                have hYq : Y < qs.length := by rw [hFmc.len]; omega
                rw [List.getElem_set]
                have hpq : (Fr.page qs Y).length = 128 := by
                  rw [show Fr.page qs Y = qs[Y] by simp [Fr.page, List.getD, hYq]]; exact hFmc.pl Y hYq
                split
                · rw [Fr.length_put (by rw [hpq]; simp)]; exact hpq
                · exact hFmc.pl i (by simpa using hi)
              unfold Fr.read
              rw [if_pos (Fr.chk_ok hv2 (Fr.okR_iff.2 ⟨by omega, by omega, by omega, by omega, by omega, by omega⟩))]
              have hXl : X < (qs.set Y (Fr.put (Fr.page qs Y) 7 [bb, bb + 1])).length := by rw [List.length_set, hFmc.len]; omega
              have : Fr.page (qs.set Y (Fr.put (Fr.page qs Y) 7 [bb, bb + 1])) X = ps[Y] := by
                rw [← hqX]
                show List.getD _ ((X : Int)).toNat [] = _
                rw [Int.toNat_natCast, List.getD, List.getElem?_set_ne (fun e => hxy e.symm), List.getElem?_eq_getElem (by rw [hFmc.len]; omega)]
                rfl
              rw [this]
              simp only [Int.toNat_zero, List.drop_zero]
              rw [List.take_of_length_le (by rw [hpl Y hY]; decide)]
            have hS : Sl eb (wc.alloc (.cells #[.int .u8 (bb.toNat : Int), .int .u8 (((bb.toNat : Int) + 1) % 256)] 5 (0, 0))) (.slice (some ⟨wc.heap.size, 0, none⟩) 2 2) [bb, bb + 1] := by
              have e : ((bb.toNat : Int) + 1) % 256 = ((bb + 1).toNat : Int) := by rw [UInt8.toNat_add]; simp
              rw [e]
              exact sl_lit wc [bb, bb + 1] _ _ rfl (by simp)
            have H5 := fwrite_ok Y 7 (hFmc.pg.below (low_alloc wc (.cells #[.int .u8 (bb.toNat : Int), .int .u8 (((bb.toNat : Int) + 1) % 256)] 5 (0, 0))) (Nat.le_refl _)) hS hc5
            have H6 := Lib.hid (fun W v (hp : Pg W v (qs.set Y (Fr.put (Fr.page qs Y) 7 [bb, bb + 1]))) => fread_w (w := W) X 0 128 hp)
            rw [hrd] at H6
            simp only [Int.toNat_natCast, show Int.toNat 7 = 7 from rfl] at H5
            have H5' := Lib.hid H5
            have hpY := hpl Y hY
            have HPY := Lib.hid hpY
            have H7 := Lib.hid (fun W (hl : Below w.heap.size w W) => (HV.out.below hl (Nat.le_refl _)).el Y hY)
            rw [hl] at k0 hkc ⊢
            have hk8 := hkc.step (low_alloc wc (.cells #[.int .u8 (bb.toNat : Int), .int .u8 (((bb.toNat : Int) + 1) % 256)] 5 (0, 0)))
            clear hrd hqX hc5 hqv hS H5 hpg hxy hqs hcp hl hpl hva hFm hFmc hpY HE1 HE2 HE3 HQ HB HR HR7f HU
            generalize qs.set Y (Fr.put (Fr.page qs Y) 7 [bb, bb + 1]) = ts at *
            generalize ps[Y] = pY at *
            have f2 : (0 : Int) ≤ (Y : Int) := by omega
            have f3 : (Y : Int) < 96 := by omega
            go_wp2_with (first
              | (go_at_call 12; refine H5'.out.mono ?_; rintro e w5 ⟨g5, h5, rfl, -, -, -, hF5, hb5⟩; have hk5 := hk8.step hb5; obtain ⟨k05, k15, k25, z05, z15, y05, y15, x05, x15⟩ := hk5.facts)
              | (go_at_call 14; refine (H6.out _ _ (hF5.pg.below (low_alloc w5 _) (Nat.le_refl _))).mono ?_; rintro e w6 ⟨v6, rfl, ho6, hb6⟩; have hk6 := hk5.step (stepAny (low_alloc w5 _) hb6); obtain ⟨k06, k16, k26, z06, z16, y06, y16, x06, x16⟩ := hk6.facts; have HS6 := Lib.hid (Sl.ofOwn ho6); clear ho6; obtain ⟨b, off, a', c', he, hbb, hck, p1, p2, p3, p4⟩ := H7.out w6 hk6.low; subst he; rw [HPY.out] at hck p1)
              | (go_at_call 15; refine (sameBytes_t HS6.out ⟨a', c', by rw [HPY.out], by rw [HPY.out]; exact p1, p2, p3, p4⟩).mono ?_; rintro e w7 ⟨rfl, hb7⟩))
            go_ret
            exact ⟨rfl, (hk6.step hb7).low⟩
        · injection hv7 with e1 e2 e3
          subst e1 e2 e3
          have hne : (c != 0) = true := by rw [bne_iff_ne]; exact hz
          clear hz hnil
          go_wp2
          go_ret
          exact ⟨rfl, hkc.low⟩
end Go.Proofs.Ytkgheilaleekdaa
