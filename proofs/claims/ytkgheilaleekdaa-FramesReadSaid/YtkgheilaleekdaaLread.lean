/-
  The walk of FramesRead.
-/
import Derived.Test.YtkgheilaleekdaaLwhole
import Derived.Test.YtkgheilaleekdaaRnew
namespace Go.Proofs.Ytkgheilaleekdaa
open Go.RowKit

/-- What a statement `a, e := frames.Read(to(m), ..)` leaves. -/
def GotB (W0 : World) (bs : List UInt8) (c : Int) (s5 s6 : Value) (W : World) : Prop := s6 = .int .i64 c ∧ Below W0.heap.size W0 W ∧ Sl eb W s5 bs

set_option maxRecDepth 20000 in
set_option maxHeartbeats 8000000 in
theorem lread_w {w : World} {v0 v1 : Value} (h0 : IsMem w v0) (h1 : IsAt w v1) :
    Calls Try.prog 6 #[v0, v1] w fun e w' => e = .returned (.bool true) ∧ Below w.heap.size w w' := by
  obtain ⟨u, ps, rfl, hv⟩ := h0
  obtain ⟨f, x, n, rfl, -, -, -⟩ := h1
  have HF := Lib.hid (fun w' (hb : Below w.heap.size w w') => rfew_w (hv.below hb (Nat.le_refl _)))
  have HV := Lib.hid hv
  obtain ⟨a, cap, rfl, -⟩ := hv.open
  cases hfew : Fr.few ps with
  | false =>
    rw [hfew] at HF
    clear hfew hv
    go_enter Try.func6, Try.ntmps6
    go_wp2_with (first
      | (go_at_call 10; refine (awake_w w2).mono ?_; rintro e w3 ⟨rfl, hb3⟩)
      | (go_at_call 10; refine (awake_w _).mono ?_; rintro e w1 ⟨rfl, hb1⟩; have hk1 := LK.step (LK.start _ _ _ _ _) hb1; obtain ⟨k0, k1, k2, k3, z0, z1, y0, y1, x0, x1⟩ := hk1.facts)
      | (go_at_call 11; refine (HF.out w1 hk1.low).mono ?_; rintro e w2 ⟨rfl, hb2⟩))
    go_ret
    exact ⟨rfl, ((hk1.step hb2).step hb3).low⟩
  | true =>
    rw [hfew] at HF
    have H1 := Lib.hid (fun w' (hbl : Below w.heap.size w w') => fread_w f x n (HV.out.below hbl (Nat.le_refl _)))
    have H2 := Lib.hid (fun w' (hbl : Below w.heap.size w w') => rread_w f x n (HV.out.below hbl (Nat.le_refl _)))
    generalize Fr.read ps f x n = r at *
    obtain ⟨bs, c⟩ := r
    clear hfew hv
    go_enter Try.func6, Try.ntmps6
    go_wp2_with (first
      | (go_at_call 10; refine (awake_w _).mono ?_; rintro e w1 ⟨rfl, hb1⟩; have hk1 := LK.step (LK.start _ _ _ _ _) hb1; obtain ⟨k0, k1, k2, k3, z0, z1, y0, y1, x0, x1⟩ := hk1.facts)
      | (go_at_call 11; refine (HF.out w1 hk1.low).mono ?_; rintro e w2 ⟨rfl, hb2⟩; have hk2 := hk1.step hb2; obtain ⟨k0, k1, k2, k3, z0, z1, y0, y1, x0, x1⟩ := hk2.facts))
    go_cut [5, 6] (fun s5 s6 W => GotB w2 bs c s5 s6 W)
    case first =>
      have kd0 : w2.drew.cell? ⟨w.heap.size, 0, none⟩ = some (.slice a ps.length cap) := k0
      have kd1 : w2.drew.cell? ⟨w.heap.size + 1, 0, none⟩ = some (.int .i64 f) := k1
      have kd2 : w2.drew.cell? ⟨w.heap.size + 1, 1, none⟩ = some (.int .i64 x) := k2
      have kd3 : w2.drew.cell? ⟨w.heap.size + 1, 2, none⟩ = some (.int .i64 n) := k3
      clear hb1 hb2 H2
      go_region_held3 (fun w' => w'.cell? ⟨w.heap.size, 0, none⟩ = some (.slice a ps.length cap) ∧ w'.cell? ⟨w.heap.size + 1, 0, none⟩ = some (.int .i64 f) ∧ w'.cell? ⟨w.heap.size + 1, 1, none⟩ = some (.int .i64 x) ∧ w'.cell? ⟨w.heap.size + 1, 2, none⟩ = some (.int .i64 n)) (first | go_keep | exact ⟨by assumption, by assumption, by assumption, by assumption⟩) ((first
        | (go_at_call 13; refine (to_w _ _ _ _).mono ?_; rintro e w3 ⟨rfl, hb3⟩; have hl3 := stepAny (low_drew w2) hb3; have hk3 := hk2.step hl3; obtain ⟨k03, k13, k23, k33, z03, z13, y03, y13, x03, x13⟩ := hk3.facts)
        | (go_at_call 14; refine (H1.out w3 hk3.low).mono ?_; rintro e w4 ⟨v4, rfl, ho4, hb4⟩; have hl4 := stepAny hl3 hb4; have hk4 := hk3.step hb4; have HS4 := Lib.hid (Sl.ofOwn ho4); clear ho4; obtain ⟨k04, k14, k24, k34, z04, z14, y04, y14, x04, x14⟩ := hk4.facts)))
      all_goals (go_wp2_with fail; go_meet; exact ⟨rfl, hl4, HS4.out⟩)
    case rest =>
      obtain ⟨rfl, hlc, hs5⟩ := hcut
      have hkc := hk2.step hlc
      have HS5 := Lib.hid hs5
      obtain ⟨a5, c5, rfl, -⟩ := hs5
      clear k0 k1 k2 k3 z0 z1 y0 y1 x0 x1 hb1 hb2 hk1 hk2 hlc HF H1
      obtain ⟨k0, k1, k2, k3, z0, z1, y0, y1, x0, x1⟩ := hkc.facts
      go_wp2_with (go_at_call 22; refine (H2.out wc hkc.low).mono ?_; rintro e wf ⟨v7, rfl, ho7, hb7⟩; have HS7 := Lib.hid (Sl.ofOwn ho7); obtain ⟨a7, c7, rfl⟩ := own_slice ho7; clear ho7; have hkf := hkc.step hb7; have HS57 := Lib.hid (HS5.out.below hb7 (Nat.le_refl _)))
      clear k0 k1 k2 k3 z0 z1 y0 y1 x0 x1 HS5 hkc hb7 H2
      have Pm : Pg wf (.slice a ps.length cap) ps := HV.out.below hkf.low (Nat.le_refl _)
      have HQ : Hid (∀ W, Below wf.heap.size wf W → W.cell? ⟨w.heap.size, 0, none⟩ = some (.slice a ps.length cap)) := fun W hW => (hkf.step hW).facts.1
      have HS : Hid (∀ W, Below wf.heap.size wf W → Calls Try.prog 15 #[.slice a5 bs.length c5, .slice a7 bs.length c7] W fun e w' => e = .returned (.bool true) ∧ Below W.heap.size W w') := fun W hW => sameBytes_t (HS57.out.below hW (Nat.le_refl _)) (HS7.out.below hW (Nat.le_refl _))
      have HV1 : Hid (∀ W, Below wf.heap.size wf W → Calls Try.prog 23 #[.agg #[.slice a ps.length cap]] W fun e w' => e = .returned (.bool (Fr.valid ps)) ∧ Below W.heap.size W w') := fun W hW => valid_w (Pm.below hW (Nat.le_refl _))
      have HV2 : Hid (∀ W, Below wf.heap.size wf W → Calls Try.prog 16 #[.agg #[.slice a ps.length cap]] W fun e w' => e = .returned (.bool (Fr.valid ps)) ∧ Below W.heap.size W w') := fun W hW => rvalid_w (Pm.below hW (Nat.le_refl _))
      have HU1 : Hid (∀ W, Below wf.heap.size wf W → Calls Try.prog 25 #[.agg #[.slice a ps.length cap]] W fun e w' => ∃ v', e = .returned v' ∧ Sl ei w' v' (Fr.used ps) ∧ Below W.heap.size W w') := fun W hW => fused_w (Pm.below hW (Nat.le_refl _))
      have HU2 : Hid (∀ W, Below wf.heap.size wf W → Calls Try.prog 26 #[.agg #[.slice a ps.length cap]] W fun e w' => ∃ v', e = .returned v' ∧ Sl ei w' v' (Fr.used ps) ∧ Below W.heap.size W w') := fun W hW => rused_w (Pm.below hW (Nat.le_refl _))
      have hl0 := low_drew wf
      have e0 := HQ.out wf.drew hl0
      generalize Fr.used ps = us at *
      generalize Fr.valid ps = vd at *
      clear Pm HS57 HS7 HV
      go_region_held3 (fun w' => w'.cell? ⟨w.heap.size, 0, none⟩ = some (.slice a ps.length cap)) (first | go_keep | assumption) ((first
        | (go_at_call 15; refine (HS.out _ (by assumption)).mono ?_; rintro e wB ⟨rfl, hbB⟩; have hlB := stepAny (by assumption) hbB; have eB := HQ.out wB hlB)
        | (go_at_call 13; refine (to_w _ _ _ _).mono ?_; rintro e wt ⟨rfl, hbt⟩; have hlt := stepAny (by assumption) hbt; have et := HQ.out wt hlt)
        | (go_at_call 23; refine (HV1.out _ (by assumption)).mono ?_; rintro e wv ⟨rfl, hbv⟩; have hlv := stepAny (by assumption) hbv; have ev := HQ.out wv hlv)
        | (go_at_call 16; refine (HV2.out _ (by assumption)).mono ?_; rintro e wr ⟨rfl, hbr⟩; have hlr := stepAny (by assumption) hbr; have er := HQ.out wr hlr)
        | (go_at_call 25; refine (HU1.out _ (by assumption)).mono ?_; rintro e wu ⟨vu, rfl, hsu, hbu⟩; have hlu := stepAny (by assumption) hbu; have eu := HQ.out wu hlu)
        | (go_at_call 26; refine (HU2.out _ (by assumption)).mono ?_; rintro e wq ⟨vq, rfl, hsq, hbq⟩; have hlq := stepAny (by assumption) hbq; have eq := HQ.out wq hlq)
        | (go_at_call 24; refine (sameInts_t (xs := us.map fun n : Nat => (n : Int)) (by first | exact hsu.ints | exact hsu.ints.below hbq (Nat.le_refl _)) (by first | exact hsq.ints | exact hsq.ints.below hbu (Nat.le_refl _) | exact hsq.ints.below (stepAny hbt hbu) (Nat.le_refl _))).mono ?_; rintro e wi ⟨rfl, hbi⟩; have hli := stepAny (by assumption) hbi; have ei' := HQ.out wi hli)
        | (go_at_call 27; refine (new_w _).mono ?_; rintro e wn ⟨gn, hn, rfl, -, -, -, hFn, hbn⟩; have hPn := hFn.pg; have hln := stepAny (by assumption) hbn; have en := HQ.out wn hln)
        | (go_at_call 19; refine (from_w _ _ _ _).mono ?_; rintro e wz ⟨rfl, hbz⟩; have hlz := stepAny (by assumption) hbz; have ez := HQ.out wz hlz)
        | (go_at_call 28; refine (rnew_w _).mono ?_; rintro e wm ⟨vm, rfl, hPm, hbm⟩; have hlm := stepAny (by assumption) hbm; have em := HQ.out wm hlm)
        | (go_at_call 18; refine (requal_t (ps := Fr.new) (by first | exact hPn.below hbz (Nat.le_refl _) | exact hPn.below (stepAny hbz hbm) (Nat.le_refl _) | exact hPn.below (stepAny hbm hbz) (Nat.le_refl _)) (by first | exact hPm | exact hPm.below hbz (Nat.le_refl _) | exact hPm.below (stepAny hbn hbz) (Nat.le_refl _))).mono ?_; rintro e wE ⟨rfl, hbE⟩; have hlE := stepAny (by assumption) hbE; have eE := HQ.out wE hlE)))
      all_goals (go_wp2; go_ret; exact ⟨rfl, (hkf.step hlE).low⟩)
end Go.Proofs.Ytkgheilaleekdaa
