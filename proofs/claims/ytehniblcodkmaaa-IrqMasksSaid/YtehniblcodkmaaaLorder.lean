/-
  The walk of IrqOrder.
-/
import Derived.Test.YtehniblcodkmaaaArgs
import Derived.Test.YtehniblcodkmaaaIo
import Derived.Test.YtehniblcodkmaaaPlain2
namespace Go.Proofs.Ytehniblcodkmaaa
open Go.RowKit

/-- What the loop of IrqOrder keeps: the box of s, the box of a with what is pending. -/
structure OW (w : World) (b7 : Nat) (m0 m1 m2 m3 m4 : Bool) (k0 k1 k2 k3 k4 : Bool) (us : Value) (va : Value) (l : List Iq.Ln) (W : World) : Prop where
  s : Bk W w.heap.size 25 (stC m0 m1 m2 m3 m4 us)
  a : Bk W b7 30 (stC k0 k1 k2 k3 k4 va)
  l : Lp W va l
  low : Below w.heap.size w W
  lt : w.heap.size < b7

theorem OW.step {w : World} {b7 : Nat} {m0 m1 m2 m3 m4 k0 k1 k2 k3 k4 : Bool} {us va : Value} {l : List Iq.Ln} {W W' : World} (h : OW w b7 m0 m1 m2 m3 m4 k0 k1 k2 k3 k4 us va l W) (hb : Below W.heap.size W W') : OW w b7 m0 m1 m2 m3 m4 k0 k1 k2 k3 k4 us va l W' :=
  ⟨h.s.below hb h.s.lt, h.a.below hb h.a.lt, h.l.below hb (Nat.le_refl _), stepAny h.low hb, h.lt⟩

theorem OW.put {w : World} {b7 B : Nat} {m0 m1 m2 m3 m4 k0 k1 k2 k3 k4 : Bool} {us va va' : Value} {l l' : List Iq.Ln} {W : World} (h : OW w b7 m0 m1 m2 m3 m4 k0 k1 k2 k3 k4 us va l W) (hl : LpF B W va' l') (hB : b7 < B) (n0 n1 n2 n3 n4 : Bool) :
    OW w b7 m0 m1 m2 m3 m4 n0 n1 n2 n3 n4 us va' l' ((((((W.setCell ⟨b7, 0, none⟩ (.bool n0)).setCell ⟨b7, 1, none⟩ (.bool n1)).setCell ⟨b7, 2, none⟩ (.bool n2)).setCell ⟨b7, 3, none⟩ (.bool n3)).setCell ⟨b7, 4, none⟩ (.bool n4)).setCell ⟨b7, 5, none⟩ va') :=
  ⟨h.s.keep (set6_heap (by have := h.lt; omega) _ _ _ _ _ _), (((((h.a.set 0 (.bool n0)).set 1 (.bool n1)).set 2 (.bool n2)).set 3 (.bool n3)).set 4 (.bool n4)).set 5 _, (hl.keep fun g hg _ => set6_heap (by omega) _ _ _ _ _ _).lp, set6 h.low (by have := h.lt; omega) _ _ _ _ _ _, h.lt⟩

/-- va reads as l, and nothing that is read lies in the row that v owns. -/
def LpA (w : World) (v va : Value) (l : List Iq.Ln) : Prop :=
  ∃ es, Sm 4 el w va es ∧ LsR w es l ∧ (∀ b off n c, va = .slice (some ⟨b, off, none⟩) n c → n ≠ 0 → v.ownBlock ≠ some b) ∧ ∀ e ∈ es, ∀ g, v.ownBlock = some g → Far g e

section
variable {w w' : World} {v v' va : Value} {l : List Iq.Ln} {B : Nat}
theorem LpA.lp (h : LpA w v va l) : Lp w va l := by
  obtain ⟨es, h1, h2, _⟩ := h
  exact ⟨es, h1, h2⟩
theorem LpA.below (h : LpA w v va l) (hb : Below w.heap.size w w') : LpA w' v va l := by
  obtain ⟨es, h1, h2, h3, h4⟩ := h
  exact ⟨es, h1.below hb (Nat.le_refl _), h2.below hb (Nat.le_refl _), h3, h4⟩
theorem Lp.lpa (h : Lp w va l) (hv : v.ownBlock = none) : LpA w v va l := by
  obtain ⟨es, h1, h2⟩ := h
  exact ⟨es, h1, h2, (fun b off n c _ _ e => by rw [hv] at e; exact absurd e (by simp)), (fun e _ g hg => by rw [hv] at hg; exact absurd hg (by simp))⟩
theorem LpF.lpa (h : LpF B w va l) (hv : ∀ g, v.ownBlock = some g → g < B) : LpA w v va l := by
  obtain ⟨es, h1, h2, h3, h4⟩ := h
  exact ⟨es, h1, h2, (fun b off n c hva hn e => by have := h3 b off n c hva hn; have := hv b e; omega), fun e he g hg => h4 e he g (hv g hg)⟩
theorem LpA.spare (h : LpA w v va l) (hs : Spares w w' v v') : LpA w' v' va l := by
  obtain ⟨es, ⟨a, c, rfl, h2, h3, h4, h5⟩, hr, ha, hf⟩ := h
  refine ⟨es, ⟨a, c, rfl, h2, h3, h4, fun i hi => ?_⟩, ⟨hr.1, fun i h1 h1' => ?_⟩, fun b off n c hva hn e => ?_, fun e he g hg b off ha' hm eb => ?_⟩
  · obtain ⟨b, off, e, hlt, hc⟩ := h5 i hi
    subst e
    have hb := (hs b hlt (ha b off _ _ rfl (by omega))).1
    refine ⟨b, off, rfl, ?_, fun j hj => by rw [World.cell?_of_block (a := ⟨b, off + i * 4 + j, none⟩) hb]; exact hc j hj⟩
    rw [Array.getElem?_eq_getElem hlt] at hb
    exact (Array.getElem?_eq_some_iff.1 hb).1
  · obtain ⟨e1, e2, e3, a2, c2, q1, q2, q3, q4, q5⟩ := hr.2 i h1 h1'
    refine ⟨e1, e2, e3, a2, c2, q1, q2, q3, q4, fun j hj => ?_⟩
    obtain ⟨b, off, e, hlt, hc⟩ := q5 j hj
    injection q1 with r1 r2 r3
    have hb := (hs b hlt (fun ev => hf _ (List.getElem_mem h1) b ev b off (by rw [r1, e]) (by omega) rfl)).1
    refine ⟨b, off, e, ?_, by rw [World.cell?_of_block (a := ⟨b, off + j, none⟩) hb]; exact hc⟩
    rw [Array.getElem?_eq_getElem hlt] at hb
    exact (Array.getElem?_eq_some_iff.1 hb).1
  · injection hva with q1 q2 q3
    obtain ⟨b', off', e', hlt, _⟩ := h5 0 (by omega)
    rw [q1] at e'
    simp only [Option.some.injEq, Addr.mk.injEq, and_true] at e'
    obtain ⟨rfl, rfl⟩ := e'
    exact (hs b hlt (ha b off n c (by rw [q1, q2, q3]) hn)).2 e
  · subst eb
    obtain ⟨i, hi, rfl⟩ := List.getElem_of_mem he
    obtain ⟨_, _, _, a2, c2, q1, _, _, _, q5⟩ := hr.2 i hi (by have := hr.1; omega)
    injection q1 with r1 r2 r3
    obtain ⟨b', off', e', hlt, _⟩ := q5 0 (by omega)
    rw [← r1, ha'] at e'
    simp only [Option.some.injEq, Addr.mk.injEq, and_true] at e'
    obtain ⟨rfl, rfl⟩ := e'
    exact (hs b hlt (fun ev => hf _ (List.getElem_mem hi) b ev b off ha' hm rfl)).2 hg
end

theorem mk5 (m : Nat) : ∃ k0 k1 k2 k3 k4, Iq.mk m = [k0, k1, k2, k3, k4] := by
  unfold Iq.mk
  split
  · exact ⟨_, _, _, _, _, rfl⟩
  · unfold Iq.nomask
    match m with
    | 0 => exact ⟨_, _, _, _, _, rfl⟩
    | 1 => exact ⟨_, _, _, _, _, rfl⟩
    | 2 => exact ⟨_, _, _, _, _, rfl⟩
    | 3 => exact ⟨_, _, _, _, _, rfl⟩
    | 4 => exact ⟨_, _, _, _, _, rfl⟩
    | m + 5 => exact ⟨_, _, _, _, _, rfl⟩

set_option maxRecDepth 100000 in
set_option maxHeartbeats 8000000 in
theorem lorder_w {w : World} {v0 v1 : Value} (h0 : IsState w v0) (h1 : IsU8 w v1) :
    Calls Try.prog 3 #[v0, v1] w fun e w' => e = .returned (.bool true) ∧ Below w.heap.size w w' := by
  obtain ⟨m0, m1, m2, m3, m4, u, ls, rfl, hlp, -⟩ := h0
  obtain ⟨n, rfl⟩ := h1
  obtain ⟨a, cap, rfl, hc, hcm, hna, hel⟩ := hlp.open
  have HEL := Lib.hid hel
  have HLP := Lib.hid hlp
  clear hlp hel
  unfold maxLen at hcm
  have HF : Hid (∀ W, Below w.heap.size w W → Calls Try.prog 11 #[.agg #[.bool m0, .bool m1, .bool m2, .bool m3, .bool m4, .slice a ls.length cap]] W fun e w' => e = .returned (.bool (Iq.few ([m0, m1, m2, m3, m4], ls))) ∧ Below W.heap.size W w') := fun W hW => rfew_w (HLP.out.below hW (Nat.le_refl _)) _
  have HV : Hid (∀ W, Below w.heap.size w W → Calls Try.prog 12 #[.agg #[.bool m0, .bool m1, .bool m2, .bool m3, .bool m4, .slice a ls.length cap]] W fun e w' => e = .returned (.bool (Iq.valid ([m0, m1, m2, m3, m4], ls))) ∧ Below W.heap.size W w') := fun W hW => rvalid_w (HLP.out.below hW (Nat.le_refl _))
  have hK0 : Bk (w.alloc (.cells #[.bool m0, .bool m1, .bool m2, .bool m3, .bool m4, .slice a ls.length cap] 25 (0, 0))) w.heap.size 25 (stC m0 m1 m2 m3 m4 (.slice a ls.length cap)) := Bk.new w _ (stC m0 m1 m2 m3 m4 (.slice a ls.length cap))
  have hlow0 : Below w.heap.size w (w.alloc (.cells #[.bool m0, .bool m1, .bool m2, .bool m3, .bool m4, .slice a ls.length cap] 25 (0, 0))) := low_alloc _ _
  cases hfew : Iq.few ([m0, m1, m2, m3, m4], ls) with
  | false =>
    rw [hfew] at HF
    clear hfew HV
    go_enter Try.func3, Try.ntmps3
    go_wp2_with (first
      | (go_at_call 11; refine (HF.out _ (stepAny hlow0 hb1)).mono ?_; rintro e w2 ⟨rfl, hb2⟩; have tok := True.intro)
      | (go_at_call 10; have _t := tok; refine (awake_w w2).mono ?_; rintro e w3 ⟨rfl, hb3⟩)
      | (go_at_call 10; refine (awake_w _).mono ?_; rintro e w1 ⟨rfl, hb1⟩; obtain ⟨p0, p1, p2, p3, p4, p5, -⟩ := (hK0.below hb1 hK0.lt).box))
    go_ret
    exact ⟨rfl, stepAny (stepAny (stepAny hlow0 hb1) hb2) hb3⟩
  | true =>
    rw [hfew] at HF
    cases hv : Iq.valid ([m0, m1, m2, m3, m4], ls) with
    | false =>
      rw [hv] at HV
      clear hfew hv
      go_enter Try.func3, Try.ntmps3
      go_wp2_with (first
        | (go_at_call 11; refine (HF.out _ (stepAny hlow0 hb1)).mono ?_; rintro e w2 ⟨rfl, hb2⟩; obtain ⟨q0, q1, q2, q3, q4, q5, -⟩ := ((hK0.below hb1 hK0.lt).below hb2 (hK0.below hb1 hK0.lt).lt).box)
        | (go_at_call 12; refine (HV.out _ (stepAny (stepAny hlow0 hb1) hb2)).mono ?_; rintro e w4 ⟨rfl, hb4⟩; have tok := True.intro)
        | (go_at_call 10; have _t := tok; refine (awake_w w4).mono ?_; rintro e w3 ⟨rfl, hb3⟩)
        | (go_at_call 10; refine (awake_w _).mono ?_; rintro e w1 ⟨rfl, hb1⟩; obtain ⟨p0, p1, p2, p3, p4, p5, -⟩ := (hK0.below hb1 hK0.lt).box))
      go_ret
      exact ⟨rfl, stepAny (stepAny (stepAny (stepAny hlow0 hb1) hb2) hb4) hb3⟩
    | true =>
      rw [hv] at HV
      have hok : Iq.okAll ls = true := (Iq.valid_iff.1 hv).1
      have hl32 : ls.length ≤ 32 := (Iq.valid_iff.1 hv).2.1
      have HOK := Lib.hid hok
      clear hfew hv hok
      have hnb : n.toNat < 256 := n.toNat_lt
      obtain ⟨M, hM, hM4⟩ : ∃ M : Nat, ((n.toNat : Int) % 5) = (M : Int) ∧ M ≤ 4 := ⟨n.toNat % 5, by omega, by omega⟩
      unfold eb
      go_enter Try.func3, Try.ntmps3
      go_upto_if 40 with (first
        | (go_at_call 11; refine (HF.out _ (stepAny hlow0 hb1)).mono ?_; rintro e w2 ⟨rfl, hb2⟩; obtain ⟨q0, q1, q2, q3, q4, q5, -⟩ := ((hK0.below hb1 hK0.lt).below hb2 (hK0.below hb1 hK0.lt).lt).box)
        | (go_at_call 12; refine (HV.out _ (stepAny (stepAny hlow0 hb1) hb2)).mono ?_; rintro e w3 ⟨rfl, hb3⟩; have hK3 := ((hK0.below hb1 hK0.lt).below hb2 (hK0.below hb1 hK0.lt).lt).below hb3 ((hK0.below hb1 hK0.lt).below hb2 (hK0.below hb1 hK0.lt).lt).lt; obtain ⟨r0, r1, r2, r3, r4, r5, -⟩ := hK3.box; have hlow3 := stepAny (stepAny (stepAny hlow0 hb1) hb2) hb3; have hs3 := hK3.lt)
        | (go_at_call 13; refine (to_w ((HLP.out.below hlow3 (Nat.le_refl _)).below (low_alloc _ _) (Nat.le_refl _)) (by omega)).mono ?_; rintro e w4 ⟨a4, kk4, rfl, hl4, hb4⟩; have hb34 := stepAny (low_alloc w3 (.cells #[.bool false, .bool false, .bool false, .bool false, .bool false, .slice a ls.length cap] 25 (0, 0))) hb4; have hK4 := hK3.below hb34 hK3.lt; have hlow4 := stepAny hlow3 hb34)
        | (go_at_call 10; refine (awake_w _).mono ?_; rintro e w1 ⟨rfl, hb1⟩; obtain ⟨p0, p1, p2, p3, p4, p5, -⟩ := (hK0.below hb1 hK0.lt).box))
      clear hM hnb p0 p1 p2 p3 p4 p5 q0 q1 q2 q3 q4 q5 r0 r1 r2 r3 r4 r5 HF HV
      obtain ⟨k0, k1, k2, k3, k4, hmk⟩ := mk5 M
      have hO5 : OW w w4.heap.size m0 m1 m2 m3 m4 false false false false false (.slice a ls.length cap) (.slice a4 ls.length kk4) ls (w4.alloc (.cells #[.bool false, .bool false, .bool false, .bool false, .bool false, .slice a4 ls.length kk4] 30 (0, 0))) :=
        ⟨hK4.alloc _, Bk.new w4 _ (stC false false false false false (.slice a4 ls.length kk4)), hl4.below (low_alloc _ _) (Nat.le_refl _), hlow4.alloc hlow4.size _, hK4.lt⟩
      obtain ⟨W5, hW5⟩ : ∃ W5, W5 = w4.alloc (.cells #[.bool false, .bool false, .bool false, .bool false, .bool false, .slice a4 ls.length kk4] 30 (0, 0)) := ⟨_, rfl⟩
      rw [← hW5]
      rw [← hW5] at hO5
      clear hW5 hl4 hK4 hlow4 hb4 hb34 hK3 hlow3 hs3 hb1 hb2 hb3 hlow0 hK0
      generalize w4.heap.size = b7 at *
      have HMK := Lib.hid hmk
      clear hmk
      go_cut [] (fun W => ∃ a5 k5, OW w b7 m0 m1 m2 m3 m4 k0 k1 k2 k3 k4 (.slice a ls.length cap) (.slice a5 ls.length k5) ls W)
      case first =>
        by_cases hM0 : M = 0
        · subst hM0
          have hk := HMK.out
          simp only [Iq.mk, if_pos, Iq.nomask, List.cons.injEq, and_true] at hk
          obtain ⟨rfl, rfl, rfl, rfl, rfl⟩ := hk
          go_wp2
          go_meet
          exact ⟨_, _, hO5⟩
        · have hM1 : 0 < M := by omega
          have H3 : Hid (∀ W a5 k5, Lp W (.slice a5 ls.length k5) ls → Calls Try.prog 14 #[.agg #[.bool false, .bool false, .bool false, .bool false, .bool false, .slice a5 ls.length k5], .int .i64 (M : Int), .bool true] W fun e w' => ∃ a k, e = .returned (.tuple #[.agg #[.bool k0, .bool k1, .bool k2, .bool k3, .bool k4, .slice a ls.length k], .int .i64 0]) ∧ LpF W.heap.size w' (.slice a ls.length k) ls ∧ Below W.heap.size W w') := fun W a5 k5 hl =>
            mask_o (M : Int) true hl (by have := Iq.mask_on (m := M) (by omega) hM4 HOK.out hl32; rw [HMK.out] at this; exact this)
          obtain ⟨p0, p1, p2, p3, p4, p5, -⟩ := hO5.a.box
          have HLL := Lib.hid hO5.l
          clear hM0
          go_wp2_with (go_at_call 14; (with_reducible refine (H3.out _ _ _ HLL.out).mono ?_); rintro e w6 ⟨a6, k6, rfl, hl6, hb6⟩; have hO6 := hO5.step hb6; obtain ⟨q0, q1, q2, q3, q4, q5, z0, z1, z2, z3, z4, z5⟩ := hO6.a.box; have hs7 := hO6.a.lt)
          go_meet
          exact ⟨_, _, (hO6.put hl6 hO5.a.lt k0 k1 k2 k3 k4).step (low_alloc _ _)⟩
      case rest =>
        obtain ⟨a5, k5, hO⟩ := hcut
        obtain ⟨p0, p1, p2, p3, p4, p5, -⟩ := hO.s.box
        clear hO5
        obtain ⟨i0, hi, hz0, hz1, hz2⟩ := info_parts Try.infoRLine
        have HES := HLP.out
        go_wp2
        go_loopw [10, 11, 53] (fun v10 _ i wr => ∃ (k : Nat) (a5 : Option Addr) (k5 : Nat) (es' : List El), i = .int .i64 k ∧ k ≤ ls.length ∧ OW w b7 m0 m1 m2 m3 m4 k0 k1 k2 k3 k4 (.slice a ls.length cap) (.slice a5 (Iq.keepL M ls k).length k5) (Iq.keepL M ls k) wr ∧ LpA wr v10 (.slice a5 (Iq.keepL M ls k).length k5) (Iq.keepL M ls k) ∧ Lo wr (b7 + 1) 37 v10 es' (Iq.leftL M ls k) ∧ Hid (∀ e ∈ es', ∀ g, w.heap.size ≤ g → Far g e)) (fun _ _ i _ => ls.length - (intOf i).toNat)
        case atStart =>
          refine ⟨0, a5, k5, [], rfl, Nat.zero_le _, ?_, ?_, ?_, fun e he => by simp at he⟩
          · rw [Iq.keepL_zero]; exact hO
          · rw [Iq.keepL_zero]; exact hO.l.lpa rfl
          · rw [Iq.leftL_zero]; exact Lo.nil
        case round =>
          clear hO p0 p1 p2 p3 p4 p5
          obtain ⟨k, a5, k5, es', rfl, hk, hO, hA, ho, HF⟩ := hrel
          obtain ⟨av, cv, rfl⟩ := own_slice4 ho.own
          have s5 := hO.s.box.p5
          by_cases hlt : k < ls.length
          · obtain ⟨b, off, u2, rfl, hb, h4, hs2⟩ := HEL.out k hlt
            have h4r := h4.below hO.low hb
            have f1 : (0 : Int) ≤ (k : Int) := by omega
            have f2 : (k : Int) < (ls.length : Int) := by omega
            by_cases hd : ls[k].1 = (M : Int)
            · have HKY := Lib.hid (Iq.keepL_yes hlt hd)
              have HLY := Lib.hid (Iq.leftL_yes hlt hd)
              have hll : (Iq.leftL M ls k).length ≤ 32 := by
                have := (List.filter_sublist (p := fun l : Iq.Ln => decide (l.1 = (M : Int))) (l := ls.take k)).length_le
                have h2 : (ls.take k).length ≤ ls.length := by simp; omega
                unfold Iq.leftL
                omega
              have hel' : es'.length ≤ 32 := by rw [ho.len]; exact hll
              generalize ls[k] = y at *
              obtain ⟨d, t, nn, ys⟩ := y
              simp only at hd
              subst hd
              obtain ⟨a2, c2, rfl, -⟩ := id hs2
              have HS2 := Lib.hid hs2
              simp only at h4r hs2
              have hs0 := hO.s.lt
              have hs7 := hO.a.lt
              have HAPP : Hid (∀ v7 w7, w7.ownsRow (b7 + 1) 37 4 v7 (es'.length + 1) ((es' ++ [((M : Int), t, nn, a2, ys.length, c2)]).flatMap el) → Spares (wr.alloc (.cells #[.int .i64 (M : Int), .int .i64 t, .int .i64 nn, .slice a2 ys.length c2] 37 (0, 0))) w7 (.slice av es'.length cv) v7 → Below (b7 + 1) (wr.alloc (.cells #[.int .i64 (M : Int), .int .i64 t, .int .i64 nn, .slice a2 ys.length c2] 37 (0, 0))) w7 →
                  OW w b7 m0 m1 m2 m3 m4 k0 k1 k2 k3 k4 (.slice (some ⟨b, off, none⟩) ls.length cap) (.slice a5 (Iq.keepL M ls (k + 1)).length k5) (Iq.keepL M ls (k + 1)) w7 ∧ LpA w7 v7 (.slice a5 (Iq.keepL M ls (k + 1)).length k5) (Iq.keepL M ls (k + 1)) ∧ Lo w7 (b7 + 1) 37 v7 (es' ++ [((M : Int), t, nn, a2, ys.length, c2)]) (Iq.leftL M ls (k + 1)) ∧ (∀ e ∈ es' ++ [((M : Int), t, nn, a2, ys.length, c2)], ∀ g, w.heap.size ≤ g → Far g e)) := fun v7 w7 ho7 hsp hb7 => by
                have hX := low_alloc wr (.cells #[.int .i64 (M : Int), .int .i64 t, .int .i64 nn, .slice a2 ys.length c2] 37 (0, 0))
                have hA7 := (hA.below hX).spare hsp
                have hlnw : LnR w ((M : Int), t, nn, a2, ys.length, c2) ((M : Int), t, nn, ys) := ⟨rfl, rfl, rfl, HS2.out⟩
                have hfar : ∀ g, w.heap.size ≤ g → Far g ((M : Int), t, nn, a2, ys.length, c2) := fun g hg => Far.of_low hlnw hg
                have h1 := (ho.low hX).snoc ((hlnw.below hO.low (Nat.le_refl _)).below hX (Nat.le_refl _)) (fun g hg => hfar g (by have := (ho.own.lt g hg).1; have := hO.lt; omega)) ho7 hsp
                rw [HKY.out, HLY.out]
                exact ⟨⟨(hO.s.alloc _).below hb7 (by have := hO.lt; omega), (hO.a.alloc _).below hb7 (by omega), hA7.lp, (hO.low.alloc hO.low.size _).trans (hb7.mono (by have := hO.lt; omega)), hO.lt⟩, hA7, h1, fun e he g hg => by
                  rcases List.mem_append.1 he with he | he
                  · exact HF.out e he g hg
                  · simp at he; subst he; exact hfar g hg⟩
              obtain ⟨x0, x1, x2, x3⟩ := h4r
              have hown := ho.own
              have hb7s : b7 + 1 ≤ wr.heap.size := hs7
              have hbw : b < wr.heap.size := by have := hO.low.size; omega
              clear h4 HS2 hs2 hA ho HF hO HLY HKY hll
              go_wp2_with (at_builtin; refine wpList_append_m el el_len (by omega) el_one rfl (.tmp 64) (.tmp 70) 23 rfl (b7 + 1) 37 i0 (.agg #[.int .i64 0, .int .i64 0, .int .i64 0, .slice none 0 0]) 48 Try.underlying23 hi hz0 hz1 hz2 rfl (.slice av es'.length cv) es'.length es' rfl (hown.alloc _) (some ⟨wr.heap.size, 0, none⟩) 1 [((M : Int), t, nn, a2, ys.length, c2)] 1 rfl rfl (by simp) (by omega) (Rm.one (enc := el) wr ((M : Int), t, nn, a2, ys.length, c2) _ _ rfl) (by unfold maxLen; omega) (by omega) (by simp; omega) ?_; intro v7 w7 ho7 hsp7 hb7; obtain ⟨n1, n2, n3, n4⟩ := HAPP.out v7 w7 ho7 hsp7 hb7)
              clear ho7 hsp7 hb7 HAPP
              go_roundw
              case rel => exact ⟨k + 1, a5, k5, _, by go_num, by omega, n1, n2, n3, n4⟩
              case measure => simp [intOf]; omega
            · have HKN := Lib.hid (Iq.leftL_no hlt hd)
              have htk := Iq.take_keep hM4 HOK.out hl32 hlt hd
              rw [HMK.out] at htk
              generalize ls[k] = y at *
              obtain ⟨d, t, nn, ys⟩ := y
              have q1 : (d == (M : Int)) = false := by simpa using hd
              have HT : Hid (∀ W, Lp W (.slice a5 (Iq.keepL M ls k).length k5) (Iq.keepL M ls k) → Calls Try.prog 15 #[.agg #[.bool k0, .bool k1, .bool k2, .bool k3, .bool k4, .slice a5 (Iq.keepL M ls k).length k5]] W fun e w' => ∃ a kk a2 k2', e = .returned (.tuple #[.agg #[.bool k0, .bool k1, .bool k2, .bool k3, .bool k4, .slice a (Iq.keepL M ls (k + 1)).length kk], .agg #[.int .i64 d, .int .i64 t, .int .i64 nn, .slice a2 ys.length k2'], .bool true]) ∧ LpF W.heap.size w' (.slice a (Iq.keepL M ls (k + 1)).length kk) (Iq.keepL M ls (k + 1)) ∧ LvF W.heap.size w' (.slice a2 ys.length k2') ys ∧ Below W.heap.size W w') := fun W hl => take_o hl htk
              obtain ⟨a2, c2, rfl, -⟩ := id hs2
              have HS2 := Lib.hid hs2
              simp only at h4r hs2
              have hs0 := hO.s.lt
              have hs7 := hO.a.lt
              have hlw := hO.lt
              obtain ⟨x0, x1, x2, x3⟩ := h4r
              obtain ⟨r0, r1, r2, r3, r4, r5, -⟩ := hO.a.box
              have HLL := Lib.hid hO.l
              clear hd htk
              go_upto_region 18 with (go_at_call 15; (with_reducible refine (HT.out _ HLL.out).mono ?_); rintro e w6 ⟨a6, k6, a9, k9, rfl, hl6, hv6, hb6⟩)
              have hs6 := hb6.size
              obtain ⟨W8, hW8⟩ : ∃ W8, W8 = (w6.alloc (.cells #[.bool k0, .bool k1, .bool k2, .bool k3, .bool k4, .slice a6 (Iq.keepL M ls (k + 1)).length k6] 30 (0, 0))).alloc (.cells #[.int .i64 d, .int .i64 t, .int .i64 nn, .slice a9 ys.length k9] 38 (0, 0)) := ⟨_, rfl⟩
              have hb68 : Below w6.heap.size w6 W8 := hW8 ▸ (low_alloc w6 _).alloc (by simp) _
              have hb8 : Below wr.heap.size wr W8 := stepAny hb6 hb68
              have hK12 : Bk W8 w6.heap.size 30 (stC k0 k1 k2 k3 k4 (.slice a6 (Iq.keepL M ls (k + 1)).length k6)) := hW8 ▸ (Bk.new w6 _ (stC k0 k1 k2 k3 k4 (.slice a6 (Iq.keepL M ls (k + 1)).length k6))).alloc _
              have hK13 : Bk W8 (w6.heap.size + 1) 38 [.int .i64 d, .int .i64 t, .int .i64 nn, .slice a9 ys.length k9] := hW8 ▸ Bk.newAt _ _ [_, _, _, _] (by simp)
              rw [← hW8]
              clear hW8
              have hO8 := hO.step hb8
              have hl8 : LpF wr.heap.size W8 (.slice a6 (Iq.keepL M ls (k + 1)).length k6) (Iq.keepL M ls (k + 1)) := hl6.keep fun b _ hlt => hb68.block b hlt
              have hv8 : Sl eb W8 (.slice a9 ys.length k9) ys := hv6.1.below hb68 (Nat.le_refl _)
              have ho8 := ho.low hb8
              have h48 : At4 W8 b (off + k * 4) d t nn (.slice a2 ys.length c2) := (h4.below hO.low hb).below hb8 (by have := hO.low.size; omega)
              have hsl8 : Sl eb W8 (.slice a2 ys.length c2) ys := HS2.out.below hO8.low (Nat.le_refl _)
              have HQ : Hid (∀ W, Below W8.heap.size W8 W → W.cell? ⟨w6.heap.size + 1, 0, none⟩ = some (.int .i64 d) ∧ W.cell? ⟨w6.heap.size + 1, 1, none⟩ = some (.int .i64 t) ∧ W.cell? ⟨w6.heap.size + 1, 2, none⟩ = some (.int .i64 nn) ∧ W.cell? ⟨w6.heap.size + 1, 3, none⟩ = some (.slice a9 ys.length k9) ∧ W.cell? ⟨w.heap.size, 5, none⟩ = some (.slice (some ⟨b, off, none⟩) ls.length cap) ∧ At4 W b (off + k * 4) d t nn (.slice a2 ys.length c2)) := fun W hW =>
                have c13 := (hK13.below hW hK13.lt)
                ⟨c13.cell 0, c13.cell 1, c13.cell 2, c13.cell 3, (hO8.step hW).s.box.p5, h48.below hW (by have := hO8.low.size; omega)⟩
              have HSL : Hid (∀ W, Below W8.heap.size W8 W → Calls Try.prog 16 #[.agg #[.int .i64 d, .int .i64 t, .int .i64 nn, .slice a9 ys.length k9], .agg #[.int .i64 d, .int .i64 t, .int .i64 nn, .slice a2 ys.length c2]] W fun e w' => e = .returned (.bool true) ∧ Below W.heap.size W w') := fun W hW =>
                (sameLine_w (x := (d, t, nn, ys)) (y := (d, t, nn, ys)) ⟨_, rfl, hv8.below hW (Nat.le_refl _)⟩ ⟨_, rfl, hsl8.below hW (Nat.le_refl _)⟩).mono fun _ _ h => ⟨by rw [h.1]; simp, h.2⟩
              have HEN : Hid (∀ W, Below W8.heap.size W8 W →
                  OW w b7 m0 m1 m2 m3 m4 k0 k1 k2 k3 k4 (.slice (some ⟨b, off, none⟩) ls.length cap) (.slice a5 (Iq.keepL M ls k).length k5) (Iq.keepL M ls k) W ∧ Bk W w6.heap.size 30 (stC k0 k1 k2 k3 k4 (.slice a6 (Iq.keepL M ls (k + 1)).length k6)) ∧
                  OW w b7 m0 m1 m2 m3 m4 k0 k1 k2 k3 k4 (.slice (some ⟨b, off, none⟩) ls.length cap) (.slice a6 (Iq.keepL M ls (k + 1)).length k6) (Iq.keepL M ls (k + 1)) ((((((W.setCell ⟨b7, 0, none⟩ (.bool k0)).setCell ⟨b7, 1, none⟩ (.bool k1)).setCell ⟨b7, 2, none⟩ (.bool k2)).setCell ⟨b7, 3, none⟩ (.bool k3)).setCell ⟨b7, 4, none⟩ (.bool k4)).setCell ⟨b7, 5, none⟩ (.slice a6 (Iq.keepL M ls (k + 1)).length k6)) ∧
                  LpA ((((((W.setCell ⟨b7, 0, none⟩ (.bool k0)).setCell ⟨b7, 1, none⟩ (.bool k1)).setCell ⟨b7, 2, none⟩ (.bool k2)).setCell ⟨b7, 3, none⟩ (.bool k3)).setCell ⟨b7, 4, none⟩ (.bool k4)).setCell ⟨b7, 5, none⟩ (.slice a6 (Iq.keepL M ls (k + 1)).length k6)) (.slice av es'.length cv) (.slice a6 (Iq.keepL M ls (k + 1)).length k6) (Iq.keepL M ls (k + 1)) ∧
                  Lo ((((((W.setCell ⟨b7, 0, none⟩ (.bool k0)).setCell ⟨b7, 1, none⟩ (.bool k1)).setCell ⟨b7, 2, none⟩ (.bool k2)).setCell ⟨b7, 3, none⟩ (.bool k3)).setCell ⟨b7, 4, none⟩ (.bool k4)).setCell ⟨b7, 5, none⟩ (.slice a6 (Iq.keepL M ls (k + 1)).length k6)) (b7 + 1) 37 (.slice av es'.length cv) es' (Iq.leftL M ls (k + 1))) := fun W hW => by
                have hlW := hl8.keep (w' := W) fun b _ hlt => hW.block b hlt
                refine ⟨hO8.step hW, hK12.below hW hK12.lt, (hO8.step hW).put hlW hs7 k0 k1 k2 k3 k4, (hlW.keep fun g hg _ => set6_heap (by omega) _ _ _ _ _ _).lpa fun g hg => (ho.own.lt g hg).2, ?_⟩
                rw [HKN.out]
                exact (ho8.low hW).other (g0 := b7) (fun e => by have := (ho.own.lt _ e).1; omega) (fun e he => HF.out e he b7 (by omega)) fun b hb => set6_heap hb _ _ _ _ _ _
              have hl0 := low_drew W8
              obtain ⟨c0, c1, c2', c3, c5, ⟨y0, y1, y2, y3⟩⟩ := HQ.out _ hl0
              clear hb6 hb68 hb8 hK12 hK13 hO8 hl8 hv8 ho8 h48 hsl8 hl6 hv6 hO hA ho h4 hs2 HS2 HT HLL x0 x1 x2 x3 r0 r1 r2 r3 r4 r5 s5 HKN
              go_region_held3 (fun w' => w'.cell? ⟨w6.heap.size + 1, 0, none⟩ = some (.int .i64 d) ∧ w'.cell? ⟨w6.heap.size + 1, 1, none⟩ = some (.int .i64 t) ∧ w'.cell? ⟨w6.heap.size + 1, 2, none⟩ = some (.int .i64 nn) ∧ w'.cell? ⟨w6.heap.size + 1, 3, none⟩ = some (.slice a9 ys.length k9) ∧ w'.cell? ⟨w.heap.size, 5, none⟩ = some (.slice (some ⟨b, off, none⟩) ls.length cap) ∧ w'.cell? ⟨b, off + k * 4, none⟩ = some (.int .i64 d) ∧ w'.cell? ⟨b, off + k * 4 + 1, none⟩ = some (.int .i64 t) ∧ w'.cell? ⟨b, off + k * 4 + 2, none⟩ = some (.int .i64 nn) ∧ w'.cell? ⟨b, off + k * 4 + 3, none⟩ = some (.slice a2 ys.length c2)) (first | go_keep | exact ⟨by assumption, by assumption, by assumption, by assumption, by assumption, by assumption, by assumption, by assumption, by assumption⟩) ((go_at_call 16; refine (HSL.out _ (by assumption)).mono ?_; rintro e w9 ⟨rfl, hb9⟩; have hl9 := stepAny (by assumption) hb9; obtain ⟨c09, c19, c29, c39, c59, ⟨y09, y19, y29, y39⟩⟩ := HQ.out w9 hl9))
              obtain ⟨hO9, hK9, n1, n2, n3⟩ := HEN.out w9 hl9
              obtain ⟨r0, r1, r2, r3, r4, r5, -⟩ := hK9.box
              obtain ⟨-, -, -, -, -, -, z0, z1, z2, z3, z4, z5⟩ := hO9.a.box
              obtain ⟨o0, o1, o2, o3, o4, o5, -⟩ := hO9.a.box
              clear HEN HQ HSL hO9 hK9
              go_wp2
              go_roundw
              case rel => exact ⟨k + 1, a6, k6, es', by go_num, by omega, n1, n2, n3, HF.out⟩
              case measure => simp [intOf]; omega
          · obtain rfl : k = ls.length := by omega
            have hte := Iq.take_end hM4 HOK.out hl32
            rw [HMK.out] at hte
            have HLK := Lib.hid (Iq.keepL_end M ls)
            have hokl : Iq.okAll (Iq.keepL M ls ls.length) = true := Iq.okAll_sub HOK.out (Iq.keepL_sub M ls _)
            have hll : (Iq.keepL M ls ls.length).length ≤ 32 := Nat.le_trans (Iq.keepL_sub M ls _).length_le hl32
            have hlen := ho.len
            rw [HLK.out] at hO hA hokl hll hte
            generalize Iq.leftL M ls ls.length = L at *
            have HOKL := Lib.hid hokl
            have HT : Hid (∀ W, Lp W (.slice a5 L.length k5) L → Calls Try.prog 15 #[.agg #[.bool k0, .bool k1, .bool k2, .bool k3, .bool k4, .slice a5 L.length k5]] W fun e w' => ∃ a kk a2 k2', e = .returned (.tuple #[.agg #[.bool false, .bool false, .bool false, .bool false, .bool false, .slice a 0 kk], .agg #[.int .i64 0, .int .i64 0, .int .i64 0, .slice a2 0 k2'], .bool false]) ∧ LpF W.heap.size w' (.slice a 0 kk) [] ∧ LvF W.heap.size w' (.slice a2 0 k2') [] ∧ Below W.heap.size W w') := fun W hl => take_o (l := []) (ys := []) hl hte
            have q1 : ((L.length : Int) != (es'.length : Int)) = false := by simp [hlen]
            have HLEN := Lib.hid hlen
            have hHL := Lib.hid hO.l
            have hs7 := hO.a.lt
            obtain ⟨r0, r1, r2, r3, r4, r5, -⟩ := hO.a.box
            clear hte hlen hokl
            go_upto_if 108 with (go_at_call 15; (with_reducible refine (HT.out _ hHL.out).mono ?_); rintro e w6 ⟨a6, k6, a9, k9, rfl, -, -, hb6⟩; have hO6 := hO.step hb6; have p56 := hO6.a.box.p5; have hs76 := hO6.a.lt)
            have hb8 : Below wr.heap.size wr ((w6.alloc (.cells #[.bool false, .bool false, .bool false, .bool false, .bool false, .slice a6 0 k6] 30 (0, 0))).alloc (.cells #[.int .i64 0, .int .i64 0, .int .i64 0, .slice a9 0 k9] 38 (0, 0))) := stepAny hb6 ((low_alloc w6 _).alloc (by simp) _)
            generalize (w6.alloc (.cells #[.bool false, .bool false, .bool false, .bool false, .bool false, .slice a6 0 k6] 30 (0, 0))).alloc (.cells #[.int .i64 0, .int .i64 0, .int .i64 0, .slice a9 0 k9] 38 (0, 0)) = W8 at *
            have hO8 := hO.step hb8
            have ho8 := ho.low hb8
            have hlt7 := hO8.a.lt
            have hlw := hO8.lt
            clear hb8 hO6 p56 hs76 hb6 hO hA ho r0 r1 r2 r3 r4 r5 HT hHL s5
            go_cut [] (fun W => ∃ a8 k8, Bk W b7 30 (stC false false false false false (.slice a8 L.length k8)) ∧ Lp W (.slice a8 L.length k8) L ∧ Lo W (b7 + 1) 37 (.slice av es'.length cv) es' L ∧ Below w.heap.size w W)
            case first =>
              by_cases hM0 : M = 0
              · subst hM0
                have hk := HMK.out
                simp only [Iq.mk, if_pos, Iq.nomask, List.cons.injEq, and_true] at hk
                obtain ⟨rfl, rfl, rfl, rfl, rfl⟩ := hk
                go_wp2
                go_meet
                exact ⟨_, _, hO8.a, hO8.l, ho8, hO8.low⟩
              · have hM1 : 0 < M := by omega
                have H3 : Hid (∀ W a5 k5, Lp W (.slice a5 L.length k5) L → Calls Try.prog 14 #[.agg #[.bool k0, .bool k1, .bool k2, .bool k3, .bool k4, .slice a5 L.length k5], .int .i64 (M : Int), .bool false] W fun e w' => ∃ a k, e = .returned (.tuple #[.agg #[.bool false, .bool false, .bool false, .bool false, .bool false, .slice a L.length k], .int .i64 0]) ∧ LpF W.heap.size w' (.slice a L.length k) L ∧ Below W.heap.size W w') := fun W a5 k5 hl =>
                  mask_o (M : Int) false hl (by have := Iq.mask_off (m := M) (by omega) hM4 HOKL.out hll; rw [HMK.out] at this; exact this)
                obtain ⟨p0, p1, p2, p3, p4, p5, -⟩ := hO8.a.box
                have HLL := Lib.hid hO8.l
                clear hM0
                go_wp2_with (go_at_call 14; (with_reducible refine (H3.out _ _ _ HLL.out).mono ?_); rintro e w9 ⟨a9, k9, rfl, hl9, hb9⟩; have hO9 := hO8.step hb9; obtain ⟨q0, q1, q2, q3, q4, q5, z0, z1, z2, z3, z4, z5⟩ := hO9.a.box)
                go_meet
                have hP := hO9.put hl9 hlt7 false false false false false
                exact ⟨_, _, hP.a, hP.l, (ho8.low hb9).other (g0 := b7) (fun e => by have := (ho8.own.lt _ e).1; omega) (fun e he => HF.out e he b7 (by omega)) (fun b hb => set6_heap hb _ _ _ _ _ _), hP.low⟩
            case rest =>
              obtain ⟨a8, k8, hK, hL8, hoL, hlow8⟩ := hcut
              obtain ⟨p0, p1, p2, p3, p4, p5, -⟩ := hK.box
              have HLL := Lib.hid hL8
              have HOL := Lib.hid hoL.lp
              clear hO8 ho8 hK hL8 hoL
              go_wp2_with (first
                | (go_at_call 18; (with_reducible refine (from_w HLL.out (by omega)).mono ?_); rintro e w9 ⟨a9, k9, rfl, hl9, hb9⟩)
                | (go_at_call 17; (with_reducible refine (requal_m hl9 (HOL.out.below hb9 (Nat.le_refl _))).mono ?_); rintro e w10 ⟨rfl, hb10⟩))
              go_ret
              exact ⟨ret_bool (by simp), stepAny (stepAny hlow8 hb9) hb10⟩
end Go.Proofs.Ytehniblcodkmaaa
