/-
  The walk of FramesValues (printed by gen/mk08v.py).
-/
import Derived.Test.YtkgheilaleekdaaLwrite
import Derived.Test.YtkgheilaleekdaaArgs2
import Derived.Test.YtkgheilaleekdaaOwn
import Derived.Deep.RegionHeld3
import Derived.Deep.CutBlock
namespace Fr
theorem read_all {ps qs : List (List UInt8)} {f x : Int} {bs : List UInt8} (h : write ps f x bs = (qs, 0)) (hl : qs.length = 96) (hp : ∀ i (h : i < qs.length), qs[i].length = 128) : ∃ p, read qs f 0 128 = (p, 0) ∧ p.length = 128 := by
  by_cases hc : chk ps f x bs.length = 0
  · obtain ⟨-, hok⟩ := chk_zero hc
    obtain ⟨r1, r2, -⟩ := okR_iff.1 hok
    have hk : chk qs f 0 128 = 0 := by
      unfold chk
      rw [if_pos (valid_iff.2 ⟨hl, hp⟩), if_pos (okR_iff.2 ⟨r1, r2, by omega, by omega, by omega, by omega⟩)]
    refine ⟨((page qs f).drop 0).take 128, ?_, ?_⟩
    · unfold read
      rw [if_pos hk]
      rfl
    · obtain ⟨F, rfl⟩ := Int.eq_ofNat_of_zero_le r1
      have hF : F < qs.length := by omega
      have e : page qs (F : Int) = qs[F] := by simp [page, List.getD, hF]
      rw [e, List.drop_zero, List.length_take, hp F hF]
      rfl
  · unfold write at h
    rw [if_neg hc] at h
    injection h with _ h
    exact absurd h hc
end Fr
namespace Go.Proofs.Ytkgheilaleekdaa
open Go.RowKit
set_option linter.unusedVariables false
set_option linter.unusedSimpArgs false

theorem upd_self {α : Type} (f : Nat → α) (k : Nat) : upd f k (f k) = f := by
  funext i
  unfold upd
  split
  · rename_i h; rw [h]
  · rfl

theorem Keeps.to {w W W' : World} {L : List (Nat × TypeId × List Value)} {B : Nat} (h : Keeps w L W) (hb : Below B W W') (hw : w.heap.size ≤ B) (hL : ∀ e ∈ L, e.1 < B) : Keeps w L W' :=
  ⟨h.1.trans (hb.mono hw), fun e he => (h.2 e he).below hb (hL e he)⟩
theorem LK.to {w W W' : World} {u : Value} {f x n : Int} {B : Nat} (h : LK w u f x n W) (hb : Below B W W') (hw : w.heap.size + 1 < B) : LK w u f x n W' :=
  Keeps.to h hb (by omega) fun e he => by simp at he; rcases he with rfl | rfl <;> simp <;> omega
theorem LK.ids {w : World} {u : Value} {f x n : Int} {e : Nat × TypeId × List Value} (he : e ∈ [(w.heap.size, 24, [u]), (w.heap.size + 1, 26, [Value.int .i64 f, .int .i64 x, .int .i64 n])]) : e.1 = w.heap.size ∨ e.1 = w.heap.size + 1 := by
  rcases List.mem_cons.1 he with rfl | he
  · exact .inl rfl
  · rcases List.mem_cons.1 he with rfl | he
    · exact .inr rfl
    · cases he
theorem LK.set {w W : World} {u : Value} {f x n : Int} (h : LK w u f x n W) {t : Nat} (ht : w.heap.size + 1 < t) (i : Nat) (v : Value) : LK w u f x n (W.setCell ⟨t, i, none⟩ v) :=
  Keeps.set h (by show w.heap.size ≤ t; omega) (fun e he => by have := LK.ids he; show e.1 ≠ t; omega) v

theorem range_getD {ps : List (List UInt8)} {n : Nat} (h : ps.length = n) : (List.range n).map (fun i => ps.getD i []) = ps := by
  subst h
  refine List.ext_getElem (by simp) fun i h1 h2 => ?_
  simp [List.getD, h2]

/-- Only blocks of an interval are written. -/
structure Btw (lo hi : Nat) (W W' : World) : Prop where
  low : Below lo W W'
  rest : ∀ k, hi ≤ k → k < W.heap.size → W'.heap[k]? = W.heap[k]?
theorem Btw.refl (lo hi : Nat) (W : World) : Btw lo hi W W := ⟨Below.refl _ _, fun _ _ _ => rfl⟩
theorem Btw.size {lo hi : Nat} {W W' : World} (h : Btw lo hi W W') : W.heap.size ≤ W'.heap.size := h.low.size
theorem Btw.trans {lo hi : Nat} {W W' W2 : World} (h : Btw lo hi W W') (k : Btw lo hi W' W2) : Btw lo hi W W2 := ⟨h.low.trans k.low, fun i h1 h2 => (k.rest i h1 (Nat.lt_of_lt_of_le h2 h.size)).trans (h.rest i h1 h2)⟩
theorem Btw.of {lo hi : Nat} {W W' : World} (h : Below W.heap.size W W') (hl : lo ≤ W.heap.size) : Btw lo hi W W' := ⟨h.mono hl, fun k _ h2 => h.block k h2⟩
theorem Btw.set {lo hi : Nat} {W W' : World} (h : Btw lo hi W W') {g : Nat} (h1 : lo ≤ g) (h2 : g < hi) (i : Nat) (u : Value) : Btw lo hi W (W'.setCell ⟨g, i, none⟩ u) :=
  ⟨h.low.setCell h1 _, fun k hk hw => (Below.heap_setCell _ _ _ _ (by show k ≠ g; omega)).trans (h.rest k hk hw)⟩
theorem Btw.grown {lo hi : Nat} {W W' W2 : World} (h : Btw lo hi W W') {g : Nat} (hg : W'.grownBy W2 (some g)) (h1 : lo ≤ g) (h2 : g < hi) (h3 : lo ≤ W'.heap.size) : Btw lo hi W W2 :=
  ⟨h.low.grown hg h3 (fun k e => by injection e with e; omega), fun k hk hw => (hg.block k (Nat.lt_of_lt_of_le hw h.size) (by intro e; injection e with e; omega)).trans (h.rest k hk hw)⟩
theorem own_put {w : World} {base g n cap : Nat} {e : TypeId} {ms : List Int} (h : w.ownsRow base e 1 (.slice (some ⟨g, 0, none⟩) n cap) n (ms.map (Value.int .u8))) (k : Nat) (m : Int) :
    (w.setCell ⟨g, k, none⟩ (.int .u8 m)).ownsRow base e 1 (.slice (some ⟨g, 0, none⟩) n cap) n ((ms.set k m).map (Value.int .u8)) := by
  rw [List.map_set]
  exact (h.stored k _).1
def RQ (V : Nat → Nat → UInt8) (i kk : Nat) (Q : Nat → List UInt8) : Prop := ∀ j, j < 96 → ∀ k, k < 128 → (Q j).getD k 0 = if j < i ∨ (j = i ∧ k < kk) then V j k + 1 else V j k
theorem RQ.start {V : Nat → Nat → UInt8} {Q : Nat → List UInt8} (h : ∀ j k, V j k = (Q j).getD k 0) : RQ V 0 0 Q := fun j _ k _ => by rw [if_neg (by omega), h]
theorem RQ.step {V : Nat → Nat → UInt8} {i kk : Nat} {Q : Nat → List UInt8} (h : RQ V i kk Q) (hk : kk < 128) (hl : (Q i).length = 128) : RQ V i (kk + 1) (upd Q i ((Q i).set kk (V i kk + 1))) := by
  intro j hj k hk2
  by_cases e : j = i
  · subst e
    rw [upd_same]
    by_cases e2 : k = kk
    · subst e2
      rw [if_pos (by omega)]
      simp [List.getD, hl, hk]
    · have h1 := h j hj k hk2
      simp only [List.getD] at h1 ⊢
      rw [List.getElem?_set_ne (Ne.symm e2), h1]
      by_cases e3 : k < kk
      · rw [if_pos (Or.inr ⟨by trivial, e3⟩), if_pos (Or.inr ⟨by trivial, Nat.lt_succ_of_lt e3⟩)]
      · rw [if_neg (by omega), if_neg (by omega)]
  · rw [upd_ne _ _ e, h j hj k hk2]
    by_cases e3 : j < i
    · rw [if_pos (by omega), if_pos (by omega)]
    · rw [if_neg (by omega), if_neg (by omega)]
theorem RQ.next {V : Nat → Nat → UInt8} {i : Nat} {Q : Nat → List UInt8} (h : RQ V i 128 Q) : RQ V (i + 1) 0 Q := by
  intro j hj k hk
  rw [h j hj k hk]
  by_cases e3 : j < i + 1
  · rw [if_pos (by omega), if_pos (by omega)]
  · rw [if_neg (by omega), if_neg (by omega)]
theorem RQ.at {V : Nat → Nat → UInt8} {i kk : Nat} {Q : Nat → List UInt8} (h : RQ V i kk Q) (hi : i < 96) (hk : kk < 128) (hl : (Q i).length = 128) : (Q i)[kk]'(by omega) = V i kk := by
  have h1 := h i hi kk hk
  rw [if_neg (by omega)] at h1
  simpa [List.getD, hl, hk] using h1
theorem RQ.all {V : Nat → Nat → UInt8} {Q : Nat → List UInt8} (h : RQ V 96 0 Q) {i kk : Nat} (hi : i < 96) (hk : kk < 128) (hl : (Q i).length = 128) : (Q i)[kk]'(by omega) = V i kk + 1 := by
  have h1 := h i hi kk hk
  rw [if_pos (by omega)] at h1
  simpa [List.getD, hl, hk] using h1
theorem Ow.tab {W : World} {B N go co : Nat} {bl cs : Nat → Nat} {Q : Nat → List UInt8} (h : Ow W B (.slice (some ⟨go, 0, none⟩) N co) N bl cs Q) {i : Nat} (hi : i < N) : W.cell? ⟨go, i, none⟩ = some (.slice (some ⟨bl i, 0, none⟩) 128 (cs i)) := by
  rw [h.outer.cellAt i (by omega)]
  simp [hi, row128]
theorem u8s (b : UInt8) : IntKind.u8.wrap ((b.toNat : Int) + 1) = ((b + 1).toNat : Int) := by
  have h := b.toNat_lt
  simp only [IntKind.wrap, IntKind.bits, IntKind.signed, Bool.false_and, UInt8.toNat_add]
  simp
theorem u8m (b : UInt8) : ((b.toNat : Int) + 1) % 256 = ((b + 1).toNat : Int) := by
  rw [UInt8.toNat_add]
  simp
theorem Btw.same {lo hi : Nat} {W W' : World} (h : Btw lo hi W W') {k : Nat} (hk : k < lo ∨ hi ≤ k) (hw : k < W.heap.size) : W'.heap[k]? = W.heap[k]? := hk.elim (h.low.block k) fun h1 => h.rest k h1 hw

/-- What Write left, where it answered no error. -/
def Wres (B : Nat) (ec : Int) (qs : List (List UInt8)) (v : Value) (W : World) : Prop := ec = 0 → ∃ gm hm, v = .slice (some ⟨hm, 0, none⟩) 96 96 ∧ B ≤ gm ∧ B ≤ hm ∧ gm ≠ hm ∧ Fm W gm hm qs
def GotV (W0 : World) (ec : Int) (qs : List (List UInt8)) (s10 s11 : Value) (W : World) : Prop :=
  ∃ g a4 n4 c4, s10 = .pointer (some ⟨g, 0, none⟩) ∧ s11 = .int .i64 ec ∧ Below W0.heap.size W0 W ∧ W0.heap.size ≤ g ∧ Bk W g 30 [.slice a4 n4 c4] ∧
    (ec = 0 → ∃ gm hm, (Value.slice a4 n4 c4) = .slice (some ⟨hm, 0, none⟩) 96 96 ∧ W0.heap.size ≤ gm ∧ W0.heap.size ≤ hm ∧ gm ≠ hm ∧ g ≠ gm ∧ g ≠ hm ∧ Fm W gm hm qs)
theorem GotV.new {W0 W4 : World} {ec : Int} {qs : List (List UInt8)} {a4 : Option Addr} {n4 c4 B : Nat} (hl : Below W0.heap.size W0 W4) (hr : Wres B ec qs (.slice a4 n4 c4) W4) (hB : W0.heap.size ≤ B) :
    GotV W0 ec qs (.pointer (some ⟨W4.heap.size, 0, none⟩)) (.int .i64 ec) (W4.alloc (.cells #[.slice a4 n4 c4] 30 (0, 0))) :=
  ⟨_, a4, n4, c4, rfl, rfl, hl.alloc hl.size _, hl.size, Bk.newAt _ _ [_] rfl, fun h => by
    obtain ⟨gm, hm, h1, h2, h3, h4, h5⟩ := hr h
    have := h5.lt
    exact ⟨gm, hm, h1, by omega, by omega, h4, by omega, by omega, h5.below (low_alloc W4 _) (Nat.le_refl _)⟩⟩
theorem GotV.old {W0 W4 X : World} {ec : Int} {qs : List (List UInt8)} {a4 : Option Addr} {n4 c4 B g : Nat} {u : Value} (hl : Below W0.heap.size W0 W4) (hr : Wres B ec qs (.slice a4 n4 c4) W4) (hB : W0.heap.size ≤ B) (hg : W0.heap.size ≤ g) (hgB : g < B)
    (hX : Bk X g 30 [u]) (hXW : Below X.heap.size X W4) :
    GotV W0 ec qs (.pointer (some ⟨g, 0, none⟩)) (.int .i64 ec) (W4.setCell ⟨g, 0, none⟩ (.slice a4 n4 c4)) :=
  ⟨_, a4, n4, c4, rfl, rfl, hl.setCell hg _, hg, (hX.below hXW hX.lt).set 0 _, fun h => by
    obtain ⟨gm, hm, h1, h2, h3, h4, h5⟩ := hr h
    exact ⟨gm, hm, h1, by omega, by omega, h4, by omega, by omega, h5.keep (Below.heap_setCell _ _ _ _ (by show gm ≠ g; omega)) (Below.heap_setCell _ _ _ _ (by show hm ≠ g; omega))⟩⟩

set_option maxRecDepth 20000 in
set_option maxHeartbeats 16000000 in
theorem lvalues_w {w : World} {v0 v1 v2 : Value} (h0 : IsMem w v0) (h1 : IsAt w v1) (h2 : IsBytes w v2) :
    Calls Try.prog 4 #[v0, v1, v2] w fun e w' => e = .returned (.bool true) ∧ Below w.heap.size w w' := by
  obtain ⟨u, ps, rfl, hv⟩ := h0
  obtain ⟨f, x, n, rfl, -, -, -⟩ := h1
  obtain ⟨bs, hb⟩ := h2
  have HF := Lib.hid (fun w' (hb : Below w.heap.size w w') => rfew_w (hv.below hb (Nat.le_refl _)))
  have HVA := Lib.hid (fun w' (hb : Below w.heap.size w w') => rvalid_w (hv.below hb (Nat.le_refl _)))
  have HV := Lib.hid hv
  have HB := Lib.hid hb
  obtain ⟨a, cap, rfl, -⟩ := hv.open
  obtain ⟨ab, cb, rfl, hbc, hbm, hbn, hbr⟩ := hb
  unfold maxLen at hbm
  have HBR := Lib.hid hbr
  have HBN := Lib.hid hbn
  clear hbr hbn
  cases hfew : Fr.few ps with
  | false =>
    rw [hfew] at HF
    clear hfew hv HVA
    go_enter Try.func4, Try.ntmps4
    go_wp2_with (first
      | (go_at_call 10; refine (awake_w w2).mono ?_; rintro e w3 ⟨rfl, hb3⟩)
      | (go_at_call 10; refine (awake_w _).mono ?_; rintro e w1 ⟨rfl, hb1⟩; have hk1 := LK.step (LK.start _ _ _ _ _) hb1; obtain ⟨k0, k1, k2, k3, z0, z1, y0, y1, x0, x1⟩ := hk1.facts)
      | (go_at_call 11; refine (HF.out w1 hk1.low).mono ?_; rintro e w2 ⟨rfl, hb2⟩))
    go_ret
    have q2 := (hk1.step hb2).low
    exact ⟨rfl, q2.trans (hb3.mono q2.size)⟩
  | true =>
    rw [hfew] at HF
    clear hfew
    by_cases hlen : bs.length ≤ 300
    rotate_left
    · have f1 : (300 : Int) < (bs.length : Int) := by omega
      clear hv HVA
      go_enter Try.func4, Try.ntmps4
      go_wp2_with (first
        | (go_at_call 10; refine (awake_w w2).mono ?_; rintro e w3 ⟨rfl, hb3⟩)
        | (go_at_call 10; refine (awake_w _).mono ?_; rintro e w1 ⟨rfl, hb1⟩; have hk1 := LK.step (LK.start _ _ _ _ _) hb1; obtain ⟨k0, k1, k2, k3, z0, z1, y0, y1, x0, x1⟩ := hk1.facts)
        | (go_at_call 11; refine (HF.out w1 hk1.low).mono ?_; rintro e w2 ⟨rfl, hb2⟩))
      go_ret
      have q2 := (hk1.step hb2).low
      exact ⟨rfl, q2.trans (hb3.mono q2.size)⟩
    have f1 : (bs.length : Int) ≤ 300 := by omega
    cases hva : Fr.valid ps with
    | false =>
      rw [hva] at HVA
      clear hva hv
      go_enter Try.func4, Try.ntmps4
      go_wp2_with (first
        | (go_at_call 10; refine (awake_w w3).mono ?_; rintro e w4 ⟨rfl, hb4⟩)
        | (go_at_call 10; refine (awake_w _).mono ?_; rintro e w1 ⟨rfl, hb1⟩; have hk1 := LK.step (LK.start _ _ _ _ _) hb1; obtain ⟨k0, k1, k2, k3, z0, z1, y0, y1, x0, x1⟩ := hk1.facts)
        | (go_at_call 11; refine (HF.out w1 hk1.low).mono ?_; rintro e w2 ⟨rfl, hb2⟩; have hk2 := hk1.step hb2; obtain ⟨k0, k1, k2, k3, z0, z1, y0, y1, x0, x1⟩ := hk2.facts)
        | (go_at_call 16; refine (HVA.out w2 hk2.low).mono ?_; rintro e w3 ⟨rfl, hb3⟩))
      go_ret
      have q2 := (hk2.step hb3).low
      exact ⟨rfl, q2.trans (hb4.mono q2.size)⟩
    | true =>
      rw [hva] at HVA
      obtain ⟨hl, hpl⟩ := Fr.valid_iff.1 hva
      have HPL := Lib.hid hpl
      have hcc : ps.length ≤ cap := by obtain ⟨_, _, e, h1, _⟩ := hv.open; injection e with _ _ e; omega
      have hcm : cap ≤ maxLen := by obtain ⟨_, _, e, _, h1, _⟩ := hv.open; injection e with _ _ e; omega
      unfold maxLen at hcm
      clear hva hv hpl
      have HL := Lib.hid hl
      have hcc2 : 96 ≤ cap := by omega
      rw [hl] at HF HVA HV
      rw [hl]
      clear hl hcc
      obtain ⟨i5, hi5, hz50, hz51, hz52⟩ := info_parts Try.info5
      obtain ⟨i27, hi27, hz270, hz271, hz272⟩ := info_parts Try.info27
      go_enter Try.func4, Try.ntmps4
      go_wp2_with (first
        | (go_at_call 10; refine (awake_w _).mono ?_; rintro e w1 ⟨rfl, hb1⟩; have hk1 := LK.step (LK.start _ _ _ _ _) hb1; obtain ⟨k0, k1, k2, k3, z0, z1, y0, y1, x0, x1⟩ := hk1.facts)
        | (go_at_call 11; refine (HF.out w1 hk1.low).mono ?_; rintro e w2 ⟨rfl, hb2⟩; have hk2 := hk1.step hb2; obtain ⟨k0, k1, k2, k3, z0, z1, y0, y1, x0, x1⟩ := hk2.facts)
        | (go_at_call 16; refine (HVA.out w2 hk2.low).mono ?_; rintro e w3 ⟨rfl, hb3⟩; have hk3 := hk2.step hb3; obtain ⟨k0, k1, k2, k3, z0, z1, y0, y1, x0, x1⟩ := hk3.facts))
      obtain ⟨t, ht⟩ : ∃ t, w3.heap.size = t := ⟨_, rfl⟩
      have hkt := hk3.alloc (.cells #[.slice none 0 0] 24 (0, 0))
      have hBt : Bk (w3.alloc (.cells #[.slice none 0 0] 24 (0, 0))) t 24 [.slice none 0 0] := Bk.newAt w3 _ [_] ht.symm
      have htw : w.heap.size + 1 < t := by omega
      rw [ht]
      clear k0 k1 k2 k3 hb1 hb2 hb3
      go_loopw [8, 45] (fun _ s45 wr => ∃ (k : Nat) (v : Value) (bl cs : Nat → Nat), s45 = .int .i64 k ∧ k ≤ 96 ∧ Bk wr t 24 [v] ∧ Ow wr (t + 1) v k bl cs (fun i => ps.getD i []) ∧ LK w (.slice a 96 cap) f x n wr) (fun _ s45 _ => 96 - (intOf s45).toNat)
      case atStart => exact ⟨0, _, fun _ => 0, fun _ => 0, rfl, Nat.zero_le _, hBt, Ow.nil _ _ _ _ _, hkt⟩
      case round =>
        obtain ⟨k, v, bl, cs, rfl, hk, hB, hO, hkr⟩ := hrel
        by_cases hlt : k < 96
        · obtain ⟨k0, k1, k2, k3, z0, z1, y0, y1, x0, x1⟩ := hkr.facts
          have kt := hB.cell 0
          simp only [List.getElem?_cons_zero] at kt
          have hkp : k < ps.length := by have := HL.out; omega
          obtain ⟨b, off, a', c', rfl, hb, hck, p1, p2, p3, p4⟩ := HV.out.el k hkp
          have hpl := HPL.out k hkp
          replace hck := (hkr.low.cell (p := ⟨b, off + k, none⟩) hb).trans hck
          rw [hpl] at hck p1
          obtain ⟨va, vc, rfl⟩ := own_slice hO.outer
          have hpk : ps[k] = ps.getD k [] := by simp [List.getD, hkp]
          rw [hpk] at p4 hpl
          have HPK := Lib.hid hpl
          have htl := hB.lt
          have htl1 : t + 1 ≤ wr.heap.size := htl
          have g1 : (0 : Int) ≤ (k : Int) := by omega
          have g2 : (k : Int) < 96 := by omega
          have hbt : b < t := by omega
          have HQK : Hid (upd (fun i => ps.getD i []) k (ps.getD k []) = fun i => ps.getD i []) := upd_self (fun i => ps.getD i []) k
          have HLK := Lib.hid hkr
          have HBt := Lib.hid hB
          have HOR := Lib.hid hO
          have P4 : Hid (∀ W, Below w.heap.size w W → Rd eb W a' (ps.getD k [])) := fun W hW => p4.below hW (Nat.le_refl _)
          have HLB := Lib.hid hkr.low
          have HSB : Hid (∀ W, Below t wr W → W.cell? ⟨w.heap.size, 0, none⟩ = some (.slice (some ⟨b, off, none⟩) 96 cap) ∧ W.cell? ⟨b, off + k, none⟩ = some (.slice a' 128 c')) := fun W hW => ⟨(hW.cell (p := ⟨w.heap.size, 0, none⟩) (by show w.heap.size < t; omega)).trans k0, (hW.cell (p := ⟨b, off + k, none⟩) hbt).trans hck⟩
          have HKU : Hid (∀ W, Below (t + 1) wr W → W.cell? ⟨t, 0, none⟩ = some (.slice va k vc)) := fun W hW => (hW.cell (p := ⟨t, 0, none⟩) (Nat.lt_succ_self t)).trans kt
          have HKT : Hid (∀ W, Below wr.heap.size wr W → W.cell? ⟨t, 0, none⟩ = some (.slice va k vc)) := fun W hW => HKU.out W (hW.mono htl1)
          have HZU : Hid (∀ W, Below (t + 1) wr W → W.frozen? ⟨t, 0, none⟩ = false) := fun W hW => (hW.frozen (p := ⟨t, 0, none⟩) (Nat.lt_succ_self t)).trans (hB.frozen 0)
          have HE : Hid ((wr.alloc (.cells #[] 5 (0, 0))).drew.ownsRow wr.heap.size 5 1 (.slice (some ⟨wr.heap.size, 0, none⟩) 0 0) 0 (([] : List UInt8).map eb)) := World.ownsRow_made wr.drew #[] 0 (Nat.le_refl _) (Nat.zero_le _) rfl
          have HB0 : Hid (Below wr.heap.size wr (wr.alloc (.cells #[] 5 (0, 0))).drew) := ((Below.refl _ wr).alloc (Nat.le_refl _) _).drew
          have HOO : Hid (∀ W, Below wr.heap.size wr W → W.ownsRow (t + 1) 27 1 (.slice va k vc) k (((List.range k).map fun i => ((some ⟨bl i, 0, none⟩ : Option Addr), 128, cs i)).map es)) := fun W hW => by rw [List.map_map]; exact own_keep hO.outer fun q e => hW.block q (hO.outer.lt q e).2
          have ktA := HKT.out _ (low_drew wr)
          have ktB := HKT.out _ HB0.out
          clear kt hpl hpk hO p4 hkr hB hck k0 k1 k2 k3 x0 x1 y0 y1 z0 z1 hb hkp
          generalize hpk : ps.getD k [] = pk at P4 HPK HQK
          have HPQ := Lib.hid hpk
          clear hpk
          unfold maxLen at p2
          go_upto_region 7 with fail
          refine wp_region_noPanic ?_
          refine wp_region_held_drew (S := fun w' => w'.cell? ⟨w.heap.size, 0, none⟩ = some (.slice (some ⟨b, off, none⟩) 96 cap) ∧ w'.cell? ⟨b, off + k, none⟩ = some (.slice a' 128 c')) (by kernel_rfl) (HSB.out _ (low_drew wr |>.mono (Nat.le_of_lt htl))) (fun _ => ?_)
          refine wpAnyH_take (i := 0) (oi := ⟨some 48, _, _, _, _, _⟩) (v := ?_) rfl (by kernel_rfl) (by kernel_rfl) (by kernel_rfl) (fun _ _ _ h => h) (Or.inl ⟨by rfl, ?hyq1_0⟩) (HSB.out _ (low_drew wr |>.mono (Nat.le_of_lt htl))) ?req1_0
          case hyq1_0 => ((intro w hSw; (try dsimp only at hSw); go_simp); first | done | with_reducible rfl)
          (try simp only [Act.put, List.setIfInBounds_toArray, List.set_cons_zero, List.set_cons_succ])
          refine wpAnyH_take (i := 3) (oi := ⟨some 51, _, _, _, _, _⟩) (v := ?_) rfl (by kernel_rfl) (by kernel_rfl) (by kernel_rfl) (fun _ _ _ h => h) (Or.inl ⟨by rfl, ?hyq2_3⟩) (HSB.out _ (low_drew wr |>.mono (Nat.le_of_lt htl))) ?req2_3
          case hyq2_3 => ((intro w hSw; (try dsimp only at hSw); go_simp); first | done | with_reducible rfl)
          (try simp only [Act.put, List.setIfInBounds_toArray, List.set_cons_zero, List.set_cons_succ])
          refine wpAnyH_take (i := 5) (oi := ⟨some 53, _, _, _, _, _⟩) (v := ?_) rfl (by kernel_rfl) (by kernel_rfl) (by kernel_rfl) (fun _ _ _ h => h) (Or.inl ⟨by rfl, ?hyq3_5⟩) (HSB.out _ (low_drew wr |>.mono (Nat.le_of_lt htl))) ?req3_5
          case hyq3_5 => ((intro w hSw; (try dsimp only at hSw); go_simp); first | done | with_reducible rfl)
          (try simp only [Act.put, List.setIfInBounds_toArray, List.set_cons_zero, List.set_cons_succ])
          refine wpAnyH_take (i := 4) (oi := ⟨some 52, _, _, _, _, _⟩) (v := ?_) rfl (by kernel_rfl) (by kernel_rfl) (by kernel_rfl) (fun _ _ _ h => h) (Or.inl ⟨by rfl, ?hyq4_4⟩) (HSB.out _ (low_drew wr |>.mono (Nat.le_of_lt htl))) ?req4_4
          case hyq4_4 => ((intro w hSw; (try dsimp only at hSw); go_simp); first | done | with_reducible rfl)
          (try simp only [Act.put, List.setIfInBounds_toArray, List.set_cons_zero, List.set_cons_succ])
          refine wpAnyH_take (i := 6) (oi := ⟨some 54, _, _, _, _, _⟩) (v := ?_) rfl (by kernel_rfl) (by kernel_rfl) (by kernel_rfl) (fun _ _ _ h => h) (Or.inl ⟨by rfl, ?hyq5_6⟩) (HSB.out _ (low_drew wr |>.mono (Nat.le_of_lt htl))) ?req5_6
          case hyq5_6 => ((intro w hSw; (try dsimp only at hSw); go_simp); first | done | with_reducible rfl)
          (try simp only [Act.put, List.setIfInBounds_toArray, List.set_cons_zero, List.set_cons_succ])
          refine wpAnyH_take (i := 7) (oi := ⟨some 55, _, _, _, _, _⟩) (v := ?_) rfl (by kernel_rfl) (by kernel_rfl) (by kernel_rfl) (fun _ _ _ h => h) (Or.inl ⟨by rfl, ?hyq6_7⟩) (HSB.out _ (low_drew wr |>.mono (Nat.le_of_lt htl))) ?req6_7
          case hyq6_7 => ((intro w hSw; (try dsimp only at hSw); go_simp); first | done | with_reducible rfl)
          (try simp only [Act.put, List.setIfInBounds_toArray, List.set_cons_zero, List.set_cons_succ])
          refine wpAnyH_ready (rs := [1, 2]) (by kernel_rfl) (by simp) ?_
          refine AllReadyH.cons rfl (fun K hK => ?_) (AllReadyH.cons rfl (fun K hK => ?_) AllReadyH.nil)
          · go_simp
            go_wp2_with (fail)
            refine hK.out _ _ (HSB.out _ (low_drew wr |>.mono (Nat.le_of_lt htl))) (fun _ => ?_)
            clear hK K
            (try simp only [Act.put, List.setIfInBounds_toArray, List.set_cons_zero, List.set_cons_succ])
            refine wpAnyH_ready (rs := [2]) (by kernel_rfl) (by simp) ?_
            refine AllReadyH.cons rfl (fun K hK => ?_) AllReadyH.nil
            go_simp
            go_wp2_with (fail)
            refine hK.out _ _ (HSB.out _ (HB0.out.mono (Nat.le_of_lt htl))) (fun _ => ?_)
            clear hK K
            (try simp only [Act.put, List.setIfInBounds_toArray, List.set_cons_zero, List.set_cons_succ])
            refine wpAnyH_ready (rs := [8]) (by kernel_rfl) (by simp) ?_
            refine AllReadyH.cons rfl (fun K hK => ?_) AllReadyH.nil
            refine step_append_rd eb (fun _ => rfl) rfl (.tmp 50) (.tmp 55) 27 (by rfl) wr.heap.size 5 i5 (.int .u8 0) 1 Try.underlying27 hi5 hz50 hz51 hz52 rfl _ 0 [] (by rfl) HE.out a' c' pk 128 (by rfl) HPK.out p3 p1 (P4.out _ (stepAny HLB.out HB0.out)) (by unfold maxLen; omega) (by omega) HB0.out.size ?_
            intro v5 w5 ho5 hs5 hb5
            have ho6 : w5.ownsRow wr.heap.size 5 1 v5 128 (pk.map eb) := ho5
            obtain ⟨g5, c5, rfl⟩ := own_form ho6 (by omega)
            have hb6 := HB0.out.trans hb5
            have kt5 := HKT.out w5 hb6
            have kt6 := HKT.out (w5.alloc (.cells #[.slice (some ⟨g5, 0, none⟩) 128 c5] 27 (0, 0))) (hb6.alloc hb6.size _)
            have HB6 := Lib.hid hb6
            have HO6 := Lib.hid ho6
            have hz5 := hb6.size
            clear ho5 hs5 hb5 hb6 ho6
            refine hK.out _ _ (HSB.out _ (HB6.out.mono (Nat.le_of_lt htl))) (fun _ => ?_)
            clear hK K
            (try simp only [Act.put, List.setIfInBounds_toArray, List.set_cons_zero, List.set_cons_succ])
            refine wpAnyH_ready (rs := [9]) (by kernel_rfl) (by simp) ?_
            refine AllReadyH.cons rfl (fun K hK => ?_) AllReadyH.nil
            go_simp
            go_wp2_with (fail)
            refine hK.out _ _ (HSB.out _ ((HB6.out.alloc HB6.out.size _).mono (Nat.le_of_lt htl))) (fun _ => ?_)
            clear hK K
            (try simp only [Act.put, List.setIfInBounds_toArray, List.set_cons_zero, List.set_cons_succ])
            refine wpAnyH_ready (rs := [10]) (by kernel_rfl) (by simp) ?_
            refine AllReadyH.cons rfl (fun K hK => ?_) AllReadyH.nil
            refine step_append_rd es (fun _ => rfl) rfl (.tmp 49) (.tmp 57) 22 (by rfl) (t + 1) 27 i27 (.slice none 0 0) 24 Try.underlying22 hi27 hz270 hz271 hz272 rfl (.slice va k vc) k _ (by rfl) ((HOO.out w5 HB6.out).alloc _) (some ⟨w5.heap.size, 0, none⟩) 1 [(some ⟨g5, 0, none⟩, 128, c5)] 1 (by rfl) rfl (by simp) (by omega) (Rd.one es w5 (some ⟨g5, 0, none⟩, 128, c5) _ _) (by unfold maxLen; omega) (by omega) (by simp; omega) ?_
            intro v7 w7 ho7 hs7 hb7
            obtain ⟨a7, c7, rfl⟩ := own_slice ho7
            have HO7 := Lib.hid ho7
            have HS7 := Lib.hid hs7
            have HB7 : Hid (Below (t + 1) wr w7) := ((HB6.out.mono htl1).trans ((low_alloc w5 _).mono (by omega))).trans hb7
            have kt7 := HKU.out w7 HB7.out
            have zt7 := HZU.out w7 HB7.out
            clear ho7 hs7 hb7
            refine hK.out _ _ (HSB.out _ (HB7.out.mono (Nat.le_succ t))) (fun _ => ?_)
            clear hK K
            (try simp only [Act.put, List.setIfInBounds_toArray, List.set_cons_zero, List.set_cons_succ])
            refine wpAnyH_take (i := 11) (oi := ⟨some 59, _, _, _, _, _⟩) (v := ?_) rfl (by kernel_rfl) (by kernel_rfl) (by kernel_rfl) (fun _ _ _ h => h) (Or.inl ⟨by rfl, ?hyr7_11⟩) (HSB.out _ (HB7.out.mono (Nat.le_succ t))) ?rer7_11
            case hyr7_11 => ((intro w hSw; (try dsimp only at hSw); go_simp); first | done | with_reducible rfl)
            (try simp only [Act.put, List.setIfInBounds_toArray, List.set_cons_zero, List.set_cons_succ])
            refine wpAnyH_ready (rs := [12]) (by kernel_rfl) (by simp) ?_
            refine AllReadyH.cons rfl (fun K hK => ?_) AllReadyH.nil
            go_simp
            go_wp2_with (fail)
            refine hK.out _ _ (HSB.out _ ((HB7.out.mono (Nat.le_succ t)).setCell (by simp) _)) (fun _ => ?_)
            clear hK K
            (try simp only [Act.put, List.setIfInBounds_toArray, List.set_cons_zero, List.set_cons_succ])
            refine wpAnyH_done (by kernel_rfl) ?_ _
            refine NoPanic.normal ?_
            have HO8 : w7.ownsRow (t + 1) 27 1 (.slice a7 (k + 1) c7) (k + 1) (((List.range k).map fun i => row128 (bl i) (cs i)) ++ [row128 g5 c5]) := by
              have h := HO7.out
              rw [List.map_append, List.map_map] at h
              exact h
            have hg5 : wr.heap.size ≤ g5 ∧ g5 < w5.heap.size := HO6.out.lt g5 rfl
            have hox : Ow (w5.alloc (.cells #[row128 g5 c5] 27 (0, 0))) (t + 1) (.slice va k vc) k bl cs (fun i => ps.getD i []) := HOR.out.below (HB6.out.alloc HB6.out.size _)
            have hrw : (w5.alloc (.cells #[row128 g5 c5] 27 (0, 0))).ownsRow wr.heap.size 5 1 (row128 g5 c5) 128 (pk.map eb) := HO6.out.alloc _
            have hsn := hox.snoc hrw htl1 (fun i hi => (HOR.out.lt hi).2) (fun q e => (HOR.out.outer.lt q e).2) HO8 HS7.out
            rw [HQK.out] at hsn
            have HSN := Lib.hid hsn
            have hlk7 := HLK.out.to HB7.out (by omega)
            have hB7 := HBt.out.below HB7.out (Nat.lt_succ_self t)
            have hrow : (Value.slice a7 (k + 1) c7).ownBlock ≠ some t := fun e => by have := (HSN.out.outer.lt t e).1; omega
            clear HO8 hox hrw hsn kt7 zt7
            go_wp2_with fail
            go_roundw
            case rel => exact ⟨k + 1, _, _, _, by go_num, by omega, hB7.set 0 _, HSN.out.keep (fun b e => Below.heap_setCell _ _ _ _ (fun h => hrow (by rw [e, h]))) (fun i hi => Below.heap_setCell _ _ _ _ (fun h => by have h1 := (HSN.out.lt hi).1; have h2 : upd bl k g5 i = t := h; omega)), hlk7.set htw 0 _⟩
            case measure => simp [intOf]; omega
          · go_simp
            go_wp2_with (fail)
            refine hK.out _ _ (HSB.out _ (HB0.out.mono (Nat.le_of_lt htl))) (fun _ => ?_)
            clear hK K
            (try simp only [Act.put, List.setIfInBounds_toArray, List.set_cons_zero, List.set_cons_succ])
            refine wpAnyH_ready (rs := [1, 8]) (by kernel_rfl) (by simp) ?_
            refine AllReadyH.cons rfl (fun K hK => ?_) (AllReadyH.cons rfl (fun K hK => ?_) AllReadyH.nil)
            · go_simp
              go_wp2_with (fail)
              refine hK.out _ _ (HSB.out _ (HB0.out.mono (Nat.le_of_lt htl))) (fun _ => ?_)
              clear hK K
              (try simp only [Act.put, List.setIfInBounds_toArray, List.set_cons_zero, List.set_cons_succ])
              refine wpAnyH_ready (rs := [8]) (by kernel_rfl) (by simp) ?_
              refine AllReadyH.cons rfl (fun K hK => ?_) AllReadyH.nil
              refine step_append_rd eb (fun _ => rfl) rfl (.tmp 50) (.tmp 55) 27 (by rfl) wr.heap.size 5 i5 (.int .u8 0) 1 Try.underlying27 hi5 hz50 hz51 hz52 rfl _ 0 [] (by rfl) HE.out a' c' pk 128 (by rfl) HPK.out p3 p1 (P4.out _ (stepAny HLB.out HB0.out)) (by unfold maxLen; omega) (by omega) HB0.out.size ?_
              intro v5 w5 ho5 hs5 hb5
              have ho6 : w5.ownsRow wr.heap.size 5 1 v5 128 (pk.map eb) := ho5
              obtain ⟨g5, c5, rfl⟩ := own_form ho6 (by omega)
              have hb6 := HB0.out.trans hb5
              have kt5 := HKT.out w5 hb6
              have kt6 := HKT.out (w5.alloc (.cells #[.slice (some ⟨g5, 0, none⟩) 128 c5] 27 (0, 0))) (hb6.alloc hb6.size _)
              have HB6 := Lib.hid hb6
              have HO6 := Lib.hid ho6
              have hz5 := hb6.size
              clear ho5 hs5 hb5 hb6 ho6
              refine hK.out _ _ (HSB.out _ (HB6.out.mono (Nat.le_of_lt htl))) (fun _ => ?_)
              clear hK K
              (try simp only [Act.put, List.setIfInBounds_toArray, List.set_cons_zero, List.set_cons_succ])
              refine wpAnyH_ready (rs := [9]) (by kernel_rfl) (by simp) ?_
              refine AllReadyH.cons rfl (fun K hK => ?_) AllReadyH.nil
              go_simp
              go_wp2_with (fail)
              refine hK.out _ _ (HSB.out _ ((HB6.out.alloc HB6.out.size _).mono (Nat.le_of_lt htl))) (fun _ => ?_)
              clear hK K
              (try simp only [Act.put, List.setIfInBounds_toArray, List.set_cons_zero, List.set_cons_succ])
              refine wpAnyH_ready (rs := [10]) (by kernel_rfl) (by simp) ?_
              refine AllReadyH.cons rfl (fun K hK => ?_) AllReadyH.nil
              refine step_append_rd es (fun _ => rfl) rfl (.tmp 49) (.tmp 57) 22 (by rfl) (t + 1) 27 i27 (.slice none 0 0) 24 Try.underlying22 hi27 hz270 hz271 hz272 rfl (.slice va k vc) k _ (by rfl) ((HOO.out w5 HB6.out).alloc _) (some ⟨w5.heap.size, 0, none⟩) 1 [(some ⟨g5, 0, none⟩, 128, c5)] 1 (by rfl) rfl (by simp) (by omega) (Rd.one es w5 (some ⟨g5, 0, none⟩, 128, c5) _ _) (by unfold maxLen; omega) (by omega) (by simp; omega) ?_
              intro v7 w7 ho7 hs7 hb7
              obtain ⟨a7, c7, rfl⟩ := own_slice ho7
              have HO7 := Lib.hid ho7
              have HS7 := Lib.hid hs7
              have HB7 : Hid (Below (t + 1) wr w7) := ((HB6.out.mono htl1).trans ((low_alloc w5 _).mono (by omega))).trans hb7
              have kt7 := HKU.out w7 HB7.out
              have zt7 := HZU.out w7 HB7.out
              clear ho7 hs7 hb7
              refine hK.out _ _ (HSB.out _ (HB7.out.mono (Nat.le_succ t))) (fun _ => ?_)
              clear hK K
              (try simp only [Act.put, List.setIfInBounds_toArray, List.set_cons_zero, List.set_cons_succ])
              refine wpAnyH_take (i := 11) (oi := ⟨some 59, _, _, _, _, _⟩) (v := ?_) rfl (by kernel_rfl) (by kernel_rfl) (by kernel_rfl) (fun _ _ _ h => h) (Or.inl ⟨by rfl, ?hyr8_11⟩) (HSB.out _ (HB7.out.mono (Nat.le_succ t))) ?rer8_11
              case hyr8_11 => ((intro w hSw; (try dsimp only at hSw); go_simp); first | done | with_reducible rfl)
              (try simp only [Act.put, List.setIfInBounds_toArray, List.set_cons_zero, List.set_cons_succ])
              refine wpAnyH_ready (rs := [12]) (by kernel_rfl) (by simp) ?_
              refine AllReadyH.cons rfl (fun K hK => ?_) AllReadyH.nil
              go_simp
              go_wp2_with (fail)
              refine hK.out _ _ (HSB.out _ ((HB7.out.mono (Nat.le_succ t)).setCell (by simp) _)) (fun _ => ?_)
              clear hK K
              (try simp only [Act.put, List.setIfInBounds_toArray, List.set_cons_zero, List.set_cons_succ])
              refine wpAnyH_done (by kernel_rfl) ?_ _
              refine NoPanic.normal ?_
              have HO8 : w7.ownsRow (t + 1) 27 1 (.slice a7 (k + 1) c7) (k + 1) (((List.range k).map fun i => row128 (bl i) (cs i)) ++ [row128 g5 c5]) := by
                have h := HO7.out
                rw [List.map_append, List.map_map] at h
                exact h
              have hg5 : wr.heap.size ≤ g5 ∧ g5 < w5.heap.size := HO6.out.lt g5 rfl
              have hox : Ow (w5.alloc (.cells #[row128 g5 c5] 27 (0, 0))) (t + 1) (.slice va k vc) k bl cs (fun i => ps.getD i []) := HOR.out.below (HB6.out.alloc HB6.out.size _)
              have hrw : (w5.alloc (.cells #[row128 g5 c5] 27 (0, 0))).ownsRow wr.heap.size 5 1 (row128 g5 c5) 128 (pk.map eb) := HO6.out.alloc _
              have hsn := hox.snoc hrw htl1 (fun i hi => (HOR.out.lt hi).2) (fun q e => (HOR.out.outer.lt q e).2) HO8 HS7.out
              rw [HQK.out] at hsn
              have HSN := Lib.hid hsn
              have hlk7 := HLK.out.to HB7.out (by omega)
              have hB7 := HBt.out.below HB7.out (Nat.lt_succ_self t)
              have hrow : (Value.slice a7 (k + 1) c7).ownBlock ≠ some t := fun e => by have := (HSN.out.outer.lt t e).1; omega
              clear HO8 hox hrw hsn kt7 zt7
              go_wp2_with fail
              go_roundw
              case rel => exact ⟨k + 1, _, _, _, by go_num, by omega, hB7.set 0 _, HSN.out.keep (fun b e => Below.heap_setCell _ _ _ _ (fun h => hrow (by rw [e, h]))) (fun i hi => Below.heap_setCell _ _ _ _ (fun h => by have h1 := (HSN.out.lt hi).1; have h2 : upd bl k g5 i = t := h; omega)), hlk7.set htw 0 _⟩
              case measure => simp [intOf]; omega
            · refine step_append_rd eb (fun _ => rfl) rfl (.tmp 50) (.tmp 55) 27 (by rfl) wr.heap.size 5 i5 (.int .u8 0) 1 Try.underlying27 hi5 hz50 hz51 hz52 rfl _ 0 [] (by rfl) HE.out a' c' pk 128 (by rfl) HPK.out p3 p1 (P4.out _ (stepAny HLB.out HB0.out)) (by unfold maxLen; omega) (by omega) HB0.out.size ?_
              intro v5 w5 ho5 hs5 hb5
              have ho6 : w5.ownsRow wr.heap.size 5 1 v5 128 (pk.map eb) := ho5
              obtain ⟨g5, c5, rfl⟩ := own_form ho6 (by omega)
              have hb6 := HB0.out.trans hb5
              have kt5 := HKT.out w5 hb6
              have kt6 := HKT.out (w5.alloc (.cells #[.slice (some ⟨g5, 0, none⟩) 128 c5] 27 (0, 0))) (hb6.alloc hb6.size _)
              have HB6 := Lib.hid hb6
              have HO6 := Lib.hid ho6
              have hz5 := hb6.size
              clear ho5 hs5 hb5 hb6 ho6
              refine hK.out _ _ (HSB.out _ (HB6.out.mono (Nat.le_of_lt htl))) (fun _ => ?_)
              clear hK K
              (try simp only [Act.put, List.setIfInBounds_toArray, List.set_cons_zero, List.set_cons_succ])
              refine wpAnyH_ready (rs := [1, 9]) (by kernel_rfl) (by simp) ?_
              refine AllReadyH.cons rfl (fun K hK => ?_) (AllReadyH.cons rfl (fun K hK => ?_) AllReadyH.nil)
              · go_simp
                go_wp2_with (fail)
                refine hK.out _ _ (HSB.out _ (HB6.out.mono (Nat.le_of_lt htl))) (fun _ => ?_)
                clear hK K
                (try simp only [Act.put, List.setIfInBounds_toArray, List.set_cons_zero, List.set_cons_succ])
                refine wpAnyH_ready (rs := [9]) (by kernel_rfl) (by simp) ?_
                refine AllReadyH.cons rfl (fun K hK => ?_) AllReadyH.nil
                go_simp
                go_wp2_with (fail)
                refine hK.out _ _ (HSB.out _ ((HB6.out.alloc HB6.out.size _).mono (Nat.le_of_lt htl))) (fun _ => ?_)
                clear hK K
                (try simp only [Act.put, List.setIfInBounds_toArray, List.set_cons_zero, List.set_cons_succ])
                refine wpAnyH_ready (rs := [10]) (by kernel_rfl) (by simp) ?_
                refine AllReadyH.cons rfl (fun K hK => ?_) AllReadyH.nil
                refine step_append_rd es (fun _ => rfl) rfl (.tmp 49) (.tmp 57) 22 (by rfl) (t + 1) 27 i27 (.slice none 0 0) 24 Try.underlying22 hi27 hz270 hz271 hz272 rfl (.slice va k vc) k _ (by rfl) ((HOO.out w5 HB6.out).alloc _) (some ⟨w5.heap.size, 0, none⟩) 1 [(some ⟨g5, 0, none⟩, 128, c5)] 1 (by rfl) rfl (by simp) (by omega) (Rd.one es w5 (some ⟨g5, 0, none⟩, 128, c5) _ _) (by unfold maxLen; omega) (by omega) (by simp; omega) ?_
                intro v7 w7 ho7 hs7 hb7
                obtain ⟨a7, c7, rfl⟩ := own_slice ho7
                have HO7 := Lib.hid ho7
                have HS7 := Lib.hid hs7
                have HB7 : Hid (Below (t + 1) wr w7) := ((HB6.out.mono htl1).trans ((low_alloc w5 _).mono (by omega))).trans hb7
                have kt7 := HKU.out w7 HB7.out
                have zt7 := HZU.out w7 HB7.out
                clear ho7 hs7 hb7
                refine hK.out _ _ (HSB.out _ (HB7.out.mono (Nat.le_succ t))) (fun _ => ?_)
                clear hK K
                (try simp only [Act.put, List.setIfInBounds_toArray, List.set_cons_zero, List.set_cons_succ])
                refine wpAnyH_take (i := 11) (oi := ⟨some 59, _, _, _, _, _⟩) (v := ?_) rfl (by kernel_rfl) (by kernel_rfl) (by kernel_rfl) (fun _ _ _ h => h) (Or.inl ⟨by rfl, ?hyr9_11⟩) (HSB.out _ (HB7.out.mono (Nat.le_succ t))) ?rer9_11
                case hyr9_11 => ((intro w hSw; (try dsimp only at hSw); go_simp); first | done | with_reducible rfl)
                (try simp only [Act.put, List.setIfInBounds_toArray, List.set_cons_zero, List.set_cons_succ])
                refine wpAnyH_ready (rs := [12]) (by kernel_rfl) (by simp) ?_
                refine AllReadyH.cons rfl (fun K hK => ?_) AllReadyH.nil
                go_simp
                go_wp2_with (fail)
                refine hK.out _ _ (HSB.out _ ((HB7.out.mono (Nat.le_succ t)).setCell (by simp) _)) (fun _ => ?_)
                clear hK K
                (try simp only [Act.put, List.setIfInBounds_toArray, List.set_cons_zero, List.set_cons_succ])
                refine wpAnyH_done (by kernel_rfl) ?_ _
                refine NoPanic.normal ?_
                have HO8 : w7.ownsRow (t + 1) 27 1 (.slice a7 (k + 1) c7) (k + 1) (((List.range k).map fun i => row128 (bl i) (cs i)) ++ [row128 g5 c5]) := by
                  have h := HO7.out
                  rw [List.map_append, List.map_map] at h
                  exact h
                have hg5 : wr.heap.size ≤ g5 ∧ g5 < w5.heap.size := HO6.out.lt g5 rfl
                have hox : Ow (w5.alloc (.cells #[row128 g5 c5] 27 (0, 0))) (t + 1) (.slice va k vc) k bl cs (fun i => ps.getD i []) := HOR.out.below (HB6.out.alloc HB6.out.size _)
                have hrw : (w5.alloc (.cells #[row128 g5 c5] 27 (0, 0))).ownsRow wr.heap.size 5 1 (row128 g5 c5) 128 (pk.map eb) := HO6.out.alloc _
                have hsn := hox.snoc hrw htl1 (fun i hi => (HOR.out.lt hi).2) (fun q e => (HOR.out.outer.lt q e).2) HO8 HS7.out
                rw [HQK.out] at hsn
                have HSN := Lib.hid hsn
                have hlk7 := HLK.out.to HB7.out (by omega)
                have hB7 := HBt.out.below HB7.out (Nat.lt_succ_self t)
                have hrow : (Value.slice a7 (k + 1) c7).ownBlock ≠ some t := fun e => by have := (HSN.out.outer.lt t e).1; omega
                clear HO8 hox hrw hsn kt7 zt7
                go_wp2_with fail
                go_roundw
                case rel => exact ⟨k + 1, _, _, _, by go_num, by omega, hB7.set 0 _, HSN.out.keep (fun b e => Below.heap_setCell _ _ _ _ (fun h => hrow (by rw [e, h]))) (fun i hi => Below.heap_setCell _ _ _ _ (fun h => by have h1 := (HSN.out.lt hi).1; have h2 : upd bl k g5 i = t := h; omega)), hlk7.set htw 0 _⟩
                case measure => simp [intOf]; omega
              · go_simp
                go_wp2_with (fail)
                refine hK.out _ _ (HSB.out _ ((HB6.out.alloc HB6.out.size _).mono (Nat.le_of_lt htl))) (fun _ => ?_)
                clear hK K
                (try simp only [Act.put, List.setIfInBounds_toArray, List.set_cons_zero, List.set_cons_succ])
                refine wpAnyH_ready (rs := [1]) (by kernel_rfl) (by simp) ?_
                refine AllReadyH.cons rfl (fun K hK => ?_) AllReadyH.nil
                go_simp
                go_wp2_with (fail)
                refine hK.out _ _ (HSB.out _ ((HB6.out.alloc HB6.out.size _).mono (Nat.le_of_lt htl))) (fun _ => ?_)
                clear hK K
                (try simp only [Act.put, List.setIfInBounds_toArray, List.set_cons_zero, List.set_cons_succ])
                refine wpAnyH_ready (rs := [10]) (by kernel_rfl) (by simp) ?_
                refine AllReadyH.cons rfl (fun K hK => ?_) AllReadyH.nil
                refine step_append_rd es (fun _ => rfl) rfl (.tmp 49) (.tmp 57) 22 (by rfl) (t + 1) 27 i27 (.slice none 0 0) 24 Try.underlying22 hi27 hz270 hz271 hz272 rfl (.slice va k vc) k _ (by rfl) ((HOO.out w5 HB6.out).alloc _) (some ⟨w5.heap.size, 0, none⟩) 1 [(some ⟨g5, 0, none⟩, 128, c5)] 1 (by rfl) rfl (by simp) (by omega) (Rd.one es w5 (some ⟨g5, 0, none⟩, 128, c5) _ _) (by unfold maxLen; omega) (by omega) (by simp; omega) ?_
                intro v7 w7 ho7 hs7 hb7
                obtain ⟨a7, c7, rfl⟩ := own_slice ho7
                have HO7 := Lib.hid ho7
                have HS7 := Lib.hid hs7
                have HB7 : Hid (Below (t + 1) wr w7) := ((HB6.out.mono htl1).trans ((low_alloc w5 _).mono (by omega))).trans hb7
                have kt7 := HKU.out w7 HB7.out
                have zt7 := HZU.out w7 HB7.out
                clear ho7 hs7 hb7
                refine hK.out _ _ (HSB.out _ (HB7.out.mono (Nat.le_succ t))) (fun _ => ?_)
                clear hK K
                (try simp only [Act.put, List.setIfInBounds_toArray, List.set_cons_zero, List.set_cons_succ])
                refine wpAnyH_take (i := 11) (oi := ⟨some 59, _, _, _, _, _⟩) (v := ?_) rfl (by kernel_rfl) (by kernel_rfl) (by kernel_rfl) (fun _ _ _ h => h) (Or.inl ⟨by rfl, ?hyr10_11⟩) (HSB.out _ (HB7.out.mono (Nat.le_succ t))) ?rer10_11
                case hyr10_11 => ((intro w hSw; (try dsimp only at hSw); go_simp); first | done | with_reducible rfl)
                (try simp only [Act.put, List.setIfInBounds_toArray, List.set_cons_zero, List.set_cons_succ])
                refine wpAnyH_ready (rs := [12]) (by kernel_rfl) (by simp) ?_
                refine AllReadyH.cons rfl (fun K hK => ?_) AllReadyH.nil
                go_simp
                go_wp2_with (fail)
                refine hK.out _ _ (HSB.out _ ((HB7.out.mono (Nat.le_succ t)).setCell (by simp) _)) (fun _ => ?_)
                clear hK K
                (try simp only [Act.put, List.setIfInBounds_toArray, List.set_cons_zero, List.set_cons_succ])
                refine wpAnyH_done (by kernel_rfl) ?_ _
                refine NoPanic.normal ?_
                have HO8 : w7.ownsRow (t + 1) 27 1 (.slice a7 (k + 1) c7) (k + 1) (((List.range k).map fun i => row128 (bl i) (cs i)) ++ [row128 g5 c5]) := by
                  have h := HO7.out
                  rw [List.map_append, List.map_map] at h
                  exact h
                have hg5 : wr.heap.size ≤ g5 ∧ g5 < w5.heap.size := HO6.out.lt g5 rfl
                have hox : Ow (w5.alloc (.cells #[row128 g5 c5] 27 (0, 0))) (t + 1) (.slice va k vc) k bl cs (fun i => ps.getD i []) := HOR.out.below (HB6.out.alloc HB6.out.size _)
                have hrw : (w5.alloc (.cells #[row128 g5 c5] 27 (0, 0))).ownsRow wr.heap.size 5 1 (row128 g5 c5) 128 (pk.map eb) := HO6.out.alloc _
                have hsn := hox.snoc hrw htl1 (fun i hi => (HOR.out.lt hi).2) (fun q e => (HOR.out.outer.lt q e).2) HO8 HS7.out
                rw [HQK.out] at hsn
                have HSN := Lib.hid hsn
                have hlk7 := HLK.out.to HB7.out (by omega)
                have hB7 := HBt.out.below HB7.out (Nat.lt_succ_self t)
                have hrow : (Value.slice a7 (k + 1) c7).ownBlock ≠ some t := fun e => by have := (HSN.out.outer.lt t e).1; omega
                clear HO8 hox hrw hsn kt7 zt7
                go_wp2_with fail
                go_roundw
                case rel => exact ⟨k + 1, _, _, _, by go_num, by omega, hB7.set 0 _, HSN.out.keep (fun b e => Below.heap_setCell _ _ _ _ (fun h => hrow (by rw [e, h]))) (fun i hi => Below.heap_setCell _ _ _ _ (fun h => by have h1 := (HSN.out.lt hi).1; have h2 : upd bl k g5 i = t := h; omega)), hlk7.set htw 0 _⟩
                case measure => simp [intOf]; omega
        · have f5 : ¬ (k : Int) < 96 := by omega
          have hk96 : k = 96 := by omega
          rw [hk96] at hO
          obtain ⟨go, co, rfl, hgo1, hgo2, hgo3, hgo4⟩ := hO.form (by decide)
          have HB1 := Lib.hid hB
          have HO1 := Lib.hid hO
          have HK1 := Lib.hid hkr
          have HR1 : Hid (Rd eb (wr.alloc (.cells #[] 5 (0, 0))) ab bs) := HBR.out.below (hkr.low.alloc hkr.low.size _) (Nat.le_refl _)
          have hcm2 : co ≤ maxLen := by
            obtain ⟨_, _, e, _, h2, _⟩ := hO.pg.open
            injection e with _ _ e
            omega
          unfold maxLen at hcm2
          have htM : t < wr.heap.size := hB.lt
          have HBL : Hid (∀ i, i < 96 → bl i < wr.heap.size) := fun i hi => (HO1.out.lt hi).2
          clear hk96 hO hB hkr hlt hk hgo3 hgo4
          go_upto_region 10 with (at_builtin; refine wpList_append_rd eb (fun _ => rfl) rfl (.tmp 61) (.tmp 62) 27 rfl wr.heap.size 5 i5 (.int .u8 0) 1 Try.underlying27 hi5 hz50 hz51 hz52 rfl (.slice (some ⟨wr.heap.size, 0, none⟩) 0 0) 0 [] rfl (World.ownsRow_made wr #[] 0 (Nat.le_refl _) (Nat.zero_le _) rfl) ab cb bs bs.length rfl rfl HBN.out hbc HR1.out (by unfold maxLen; omega) (by omega) (by simp) ?_; intro v9 w2 ho2 hs2 hb2)
          rw [Nat.zero_add, List.nil_append] at ho2
          obtain ⟨ac, cc, rfl⟩ := own_slice ho2
          have hl12 : Below wr.heap.size wr w2 := (low_alloc wr _).trans (hb2.mono (by simp))
          have hszM : wr.heap.size < w2.heap.size := by have := hb2.size; simp at this; omega
          obtain ⟨M1, hM1⟩ : ∃ M, M = wr.heap.size := ⟨_, rfl⟩
          rw [← hM1] at ho2 hszM hgo2 htM HBL
          have HB2 : Hid (Bk w2 t 24 [.slice (some ⟨go, 0, none⟩) 96 co]) := HB1.out.below hl12 (by omega)
          have HO2 : Hid (Ow w2 (t + 1) (.slice (some ⟨go, 0, none⟩) 96 co) 96 bl cs (fun i => ps.getD i [])) := HO1.out.below hl12
          have HK2 : Hid (LK w (.slice a 96 cap) f x n w2) := HK1.out.step hl12
          have HC2 := Lib.hid ho2
          clear HB1 HO1 HK1 HR1 hs2 hb2 hl12 ho2 hM1
          obtain ⟨⟨qs, ec⟩, hwr⟩ : ∃ r, Fr.write ps f x bs = r := ⟨_, rfl⟩
          have HWR := Lib.hid hwr
          have HW : Hid (∀ W, Below w2.heap.size w2 W → Calls Try.prog 12 #[.agg #[.slice (some ⟨go, 0, none⟩) 96 co], .int .i64 f, .int .i64 x, .slice ac bs.length cc] W fun e w' => ∃ a n c, e = .returned (.tuple #[.agg #[.slice a n c], .int .i64 ec]) ∧ Wres W.heap.size ec qs (.slice a n c) w' ∧ Below W.heap.size W w') := fun W hW => by
            have hp : Pg W (.slice (some ⟨go, 0, none⟩) 96 co) ps := by
              have h := (HO2.out.below hW).pg
              rwa [show (List.range 96).map (fun i => ps.getD i []) = ps from range_getD HL.out] at h
            have hc : Sl eb W (.slice ac bs.length cc) bs := (Sl.ofOwn HC2.out).below hW (Nat.le_refl _)
            by_cases hck : Fr.chk ps f x bs.length = 0
            · refine (fwrite_ok f x hp hc hck).mono ?_
              rintro e w' ⟨g, h, rfl, h1, h2, h3, h4, h5⟩
              unfold Fr.write at hwr
              rw [if_pos hck] at hwr
              injection hwr with e1 e2
              subst e1 e2
              exact ⟨_, _, _, rfl, fun _ => ⟨g, h, rfl, h1, h2, h3, h4⟩, h5⟩
            · refine (fwrite_err f x hp hc hck).mono ?_
              rintro e w' ⟨h1, h2⟩
              unfold Fr.write at hwr
              rw [if_neg hck] at hwr
              injection hwr with e1 e2
              subst e1 e2
              exact ⟨_, _, _, h1, fun h0 => absurd h0 hck, h2⟩
          have hB2 := HB2.out
          obtain ⟨-, e1, e2, -, z0, z1, y0, y1, x0, x1⟩ := HK2.out.facts
          have HSQ : Hid (∀ W, Below w2.heap.size w2 W → W.cell? ⟨t, 0, none⟩ = some (.slice (some ⟨go, 0, none⟩) 96 co) ∧ W.cell? ⟨w.heap.size + 1, 0, none⟩ = some (.int .i64 f) ∧ W.cell? ⟨w.heap.size + 1, 1, none⟩ = some (.int .i64 x)) := fun W hW => by
            have h := (HK2.out.step hW).facts
            exact ⟨(hB2.below hW hB2.lt).cell 0, h.2.1, h.2.2.1⟩
          have ht2 : t < w2.heap.size := hB2.lt
          have ht3 : w2.heap.size ≠ t := by omega
          have ht4 : t ≠ w2.heap.size := by omega
          clear hwr hB2 e1 e2
          go_cut [10, 11] (fun s10 s11 W => GotV w2 ec qs s10 s11 W)
          case first =>
            have hl0 := low_drew w2
            have hla : ∀ o, Below w2.heap.size w2 (w2.alloc o).drew := fun o => low_adrew w2 o
            obtain ⟨c0, c1, c2⟩ := HSQ.out _ hl0
            go_region_held3 (fun w' => w'.cell? ⟨t, 0, none⟩ = some (.slice (some ⟨go, 0, none⟩) 96 co) ∧ w'.cell? ⟨w.heap.size + 1, 0, none⟩ = some (.int .i64 f) ∧ w'.cell? ⟨w.heap.size + 1, 1, none⟩ = some (.int .i64 x)) (first | with_reducible exact HSQ.out _ (by with_reducible assumption) | with_reducible exact HSQ.out _ (hla _) | go_keep) ((first
              | (go_at_call 13; refine (to_w _ _ _ _).mono ?_; rintro e w3 ⟨rfl, hb3⟩; have hl3 := stepAny (by first | exact low_drew w2 | exact low_adrew w2 _) hb3; obtain ⟨c03, c13, c23⟩ := HSQ.out w3 hl3; obtain ⟨hc3, hf3⟩ := bcell hb3; (try have hz3 : w2.heap.size < w3.heap.size := (by have := hb3.size; simp at this; omega)); have hs3 := hl3.size; have ht5 : w3.heap.size ≠ t := (by omega); have ht6 : t ≠ w3.heap.size := (by omega); have ht7 : w3.heap.size ≠ w.heap.size + 1 := (by omega); have ht8 : w.heap.size + 1 ≠ w3.heap.size := (by omega); have ht9 : t < w3.heap.size := (by omega); have ht10 : w.heap.size + 1 < w3.heap.size := (by omega))
              | (go_at_call 12; refine (HW.out _ (by first | exact hl3 | exact hl3.alloc hl3.size _)).mono ?_; rintro e w4 ⟨a4, n4, c4, rfl, hr4, hb4⟩; have hl4 := stepAny (by first | exact Below.refl _ w3 | exact low_alloc w3 _) hb4; have hl5 := stepAny hl3 hl4; obtain ⟨c04, c14, c24⟩ := HSQ.out w4 hl5; obtain ⟨hc4, hf4⟩ := bcell hb4; (try have hz4 : w2.heap.size < w4.heap.size := (by have := hb4.size; simp at this; omega)); (try have hz5 : w3.heap.size < w4.heap.size := (by have := hb4.size; simp at this; omega)))))
            all_goals (go_wp2_with fail; go_meet)
            all_goals first
              | exact GotV.new hl5 hr4 hl3.size
              | exact GotV.old hl5 hr4 (by simp; have := hl3.size; omega) hl3.size (by simp) (Bk.newAt w3 _ [_] rfl) hb4
              | exact GotV.old hl5 hr4 hl3.size (Nat.le_refl _) hz3 (Bk.newAt w2 _ [_] rfl) (stepAny (stepAny (low_drew _) hb3) hl4)
          case rest =>
            obtain ⟨ta, a4, n4, c4, rfl, rfl, hl3, hta, hB3, hFm⟩ := hcut
            have HL3 : Hid (Below w.heap.size w wc) := stepAny HK2.out.low hl3
            by_cases hec : ec = 0
            rotate_left
            · have f6 : (ec != 0) = true := by rw [bne_iff_ne]; exact hec
              clear hec hFm hB3
              go_wp2_with fail
              go_ret
              exact ⟨rfl, HL3.out⟩
            subst hec
            obtain ⟨gm, hm, e4, hg1, hh1, hgh, hag, hah, hF⟩ := hFm rfl
            injection e4 with e41 e42 e43
            subst e41 e42 e43
            have HF3 := Lib.hid hF
            have HA3 := Lib.hid hB3
            have hB3t := HB2.out.below hl3 ht2
            have HO3 := Lib.hid (HO2.out.below hl3)
            have HK3 := Lib.hid (HK2.out.step hl3)
            have HC3 : Hid (wc.ownsRow M1 5 1 (.slice ac bs.length cc) bs.length (bs.map eb)) := own_keep HC2.out fun q e => hl3.block q (HC2.out.lt q e).2
            have hCM : ∀ q, (Value.slice ac bs.length cc).ownBlock = some q → M1 ≤ q ∧ q < w2.heap.size := fun q e => HC2.out.lt q e
            have HCM := Lib.hid hCM
            have hs3 := hl3.size
            have htac := hB3.lt
            have hFlt := hF.lt
            have HB3 := Lib.hid hB3t
            have HRW : Hid (Calls Try.prog 17 #[.agg #[.slice a 96 cap], .int .i64 f, .int .i64 x, .slice ab bs.length cb] wc fun e w' => ∃ a n c, e = .returned (.tuple #[.agg #[.slice a n c], .int .i64 0]) ∧ Pa (fun b => b < w.heap.size ∨ (wc.heap.size ≤ b ∧ b < w'.heap.size)) w' (.slice a n c) qs ∧ Below wc.heap.size wc w') := by
              have h := rwrite_w f x (HV.out.pa.below HL3.out (Nat.le_refl _)) (fun b hb => Nat.lt_of_lt_of_le hb HL3.out.size) (HB.out.below HL3.out (Nat.le_refl _))
              unfold RPost at h
              rw [HWR.out] at h
              exact h
            obtain ⟨d0, d1, d2, -, -⟩ := HK3.out.facts
            clear hFm hF hB3 hB3t HB2 HO2 HK2 HC2 HSQ HW hl3 hCM z0 z1 y0 y1 x0 x1 ht2 ht3 ht4
            go_upto_region 14 with (go_at_call 17; (with_reducible refine HRW.out.mono ?_); rintro e w4 ⟨a5, n5, c5, rfl, hp4, hb4⟩)
            have hl4 : Below wc.heap.size wc (w4.alloc (.cells #[.slice a5 n5 c5] 24 (0, 0))) := hb4.alloc hb4.size _
            have hBw : Bk (w4.alloc (.cells #[.slice a5 n5 c5] 24 (0, 0))) w4.heap.size 24 [.slice a5 n5 c5] := Bk.new w4 _ [.slice a5 n5 c5]
            have hPw := hp4.below (low_alloc w4 (.cells #[.slice a5 n5 c5] 24 (0, 0))) (Nat.le_refl _)
            obtain ⟨tw, htw2⟩ : ∃ t, t = w4.heap.size := ⟨_, rfl⟩
            have hs4 := hb4.size
            rw [← htw2] at hBw hPw hs4 ⊢
            generalize w4.alloc (.cells #[.slice a5 n5 c5] 24 (0, 0)) = w5 at hl4 hBw hPw ⊢
            have HA5 := Lib.hid (HA3.out.below hl4 htac)
            have HF5 := Lib.hid (HF3.out.below hl4 (Nat.le_refl _))
            have HB5 := Lib.hid (HB3.out.below hl4 (by have := HB3.out.lt; exact this))
            have HO5 := Lib.hid (HO3.out.below hl4)
            have HK5 := Lib.hid (HK3.out.step hl4)
            have HC5 : Hid (w5.ownsRow M1 5 1 (.slice ac bs.length cc) bs.length (bs.map eb)) := own_keep HC3.out fun q e => hl4.block q (HC3.out.lt q e).2
            have HP5 := Lib.hid hPw
            have HBW5 := Lib.hid hBw
            have htw5 := hBw.lt
            have hs5 := hl4.size
            clear HA3 HF3 HB3 HO3 HK3 HC3 hp4 hb4 hl4 hBw hPw htw2 HRW d0 d1 d2
            obtain ⟨M2, hM2⟩ : ∃ M, M = w2.heap.size := ⟨_, rfl⟩
            rw [← hM2] at HCM hszM hta hg1 hh1
            have hM3 : M2 ≤ wc.heap.size := by omega
            clear hs3 hM2
            go_upto_block 2 with fail
            go_cut [14, 89] (fun _ _ W => Btw M1 M2 w5 W)
            case first =>
              by_cases h0 : bs.length = 0
              · have f7 : ¬ (0 : Int) < (bs.length : Int) := by omega
                clear h0
                go_wp2_with fail
                go_loopw [14, 89] (fun _ i wr => i = .int .i64 0 ∧ wr = w5) (fun _ _ _ => 0)
                case atStart => exact ⟨rfl, rfl⟩
                case round =>
                  obtain ⟨rfl, rfl⟩ := hrel
                  go_wp2_with fail
                  go_meet
                  exact Btw.refl _ _ _
              · obtain ⟨gc, cc', e5⟩ := own_form HC5.out (by omega)
                injection e5 with e51 _ e52
                subst e51 e52
                obtain ⟨hgc1, hgc2⟩ := HCM.out gc rfl
                go_wp2_with fail
                go_loopw [14, 89] (fun _ i wr => ∃ (k : Nat) (ms : List Int), i = .int .i64 k ∧ k ≤ bs.length ∧ wr.ownsRow M1 5 1 (.slice (some ⟨gc, 0, none⟩) bs.length cc) bs.length (ms.map (Value.int .u8)) ∧ Btw M1 M2 w5 wr) (fun _ i _ => bs.length - (intOf i).toNat)
                case atStart => exact ⟨0, bs.map fun b => (b.toNat : Int), rfl, Nat.zero_le _, by rw [List.map_map]; exact HC5.out, Btw.refl _ _ _⟩
                case round =>
                  obtain ⟨k, ms, rfl, hk, ho, hbt⟩ := hrel
                  by_cases hlt : k < bs.length
                  · have hml : k < ms.length := by
                      have h := ho.1
                      simp at h
                      omega
                    have y0 := ho.cellAt k (by omega)
                    rw [List.getElem?_map, List.getElem?_eq_getElem hml] at y0
                    simp only [Option.map_some] at y0
                    have y1 := ho.frozenAt k
                    have g1 : (0 : Int) ≤ (k : Int) := by omega
                    have g2 : (k : Int) < (bs.length : Int) := by omega
                    have HO := Lib.hid ho
                    have HT := Lib.hid hbt
                    clear ho hbt
                    generalize ms[k] = m at *
                    go_wp2_with fail
                    go_roundw
                    case rel => exact ⟨k + 1, _, by go_num, by omega, own_put HO.out k _, HT.out.set hgc1 hgc2 k _⟩
                    case measure => simp [intOf]; omega
                  · have g2 : ¬ (k : Int) < (bs.length : Int) := by omega
                    have HT := Lib.hid hbt
                    clear ho hbt
                    go_wp2_with fail
                    go_meet
                    exact HT.out
            case rest =>
              rename World => w6
              have HK6 : Hid (LK w (.slice a 96 cap) f x n w6) := Keeps.to HK5.out hcut.low (by omega) fun e he => by have := LK.ids he; omega
              have hb6 : Bk w6 t 24 [.slice (some ⟨go, 0, none⟩) 96 co] := HB5.out.keep (hcut.same (.inl htM) HB5.out.lt)
              have HO6 : Hid (Ow w6 (t + 1) (.slice (some ⟨go, 0, none⟩) 96 co) 96 bl cs (fun i => ps.getD i [])) := Lib.hid (HO5.out.keep (fun b e => hcut.same (.inl (by have e : go = b := (by simpa [Value.ownBlock] using e); omega)) (HO5.out.outer.lt b e).2) (fun i hi => hcut.same (.inl (HBL.out i hi)) (HO5.out.lt hi).2))
              have ha6 : Bk w6 ta 30 [.slice (some ⟨hm, 0, none⟩) 96 96] := HA5.out.keep (hcut.same (.inr hta) HA5.out.lt)
              have HF6 : Hid (Fm w6 gm hm qs) := HF5.out.keep (hcut.same (.inr hg1) HF5.out.lt.1) (hcut.same (.inr hh1) HF5.out.lt.2)
              have HP6 : Hid (Pa (fun b => b < w.heap.size ∨ (wc.heap.size ≤ b ∧ b < tw)) w6 (.slice a5 n5 c5) qs) := HP5.out.keep fun b hb hl => hcut.same (hb.elim (fun h => .inl (by omega)) fun h => .inr (by omega)) hl
              have hw6 : Bk w6 tw 24 [.slice a5 n5 c5] := HBW5.out.keep (hcut.same (.inr (by omega)) HBW5.out.lt)
              have hs6 := hcut.size
              clear HK5 HB5 HO5 HA5 HF5 HP5 HBW5 HC5 HCM hcut
              obtain ⟨p, hrd, hpl⟩ := Fr.read_all HWR.out HF6.out.len HF6.out.pl
              have HRD : Hid (Calls Try.prog 14 #[.agg #[.slice (some ⟨hm, 0, none⟩) 96 96], .int .i64 f, .int .i64 0, .int .i64 128] w6 fun e w' => ∃ v', e = .returned (.tuple #[v', .int .i64 0]) ∧ w'.ownsRow w6.heap.size 5 1 v' 128 (p.map eb) ∧ Below w6.heap.size w6 w') := by
                have h := fread_w f 0 128 HF6.out.pg
                rw [hrd] at h
                rw [← hpl]
                exact h
              obtain ⟨-, d1, -, -, -⟩ := HK6.out.facts
              have d0 := ha6.cell 0
              simp only [List.getElem?_cons_zero] at d0
              have HA6 := Lib.hid ha6
              have HB6 := Lib.hid hb6
              have HW6 := Lib.hid hw6
              clear hrd hpl ha6 hb6 hw6
              go_upto_region 20 with (go_at_call 14; (with_reducible refine HRD.out.mono ?_); rintro e w7 ⟨v15, rfl, ho7, hb7⟩)
              obtain ⟨gr, cr, rfl⟩ := own_form ho7 (by decide)
              obtain ⟨hgr1, hgr2⟩ := ho7.lt gr rfl
              have HK7 := Lib.hid (HK6.out.step hb7)
              have HB7 := Lib.hid (HB6.out.below hb7 HB6.out.lt)
              have HO7 := Lib.hid (HO6.out.below hb7)
              have HA7 := Lib.hid (HA6.out.below hb7 HA6.out.lt)
              have HF7 := Lib.hid (HF6.out.below hb7 (Nat.le_refl _))
              have HP7 := Lib.hid (HP6.out.below hb7 (Nat.le_refl _))
              have HW7 := Lib.hid (HW6.out.below hb7 HW6.out.lt)
              have hs7 := hb7.size
              have hlt6 : ta < w6.heap.size ∧ tw < w6.heap.size ∧ t < w6.heap.size ∧ gm < w6.heap.size ∧ hm < w6.heap.size ∧ go < w6.heap.size ∧ w.heap.size + 1 < w6.heap.size := ⟨HA6.out.lt, HW6.out.lt, HB6.out.lt, HF6.out.lt.1, HF6.out.lt.2, (HO6.out.outer.lt go rfl).2, by have := HB6.out.lt; omega⟩
              have HBL6 : Hid (∀ i, i < 96 → bl i < w6.heap.size) := fun i hi => (HO6.out.lt hi).2
              have HC7 : Hid (∃ ms : List Int, w7.ownsRow w6.heap.size 5 1 (.slice (some ⟨gr, 0, none⟩) 128 cr) 128 (ms.map (Value.int .u8))) := ⟨p.map fun b => (b.toNat : Int), by rw [List.map_map]; exact ho7⟩
              clear HK6 HB6 HO6 HA6 HF6 HP6 HW6 ho7 hb7 HRD d0 d1
              obtain ⟨M6, hM6⟩ : ∃ M, M = w6.heap.size := ⟨_, rfl⟩
              rw [← hM6] at HC7 HBL6 hlt6 hgr1 hs7 hs6
              clear hM6
              obtain ⟨l61, l62, l63, l64, l65, l66, l67⟩ := hlt6
              go_upto_block 4 with fail
              go_cut [17, 108] (fun _ _ W => Btw M6 w7.heap.size w7 W)
              case first =>
                obtain ⟨ms, hms⟩ := HC7.out
                go_wp2_with fail
                go_loopw [17, 108] (fun _ i wr => ∃ (k : Nat) (ms : List Int), i = .int .i64 k ∧ k ≤ 128 ∧ wr.ownsRow M6 5 1 (.slice (some ⟨gr, 0, none⟩) 128 cr) 128 (ms.map (Value.int .u8)) ∧ Btw M6 w7.heap.size w7 wr) (fun _ i _ => 128 - (intOf i).toNat)
                case atStart => exact ⟨0, ms, rfl, Nat.zero_le _, hms, Btw.refl _ _ _⟩
                case round =>
                  clear hms
                  obtain ⟨k, ms, rfl, hk, ho, hbt⟩ := hrel
                  by_cases hlt : k < 128
                  · have hml : k < ms.length := by
                      have h := ho.1
                      simp at h
                      omega
                    have y0 := ho.cellAt k (by omega)
                    rw [List.getElem?_map, List.getElem?_eq_getElem hml] at y0
                    simp only [Option.map_some] at y0
                    have y1 := ho.frozenAt k
                    have g1 : (0 : Int) ≤ (k : Int) := by omega
                    have g2 : (k : Int) < (128 : Int) := by omega
                    have HO := Lib.hid ho
                    have HT := Lib.hid hbt
                    clear ho hbt
                    generalize ms[k] = m at *
                    go_wp2_with fail
                    go_roundw
                    case rel => exact ⟨k + 1, _, by go_num, by omega, own_put HO.out k _, HT.out.set hgr1 hgr2 k _⟩
                    case measure => simp [intOf]; omega
                  · have g2 : ¬ (k : Int) < (128 : Int) := by omega
                    have HT := Lib.hid hbt
                    clear ho hbt
                    go_wp2_with fail
                    go_meet
                    exact HT.out
              case rest =>
                rename World => w8
                have HK8 : Hid (LK w (.slice a 96 cap) f x n w8) := Keeps.to HK7.out hcut.low (by omega) fun e he => by have := LK.ids he; omega
                have HB8 : Hid (Bk w8 t 24 [.slice (some ⟨go, 0, none⟩) 96 co]) := HB7.out.keep (hcut.same (.inl l63) HB7.out.lt)
                have HO8 : Hid (Ow w8 (t + 1) (.slice (some ⟨go, 0, none⟩) 96 co) 96 bl cs (fun i => ps.getD i [])) := HO7.out.keep (fun b e => hcut.same (.inl (by have e : go = b := (by simpa [Value.ownBlock] using e); omega)) (HO7.out.outer.lt b e).2) (fun i hi => hcut.same (.inl (HBL6.out i hi)) (HO7.out.lt hi).2)
                have HA8 : Hid (Bk w8 ta 30 [.slice (some ⟨hm, 0, none⟩) 96 96]) := HA7.out.keep (hcut.same (.inl l61) HA7.out.lt)
                have HF8 : Hid (Fm w8 gm hm qs) := HF7.out.keep (hcut.same (.inl l64) HF7.out.lt.1) (hcut.same (.inl l65) HF7.out.lt.2)
                have HP8 : Hid (Pa (fun b => b < w.heap.size ∨ (wc.heap.size ≤ b ∧ b < tw)) w8 (.slice a5 n5 c5) qs) := HP7.out.keep fun b hb hl => hcut.same (.inl (hb.elim (fun h => by omega) fun h => by omega)) hl
                have HW8 : Hid (Bk w8 tw 24 [.slice a5 n5 c5]) := HW7.out.keep (hcut.same (.inl l62) HW7.out.lt)
                have hs8 := hcut.size
                clear HK7 HB7 HO7 HA7 HF7 HP7 HW7 HC7 hcut
                obtain ⟨M8, hM8⟩ : ∃ M, M = w8.heap.size := ⟨_, rfl⟩
                have HSS : Hid (∀ W, Below w8.heap.size w8 W → W.cell? ⟨ta, 0, none⟩ = some (.slice (some ⟨hm, 0, none⟩) 96 96) ∧ W.cell? ⟨tw, 0, none⟩ = some (.slice a5 n5 c5)) := fun W hW => ⟨(HA8.out.below hW HA8.out.lt).cell 0, (HW8.out.below hW HW8.out.lt).cell 0⟩
                have HEQ : Hid (∀ W, Below w8.heap.size w8 W → Calls Try.prog 18 #[.agg #[.slice (some ⟨hm, 0, none⟩) 96 96], .agg #[.slice a5 n5 c5]] W fun e w' => e = .returned (.bool true) ∧ Below W.heap.size W w') := fun W hW => requal_t (HF8.out.pg.below hW (Nat.le_refl _)) (HP8.out.pg.below hW (Nat.le_refl _))
                go_upto_region 25 with fail
                go_cut [126] (fun s W => s = .bool false ∧ Below w8.heap.size w8 W)
                case first =>
                  have hl0 := low_drew w8
                  obtain ⟨c0, c1⟩ := HSS.out _ hl0
                  go_region_held3 (fun w' => w'.cell? ⟨ta, 0, none⟩ = some (.slice (some ⟨hm, 0, none⟩) 96 96) ∧ w'.cell? ⟨tw, 0, none⟩ = some (.slice a5 n5 c5)) (first | with_reducible exact HSS.out _ (by with_reducible assumption) | go_keep) ((first
                    | (go_at_call 19; refine (from_w _ _ _ _).mono ?_; rintro e w3 ⟨rfl, hb3⟩; have hl3 := stepAny hl0 hb3; obtain ⟨c03, c13⟩ := HSS.out w3 hl3)
                    | (go_at_call 18; (with_reducible refine (HEQ.out _ hl3).mono ?_); rintro e w4 ⟨rfl, hb4⟩; have hl4 := stepAny hl3 hb4)))
                  all_goals (go_wp2_with fail; go_meet)
                  all_goals exact ⟨rfl, hl4⟩
                case rest =>
                  rename World => w9
                  obtain ⟨rfl, hb9⟩ := hcut
                  have HK9 := Lib.hid (HK8.out.step hb9)
                  have HB9 := Lib.hid (HB8.out.below hb9 HB8.out.lt)
                  have HO9 := Lib.hid (HO8.out.below hb9)
                  have HA9 := Lib.hid (HA8.out.below hb9 HA8.out.lt)
                  have HF9 := Lib.hid (HF8.out.below hb9 (Nat.le_refl _))
                  have HP9 := Lib.hid (HP8.out.below hb9 (Nat.le_refl _))
                  have HW9 := Lib.hid (HW8.out.below hb9 HW8.out.lt)
                  have hs9 := hb9.size
                  clear HK8 HB8 HO8 HA8 HF8 HP8 HW8 hb9 HSS HEQ hM8
                  obtain ⟨k0, k1, k2, -, -⟩ := HK9.out.facts
                  have kt := HB9.out.cell 0
                  simp only [List.getElem?_cons_zero] at kt
                  obtain ⟨V, hV⟩ : ∃ V : Nat → Nat → UInt8, ∀ j k, V j k = (ps.getD j []).getD k 0 := ⟨_, fun _ _ => rfl⟩
                  have HRQ := Lib.hid (RQ.start (Q := fun i => ps.getD i []) hV)
                  have HVV := Lib.hid hV
                  clear hV
                  have htgo : t + 1 ≤ go := hgo1
                  go_upto_block 6 with fail
                  go_cut [18, 19, 130] (fun _ _ _ W => (∃ Q, Ow W (t + 1) (.slice (some ⟨go, 0, none⟩) 96 co) 96 bl cs Q ∧ RQ V 96 0 Q) ∧ Btw (t + 1) M1 w9 W)
                  case first =>
                    go_wp2_with fail
                    go_loopw [18, 19, 130] (fun _ _ s wr => ∃ (i : Nat) (Q : Nat → List UInt8), s = .int .i64 i ∧ i ≤ 96 ∧ Ow wr (t + 1) (.slice (some ⟨go, 0, none⟩) 96 co) 96 bl cs Q ∧ RQ V i 0 Q ∧ Btw (t + 1) M1 w9 wr) (fun _ _ s _ => 96 - (intOf s).toNat)
                    case atStart => exact ⟨0, _, rfl, Nat.zero_le _, HO9.out, HRQ.out, Btw.refl _ _ _⟩
                    case round =>
                      rename World => wr
                      obtain ⟨i, Q, rfl, hi, ho, hq, hbt⟩ := hrel
                      by_cases hlt : i < 96
                      · have kt2 : wr.cell? ⟨t, 0, none⟩ = some (.slice (some ⟨go, 0, none⟩) 96 co) := (hbt.low.cell (p := ⟨t, 0, none⟩) (Nat.lt_succ_self t)).trans kt
                        have y0 := ho.tab hlt
                        have g1 : (0 : Int) ≤ (i : Int) := by omega
                        have g2 : (i : Int) < 96 := by omega
                        have HO := Lib.hid ho
                        have HQ := Lib.hid hq
                        have HT := Lib.hid hbt
                        have hbi1 : t + 1 ≤ bl i := (ho.lt hlt).1
                        have hbi2 : bl i < M1 := HBL.out i hlt
                        clear ho hq hbt
                        go_wp2_with fail
                        go_loopw [19, 139] (fun _ s wi => ∃ (k : Nat) (Q : Nat → List UInt8), s = .int .i64 k ∧ k ≤ 128 ∧ Ow wi (t + 1) (.slice (some ⟨go, 0, none⟩) 96 co) 96 bl cs Q ∧ RQ V i k Q ∧ Btw (t + 1) M1 w9 wi) (fun _ s _ => 128 - (intOf s).toNat)
                        case atStart => exact ⟨0, Q, rfl, Nat.zero_le _, HO.out, HQ.out, HT.out⟩
                        case round =>
                          rename World => wi
                          obtain ⟨k, Q2, rfl, hk, ho2, hq2, hbt2⟩ := hrel
                          by_cases hlk : k < 128
                          · have kt3 : wi.cell? ⟨t, 0, none⟩ = some (.slice (some ⟨go, 0, none⟩) 96 co) := (hbt2.low.cell (p := ⟨t, 0, none⟩) (Nat.lt_succ_self t)).trans kt
                            have y2 := ho2.tab hlt
                            have b0 := ho2.byte hlt k hlk
                            have hlen := ho2.len hlt
                            rw [hq2.at hlt hlk hlen] at b0
                            unfold eb at b0
                            have z0 := ho2.frozen hlt k
                            have w1 := u8s (V i k)
                            have g3 : (0 : Int) ≤ (k : Int) := by omega
                            have g4 : (k : Int) < 128 := by omega
                            have HST : Hid (Ow (wi.setCell ⟨bl i, k, none⟩ (.int .u8 ((V i k + 1).toNat : Int))) (t + 1) (.slice (some ⟨go, 0, none⟩) 96 co) 96 bl cs (upd Q2 i ((Q2 i).set k (V i k + 1)))) := (ho2.set hlt k (V i k + 1)).1
                            have HQ2 := Lib.hid (hq2.step hlk hlen)
                            have HT2 := Lib.hid (hbt2.set hbi1 hbi2 k (.int .u8 ((V i k + 1).toNat : Int)))
                            clear ho2 hq2 hbt2 hlen
                            go_wp2_with fail
                            go_roundw
                            case rel => exact ⟨k + 1, _, by go_num, by omega, HST.out, HQ2.out, HT2.out⟩
                            case measure => simp [intOf]; omega
                          · have g4 : ¬ (k : Int) < 128 := by omega
                            have HO2 := Lib.hid ho2
                            have HQ2 : Hid (RQ V (i + 1) 0 Q2) := by
                              obtain rfl : k = 128 := by omega
                              exact hq2.next
                            have HT2 := Lib.hid hbt2
                            clear ho2 hq2 hbt2
                            go_wp2_with fail
                            go_roundw
                            case rel => exact ⟨i + 1, Q2, by go_num, by omega, HO2.out, HQ2.out, HT2.out⟩
                            case measure => simp [intOf]; omega
                      · have g2 : ¬ (i : Int) < 96 := by omega
                        have HR : Hid ((∃ Q, Ow wr (t + 1) (.slice (some ⟨go, 0, none⟩) 96 co) 96 bl cs Q ∧ RQ V 96 0 Q) ∧ Btw (t + 1) M1 w9 wr) := by
                          obtain rfl : i = 96 := by omega
                          exact ⟨⟨Q, ho, hq⟩, hbt⟩
                        clear ho hq hbt
                        go_wp2_with fail
                        go_meet
                        exact HR.out
                  case rest =>
                    rename World => w10
                    obtain ⟨⟨Q, hO10, hq10⟩, hbt⟩ := hcut
                    have HO10 := Lib.hid hO10
                    have HRQ10 := Lib.hid hq10
                    have HK10 : Hid (LK w (.slice a 96 cap) f x n w10) := Keeps.to HK9.out hbt.low (by omega) fun e he => by have := LK.ids he; omega
                    have HB10 : Hid (Bk w10 t 24 [.slice (some ⟨go, 0, none⟩) 96 co]) := HB9.out.keep (hbt.same (.inl (Nat.lt_succ_self t)) HB9.out.lt)
                    have HA10 : Hid (Bk w10 ta 30 [.slice (some ⟨hm, 0, none⟩) 96 96]) := HA9.out.keep (hbt.same (.inr (by omega)) HA9.out.lt)
                    have HF10 : Hid (Fm w10 gm hm qs) := HF9.out.keep (hbt.same (.inr (by omega)) HF9.out.lt.1) (hbt.same (.inr (by omega)) HF9.out.lt.2)
                    have HP10 : Hid (Pa (fun b => b < w.heap.size ∨ (wc.heap.size ≤ b ∧ b < tw)) w10 (.slice a5 n5 c5) qs) := HP9.out.keep fun b hb hl => hbt.same (hb.elim (fun h => .inl (by omega)) fun h => .inr (by omega)) hl
                    have HW10 : Hid (Bk w10 tw 24 [.slice a5 n5 c5]) := HW9.out.keep (hbt.same (.inr (by omega)) HW9.out.lt)
                    clear HK9 HB9 HO9 HA9 HF9 HP9 HW9 hO10 hq10 hbt HRQ k0 k1 k2 kt
                    have HSS : Hid (∀ W, Below w10.heap.size w10 W → W.cell? ⟨ta, 0, none⟩ = some (.slice (some ⟨hm, 0, none⟩) 96 96) ∧ W.cell? ⟨tw, 0, none⟩ = some (.slice a5 n5 c5)) := fun W hW => ⟨(HA10.out.below hW HA10.out.lt).cell 0, (HW10.out.below hW HW10.out.lt).cell 0⟩
                    have HEQ : Hid (∀ W, Below w10.heap.size w10 W → Calls Try.prog 18 #[.agg #[.slice (some ⟨hm, 0, none⟩) 96 96], .agg #[.slice a5 n5 c5]] W fun e w' => e = .returned (.bool true) ∧ Below W.heap.size W w') := fun W hW => requal_t (HF10.out.pg.below hW (Nat.le_refl _)) (HP10.out.pg.below hW (Nat.le_refl _))
                    go_upto_region 36 with fail
                    go_cut [158] (fun s W => s = .bool false ∧ Below w10.heap.size w10 W)
                    case first =>
                      have hl0 := low_drew w10
                      obtain ⟨c0, c1⟩ := HSS.out _ hl0
                      go_region_held3 (fun w' => w'.cell? ⟨ta, 0, none⟩ = some (.slice (some ⟨hm, 0, none⟩) 96 96) ∧ w'.cell? ⟨tw, 0, none⟩ = some (.slice a5 n5 c5)) (first | with_reducible exact HSS.out _ (by with_reducible assumption) | go_keep) ((first
                        | (go_at_call 19; refine (from_w _ _ _ _).mono ?_; rintro e w3 ⟨rfl, hb3⟩; have hl3 := stepAny hl0 hb3; obtain ⟨c03, c13⟩ := HSS.out w3 hl3)
                        | (go_at_call 18; (with_reducible refine (HEQ.out _ hl3).mono ?_); rintro e w4 ⟨rfl, hb4⟩; have hl4 := stepAny hl3 hb4)))
                      all_goals (go_wp2_with fail; go_meet)
                      all_goals exact ⟨rfl, hl4⟩
                    case rest =>
                      rename World => w11
                      obtain ⟨rfl, hb11⟩ := hcut
                      have HO11 := Lib.hid (HO10.out.below hb11)
                      have HK11 := Lib.hid (HK10.out.step hb11)
                      have HB11 := Lib.hid (HB10.out.below hb11 HB10.out.lt)
                      have hA11 := HA10.out.below hb11 HA10.out.lt
                      have HA11 := Lib.hid hA11
                      have HF11 := Lib.hid (HF10.out.below hb11 (Nat.le_refl _))
                      have kta := hA11.cell 0
                      simp only [List.getElem?_cons_zero] at kta
                      clear HO10 HK10 HB10 HA10 HF10 HP10 HW10 HSS HEQ hb11 hA11
                      have HTB : Hid (∀ i, i < 96 → w11.cell? ⟨hm, i, none⟩ = some (.slice (some ⟨gm, i * 128, none⟩) 128 128)) := fun i hi => HF11.out.at i hi
                      have HFL : Hid (gm < w11.heap.size ∧ hm < w11.heap.size) := HF11.out.lt
                      have hta11 : ta < w11.heap.size := HA11.out.lt
                      go_upto_block 10 with fail
                      go_cut [20, 21, 162] (fun _ _ _ W => Btw gm (gm + 1) w11 W)
                      case first =>
                        obtain ⟨cur0, hcur1, hcur2, -⟩ := HF11.out.row
                        have HC0 := Lib.hid hcur1
                        have HC2 := Lib.hid hcur2
                        clear hcur1 hcur2
                        go_wp2_with fail
                        go_loopw [20, 21, 162] (fun _ _ s wr => ∃ (i : Nat) (cur : List Value), s = .int .i64 i ∧ i ≤ 96 ∧ Bk wr gm 5 cur ∧ cur.length = 12288 ∧ Btw gm (gm + 1) w11 wr) (fun _ _ s _ => 96 - (intOf s).toNat)
                        case atStart => exact ⟨0, cur0, rfl, Nat.zero_le _, HC0.out, HC2.out, Btw.refl _ _ _⟩
                        case round =>
                          rename World => wr
                          obtain ⟨i, cur, rfl, hi, hbk, hcl, hbt⟩ := hrel
                          by_cases hlt : i < 96
                          · have kt2 : wr.cell? ⟨ta, 0, none⟩ = some (.slice (some ⟨hm, 0, none⟩) 96 96) := (World.cell?_of_block (w := w11) (hbt.same (k := ta) (by omega) hta11)).trans kta
                            have y0 : wr.cell? ⟨hm, i, none⟩ = some (.slice (some ⟨gm, i * 128, none⟩) 128 128) := (World.cell?_of_block (w := w11) (hbt.same (k := hm) (by omega) HFL.out.2)).trans (HTB.out i hlt)
                            have g1 : (0 : Int) ≤ (i : Int) := by omega
                            have g2 : (i : Int) < 96 := by omega
                            have HBK := Lib.hid hbk
                            have HCL := Lib.hid hcl
                            have HT := Lib.hid hbt
                            clear hbk hcl hbt
                            go_wp2_with fail
                            go_loopw [21, 171] (fun _ s wi => ∃ (k : Nat) (cur : List Value), s = .int .i64 k ∧ k ≤ 128 ∧ Bk wi gm 5 cur ∧ cur.length = 12288 ∧ Btw gm (gm + 1) w11 wi) (fun _ s _ => 128 - (intOf s).toNat)
                            case atStart => exact ⟨0, cur, rfl, Nat.zero_le _, HBK.out, HCL.out, HT.out⟩
                            case round =>
                              rename World => wi
                              obtain ⟨k, cur2, rfl, hk, hbk2, hcl2, hbt2⟩ := hrel
                              by_cases hlk : k < 128
                              · have kt3 : wi.cell? ⟨ta, 0, none⟩ = some (.slice (some ⟨hm, 0, none⟩) 96 96) := (World.cell?_of_block (w := w11) (hbt2.same (k := ta) (by omega) hta11)).trans kta
                                have y2 : wi.cell? ⟨hm, i, none⟩ = some (.slice (some ⟨gm, i * 128, none⟩) 128 128) := (World.cell?_of_block (w := w11) (hbt2.same (k := hm) (by omega) HFL.out.2)).trans (HTB.out i hlt)
                                have b0 := hbk2.cell (i * 128 + k)
                                rw [List.getElem?_eq_getElem (by omega)] at b0
                                have z0 := hbk2.frozen (i * 128 + k)
                                have g3 : (0 : Int) ≤ (k : Int) := by omega
                                have g4 : (k : Int) < 128 := by omega
                                have HBK2 := Lib.hid (hbk2.set (i * 128 + k) (.int .u8 9))
                                have HCL2 : Hid ((cur2.set (i * 128 + k) (.int .u8 9)).length = 12288) := by show _ = _; rw [List.length_set]; exact hcl2
                                have HT2 := Lib.hid (hbt2.set (Nat.le_refl gm) (Nat.lt_succ_self gm) (i * 128 + k) (.int .u8 9))
                                generalize cur2[i * 128 + k]'(by omega) = old at b0
                                clear hbk2 hcl2 hbt2
                                go_wp2_with fail
                                go_roundw
                                case rel => exact ⟨k + 1, _, by go_num, by omega, HBK2.out, HCL2.out, HT2.out⟩
                                case measure => simp [intOf]; omega
                              · have g4 : ¬ (k : Int) < 128 := by omega
                                have HBK2 := Lib.hid hbk2
                                have HCL2 := Lib.hid hcl2
                                have HT2 := Lib.hid hbt2
                                clear hbk2 hcl2 hbt2
                                go_wp2_with fail
                                go_roundw
                                case rel => exact ⟨i + 1, cur2, by go_num, by omega, HBK2.out, HCL2.out, HT2.out⟩
                                case measure => simp [intOf]; omega
                          · have g2 : ¬ (i : Int) < 96 := by omega
                            have HT := Lib.hid hbt
                            clear hbk hcl hbt
                            go_wp2_with fail
                            go_meet
                            exact HT.out
                      case rest =>
                        rename World => w12
                        have HO12 : Hid (Ow w12 (t + 1) (.slice (some ⟨go, 0, none⟩) 96 co) 96 bl cs Q) := HO11.out.keep (fun b e => hcut.same (.inl (by have e : go = b := (by simpa [Value.ownBlock] using e); omega)) (HO11.out.outer.lt b e).2) (fun i hi => hcut.same (.inl (by have := HBL.out i hi; omega)) (HO11.out.lt hi).2)
                        have HK12 : Hid (LK w (.slice a 96 cap) f x n w12) := Keeps.to HK11.out hcut.low (by omega) fun e he => by have := LK.ids he; omega
                        have HB12 : Hid (Bk w12 t 24 [.slice (some ⟨go, 0, none⟩) 96 co]) := HB11.out.keep (hcut.same (.inl (by omega)) HB11.out.lt)
                        clear HO11 HK11 HB11 HA11 HF11 HTB HFL hcut kta
                        have kt := HB12.out.cell 0
                        simp only [List.getElem?_cons_zero] at kt
                        obtain ⟨k0, -, -, -, -⟩ := HK12.out.facts
                        have htl := HB12.out.lt
                        have HK0 := Lib.hid k0
                        have HKT := Lib.hid kt
                        go_wp2_with fail
                        go_loopw [22, 23, 186] (fun _ _ s wr => ∃ i : Nat, s = .int .i64 i ∧ i ≤ 96 ∧ Below w12.heap.size w12 wr) (fun _ _ s _ => 96 - (intOf s).toNat)
                        case atStart => exact ⟨0, rfl, Nat.zero_le _, Below.refl _ _⟩
                        case round =>
                          rename World => wr
                          obtain ⟨i, rfl, hi, hbr⟩ := hrel
                          have HLW : Hid (Below w.heap.size w wr) := stepAny HK12.out.low hbr
                          have HBR := Lib.hid hbr
                          by_cases hlt : i < 96
                          · have hip : i < ps.length := by have := HL.out; omega
                            obtain ⟨mb, mo, a', c', rfl, hmb, hck, p1, p2, p3, p4⟩ := HV.out.el i hip
                            have hpl := HPL.out i hip
                            obtain ⟨pb, po, rfl, t1, t2⟩ := p4.form (by omega)
                            rw [hpl] at hck p1
                            have HT2 := Lib.hid t2
                            have HPLI := Lib.hid hpl
                            have hwn : w.heap.size < w12.heap.size := by omega
                            have kt2 : wr.cell? ⟨t, 0, none⟩ = some (.slice (some ⟨go, 0, none⟩) 96 co) := (hbr.cell (p := ⟨t, 0, none⟩) htl).trans HKT.out
                            have k02 : wr.cell? ⟨w.heap.size, 0, none⟩ = some (.slice (some ⟨mb, mo, none⟩) 96 cap) := (hbr.cell (p := ⟨w.heap.size, 0, none⟩) hwn).trans HK0.out
                            have y0 := (HO12.out.below hbr).tab hlt
                            have q2 := (HLW.out.cell (p := ⟨mb, mo + i, none⟩) hmb).trans hck
                            have HCK := Lib.hid hck
                            have g1 : (0 : Int) ≤ (i : Int) := by omega
                            have g2 : (i : Int) < 96 := by omega
                            unfold maxLen at p2
                            clear t2 hpl hck p4 hbr k0 kt
                            go_wp2_with fail
                            go_loopw [23, 195] (fun _ s wi => ∃ k : Nat, s = .int .i64 k ∧ k ≤ 128 ∧ Below w12.heap.size w12 wi) (fun _ s _ => 128 - (intOf s).toNat)
                            case atStart => exact ⟨0, rfl, Nat.zero_le _, HBR.out⟩
                            case round =>
                              rename World => wi
                              obtain ⟨k, rfl, hk, hbi⟩ := hrel
                              have HLI : Hid (Below w.heap.size w wi) := stepAny HK12.out.low hbi
                              by_cases hlk : k < 128
                              · have hkp : k < ps[i].length := by have := HPLI.out; omega
                                have kt3 : wi.cell? ⟨t, 0, none⟩ = some (.slice (some ⟨go, 0, none⟩) 96 co) := (hbi.cell (p := ⟨t, 0, none⟩) htl).trans HKT.out
                                have k03 : wi.cell? ⟨w.heap.size, 0, none⟩ = some (.slice (some ⟨mb, mo, none⟩) 96 cap) := (hbi.cell (p := ⟨w.heap.size, 0, none⟩) hwn).trans HK0.out
                                have ho := HO12.out.below hbi
                                have y2 := ho.tab hlt
                                have q3 := (HLI.out.cell (p := ⟨mb, mo + i, none⟩) hmb).trans HCK.out
                                have b0 := ho.byte hlt k hlk
                                rw [HRQ10.out.all hlt hlk (ho.len hlt)] at b0
                                have c0 := (HLI.out.cell (p := ⟨pb, po + k, none⟩) t1).trans (HT2.out k hkp)
                                have hv : V i k = ps[i][k] := by rw [HVV.out]; simp [List.getD, hip, hkp]
                                rw [hv] at b0
                                unfold eb at b0 c0
                                generalize ps[i][k] = y at b0 c0 hv
                                have w1 := u8s y
                                have g3 : (0 : Int) ≤ (k : Int) := by omega
                                have g4 : (k : Int) < 128 := by omega
                                have HREL : Hid (∀ q, Below w12.heap.size w12 (wi.drewN q)) := fun q => ⟨hbi.os, hbi.tape, hbi.output, hbi.size, hbi.block⟩
                                clear ho hv hbi
                                go_wp2_with fail
                                go_quiet (fail)
                                go_wp2
                                go_roundw
                                case rel => exact ⟨k + 1, by go_num, by omega, HREL.out _⟩
                                case measure => simp [intOf]; omega
                              · have g4 : ¬ (k : Int) < 128 := by omega
                                have HBI := Lib.hid hbi
                                clear hbi
                                go_wp2_with fail
                                go_roundw
                                case rel => exact ⟨i + 1, by go_num, by omega, HBI.out⟩
                                case measure => simp [intOf]; omega
                          · have g2 : ¬ (i : Int) < 96 := by omega
                            clear hbr
                            go_wp2_with fail
                            go_ret
                            exact ⟨rfl, HLW.out⟩
end Go.Proofs.Ytkgheilaleekdaa
