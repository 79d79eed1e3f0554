/-
  The walks of Read of irq and of the reference (printed by gen/mk15read.py).
-/
import Derived.Test.YtehniblcodkmaaaMsg2
import Derived.Test.YtehniblcodkmaaaIl
import Derived.Deep.DeepCutAuto
namespace Go.Proofs.Ytehniblcodkmaaa
open Go.RowKit

theorem own_down {W : World} {base base' n : Nat} {e : TypeId} {v : Value} {l : List Value} (h : W.ownsRow base e 1 v n l) (hb : base' ≤ base) : W.ownsRow base' e 1 v n l :=
  ⟨h.1, h.2.elim .inl fun ⟨g, cp, cur, q1, q2, q3⟩ => .inr ⟨g, cp, cur, q1, Nat.le_trans hb q2, q3⟩⟩

/-- What the statement `x := Line{..}` leaves. -/
def GotL (T : TypeId) (W : World) (a0 a1 a2 : Int) (xs : List UInt8) (s4 : Value) (W' : World) : Prop :=
  ∃ b u, s4 = .pointer (some ⟨b, 0, none⟩) ∧ W.heap.size ≤ b ∧ Bk W' b T [.int .i64 a0, .int .i64 a1, .int .i64 a2, u] ∧ W'.ownsRow W.heap.size 5 1 u xs.length (xs.map eb) ∧ Below W.heap.size W W'

theorem GotL.new {T : TypeId} {W w2 : World} {a0 a1 a2 : Int} {xs : List UInt8} {u : Value} {base : Nat} (hlow : Below W.heap.size W w2) (ho : w2.ownsRow base 5 1 u xs.length (xs.map eb)) (hB : W.heap.size ≤ base) :
    GotL T W a0 a1 a2 xs (.pointer (some ⟨w2.heap.size, 0, none⟩)) (w2.alloc (.cells #[.int .i64 a0, .int .i64 a1, .int .i64 a2, u] T (0, 0))) :=
  ⟨_, u, rfl, hlow.size, Bk.new w2 _ [_, _, _, _], own_keep (own_down ho hB) (fun k hk => Below.heap_alloc w2 _ k (ho.lt k hk).2), hlow.alloc hlow.size _⟩

theorem GotL.old {T : TypeId} {W w1 w2 : World} {a0 a1 a2 : Int} {xs : List UInt8} {u : Value} {base b : Nat} (hlow : Below W.heap.size W w2) (ho : w2.ownsRow base 5 1 u xs.length (xs.map eb)) (hb : b < base) (hW : W.heap.size ≤ b)
    {y0 y1 y2 y3 : Value} (hk : Bk w1 b T [y0, y1, y2, y3]) (h12 : Below w1.heap.size w1 w2) :
    GotL T W a0 a1 a2 xs (.pointer (some ⟨b, 0, none⟩)) ((((w2.setCell ⟨b, 0, none⟩ (.int .i64 a0)).setCell ⟨b, 1, none⟩ (.int .i64 a1)).setCell ⟨b, 2, none⟩ (.int .i64 a2)).setCell ⟨b, 3, none⟩ u) :=
  ⟨b, u, rfl, hW, ((((hk.below h12 hk.lt).set 0 (.int .i64 a0)).set 1 (.int .i64 a1)).set 2 (.int .i64 a2)).set 3 u, own_keep (own_down ho (by omega)) fun k hk' => set4_heap (by have := (ho.lt k hk').1; omega) _ _ _ _, set4 hlow hW _ _ _ _⟩

theorem GotL.old2 {T : TypeId} {W w2 : World} {a0 a1 a2 : Int} {xs : List UInt8} {u : Value} {base b : Nat} (hlow : Below W.heap.size W w2) (ho : w2.ownsRow base 5 1 u xs.length (xs.map eb)) (hB : W.heap.size ≤ base) (hne : u.ownBlock ≠ some b) (hW : W.heap.size ≤ b)
    {y0 y1 y2 y3 : Value} (hk : Bk w2 b T [y0, y1, y2, y3]) :
    GotL T W a0 a1 a2 xs (.pointer (some ⟨b, 0, none⟩)) ((((w2.setCell ⟨b, 0, none⟩ (.int .i64 a0)).setCell ⟨b, 1, none⟩ (.int .i64 a1)).setCell ⟨b, 2, none⟩ (.int .i64 a2)).setCell ⟨b, 3, none⟩ u) :=
  ⟨b, u, rfl, hW, (((hk.set 0 (.int .i64 a0)).set 1 (.int .i64 a1)).set 2 (.int .i64 a2)).set 3 u, own_keep (own_down ho hB) fun k hk' => set4_heap (fun e => by subst e; exact hne hk') _ _ _ _, set4 hlow hW _ _ _ _⟩

theorem set4_cell {W : World} {b k j : Nat} (hk : k ≠ b) (v0 v1 v2 v3 : Value) : ((((W.setCell ⟨b, 0, none⟩ v0).setCell ⟨b, 1, none⟩ v1).setCell ⟨b, 2, none⟩ v2).setCell ⟨b, 3, none⟩ v3).cell? ⟨k, j, none⟩ = W.cell? ⟨k, j, none⟩ := World.cell?_of_block (a := ⟨k, j, none⟩) (set4_heap hk _ _ _ _)

/-- What Read returns. -/
def readS (kind a0 a1 a2 a3 : Int) (xs : List UInt8) : Iq.Ln × Int :=
  if kind ≠ 3 then (Iq.zln, 14) else if (a3 == Sum.answer a0 a1 a2 xs) = false then (Iq.zln, 5) else if Iq.proper (a0, a1, a2, xs) = false then (Iq.zln, 2) else ((a0, a1, a2, xs), 0)
section
variable {kind a0 a1 a2 a3 : Int} {xs : List UInt8}
theorem readS_kind (h : kind ≠ 3) : readS kind a0 a1 a2 a3 xs = (Iq.zln, 14) := by unfold readS; rw [if_pos h]
theorem readS_sum (h : (a3 == Sum.answer a0 a1 a2 xs) = false) : readS 3 a0 a1 a2 a3 xs = (Iq.zln, 5) := by unfold readS; rw [if_neg (by simp), if_pos h]
theorem readS_prop (h : (a3 == Sum.answer a0 a1 a2 xs) = true) (h2 : Iq.proper (a0, a1, a2, xs) = false) : readS 3 a0 a1 a2 a3 xs = (Iq.zln, 2) := by unfold readS; rw [if_neg (by simp), if_neg (by rw [h]; simp), if_pos h2]
theorem readS_ok (h : (a3 == Sum.answer a0 a1 a2 xs) = true) (h2 : Iq.proper (a0, a1, a2, xs) = true) : readS 3 a0 a1 a2 a3 xs = ((a0, a1, a2, xs), 0) := by unfold readS; rw [if_neg (by simp), if_neg (by rw [h]; simp), if_neg (by rw [h2]; simp)]
end
def RetRd (w : World) (r : Iq.Ln × Int) (e : Ending) (w' : World) : Prop :=
  ∃ u, e = .returned (.tuple #[.agg #[.int .i64 r.1.1, .int .i64 r.1.2.1, .int .i64 r.1.2.2.1, u], .int .i64 r.2]) ∧ w'.ownsRow w.heap.size 5 1 u r.1.2.2.2.length (r.1.2.2.2.map eb) ∧ Below w.heap.size w w'

set_option maxRecDepth 100000 in
set_option maxHeartbeats 6400000 in
theorem read_w (src dst kind seq a0 a1 a2 a3 : Int) {u : Value} {xs : List UInt8} {w : World} (hv : Sl eb w u xs) (hm : xs.length ≤ 1000) :
    Calls Try.prog 31 #[.agg #[.int .i64 src, .int .i64 dst, .int .i64 kind, .int .i64 seq, .int .i64 a0, .int .i64 a1, .int .i64 a2, .int .i64 a3, u]] w (RetRd w (readS kind a0 a1 a2 a3 xs)) := by
  obtain ⟨a, c, rfl, hc, hcm, hn, -⟩ := id hv
  unfold maxLen at hcm
  have HV := Lib.hid hv
  have hL : Below w.heap.size w ((w.alloc (.cells #[.int .i64 src, .int .i64 dst, .int .i64 kind, .int .i64 seq, .int .i64 a0, .int .i64 a1, .int .i64 a2, .int .i64 a3, .slice a xs.length c] 64 (0, 0))).alloc (.cells #[.int .i64 0, .int .i64 0, .int .i64 0, .slice none 0 0] 38 (0, 0))) := (low_alloc _ _).alloc (by simp) _
  have hKm : Bk ((w.alloc (.cells #[.int .i64 src, .int .i64 dst, .int .i64 kind, .int .i64 seq, .int .i64 a0, .int .i64 a1, .int .i64 a2, .int .i64 a3, .slice a xs.length c] 64 (0, 0))).alloc (.cells #[.int .i64 0, .int .i64 0, .int .i64 0, .slice none 0 0] 38 (0, 0))) w.heap.size 64 (msC src dst kind seq a0 a1 a2 a3 (.slice a xs.length c)) := (Bk.new w _ (msC src dst kind seq a0 a1 a2 a3 (.slice a xs.length c))).alloc _
  have hKr : Bk ((w.alloc (.cells #[.int .i64 src, .int .i64 dst, .int .i64 kind, .int .i64 seq, .int .i64 a0, .int .i64 a1, .int .i64 a2, .int .i64 a3, .slice a xs.length c] 64 (0, 0))).alloc (.cells #[.int .i64 0, .int .i64 0, .int .i64 0, .slice none 0 0] 38 (0, 0))) (w.heap.size + 1) 38 [.int .i64 0, .int .i64 0, .int .i64 0, .slice none 0 0] := Bk.newAt _ _ [.int .i64 0, .int .i64 0, .int .i64 0, .slice none 0 0] (by simp)
  have hsz : w.heap.size + 1 < ((w.alloc (.cells #[.int .i64 src, .int .i64 dst, .int .i64 kind, .int .i64 seq, .int .i64 a0, .int .i64 a1, .int .i64 a2, .int .i64 a3, .slice a xs.length c] 64 (0, 0))).alloc (.cells #[.int .i64 0, .int .i64 0, .int .i64 0, .slice none 0 0] 38 (0, 0))).heap.size := hKr.lt
  have HC : Hid (∀ W, Below w.heap.size w W → Calls Try.prog 48 #[.slice a xs.length c] W fun e w' => ∃ v, e = .returned v ∧ w'.ownsRow W.heap.size 5 1 v xs.length (xs.map eb) ∧ Below W.heap.size W w') := fun W hW => bclone_w (HV.out.below hW (Nat.le_refl _)) (by omega)
  have egC := enters_of Try.func48 (by kernel_rfl) rfl
  clear hv
  go_enter Try.func31, Try.ntmps31
  go_upto_region 1 with fail
  generalize hW0 : ((w.alloc (.cells #[.int .i64 src, .int .i64 dst, .int .i64 kind, .int .i64 seq, .int .i64 a0, .int .i64 a1, .int .i64 a2, .int .i64 a3, .slice a xs.length c] 64 (0, 0))).alloc (.cells #[.int .i64 0, .int .i64 0, .int .i64 0, .slice none 0 0] 38 (0, 0))) = W0 at *
  have HQ : Hid (∀ W, Below W0.heap.size W0 W → W.cell? ⟨w.heap.size, 4, none⟩ = some (.int .i64 a0) ∧ W.cell? ⟨w.heap.size, 5, none⟩ = some (.int .i64 a1) ∧ W.cell? ⟨w.heap.size, 6, none⟩ = some (.int .i64 a2) ∧ W.cell? ⟨w.heap.size, 8, none⟩ = some (.slice a xs.length c)) := fun W hW => by
    have h := (hKm.below hW hKm.lt).boxM
    exact ⟨h.p4, h.p5, h.p6, h.p8⟩
  have HL := Lib.hid hL
  have HM := Lib.hid hKm
  have HR := Lib.hid hKr
  have HSZ := Lib.hid hsz
  clear hW0 hL hKm hKr
  go_cut [4] (fun s4 W => GotL 38 W0 a0 a1 a2 xs s4 W)
  case first =>
    have hl0 := low_drew W0
    obtain ⟨x4, x5, x6, x8⟩ := HQ.out _ hl0
    have hle : Below W0.heap.size W0 (W0.alloc (.cells #[.int .i64 0, .int .i64 0, .int .i64 0, .slice none 0 0] 38 (0, 0))).drew := low_adrew W0 _
    obtain ⟨e4, e5, e6, e8⟩ := HQ.out _ hle
    have HLA := Lib.hid (stepAny HL.out hl0)
    have HLB := Lib.hid (stepAny HL.out hle)
    have hz0 : w.heap.size < W0.heap.size := by omega
    go_region_held3 (fun w' => w'.cell? ⟨w.heap.size, 4, none⟩ = some (.int .i64 a0) ∧ w'.cell? ⟨w.heap.size, 5, none⟩ = some (.int .i64 a1) ∧ w'.cell? ⟨w.heap.size, 6, none⟩ = some (.int .i64 a2) ∧ w'.cell? ⟨w.heap.size, 8, none⟩ = some (.slice a xs.length c)) (first | exact ⟨by with_reducible assumption, by with_reducible assumption, by with_reducible assumption, by with_reducible assumption⟩ | go_keep | exact ⟨(set4_cell (by omega) _ _ _ _).trans (by with_reducible assumption), (set4_cell (by omega) _ _ _ _).trans (by with_reducible assumption), (set4_cell (by omega) _ _ _ _).trans (by with_reducible assumption), (set4_cell (by omega) _ _ _ _).trans (by with_reducible assumption)⟩) ((first
      | (refine step_call rfl 48 [.tmp 15] #[35] (by rfl) [.slice a xs.length c] (by rfl) egC (HC.out _ HLA.out) ?_; rintro e w2 ⟨v2, rfl, ho2, hb2⟩; refine ⟨_, rfl, ?_⟩; obtain ⟨a2', c2, rfl⟩ := own_slice ho2; have hl2 := stepAny hl0 hb2; obtain ⟨y4, y5, y6, y8⟩ := HQ.out w2 hl2; have hz2 : w.heap.size < w2.heap.size := (by have := hl2.size; omega))
      | (refine step_call rfl 48 [.tmp 15] #[35] (by rfl) [.slice a xs.length c] (by rfl) egC (HC.out _ HLB.out) ?_; rintro e w2 ⟨v2, rfl, ho2, hb2⟩; refine ⟨_, rfl, ?_⟩; obtain ⟨a2', c2, rfl⟩ := own_slice ho2; have hl2 := stepAny hle hb2; obtain ⟨y4, y5, y6, y8⟩ := HQ.out w2 hl2; have hz2 : w.heap.size < w2.heap.size := (by have := hl2.size; omega); obtain ⟨hcb, hfb⟩ := bcell hb2; have hz5 : W0.heap.size < w2.heap.size := (by have := hb2.size; simp at this; omega))))
    all_goals (go_wp2_with fail; go_meet)
    · exact GotL.new hl2 ho2 (Nat.le_refl _)
    · have hkk : Bk ((W0.alloc (.cells #[.int .i64 0, .int .i64 0, .int .i64 0, .slice none 0 0] 38 (0, 0))).drew) W0.heap.size 38 [.int .i64 0, .int .i64 0, .int .i64 0, .slice none 0 0] := Bk.newAt W0 _ [.int .i64 0, .int .i64 0, .int .i64 0, .slice none 0 0] rfl
      exact GotL.old hl2 ho2 (by simp) (Nat.le_refl _) hkk hb2
  case rest =>
    obtain ⟨b4, u4, rfl, hge4, hk4, ho4, hb4⟩ := hcut
    obtain ⟨a4, c4, rfl⟩ := own_slice ho4
    have HRT : Hid (∀ W, Below wc.heap.size wc W → Calls Try.prog 50 #[.agg #[.int .i64 src, .int .i64 dst, .int .i64 kind, .int .i64 seq, .int .i64 a0, .int .i64 a1, .int .i64 a2, .int .i64 a3, .slice a xs.length c]] W fun e w' => e = .returned (.bool (a3 == Sum.answer a0 a1 a2 xs)) ∧ Below W.heap.size W w') := fun W hW => right_w src dst kind seq a0 a1 a2 a3 (HV.out.below (stepAny (stepAny HL.out hb4) hW) (Nat.le_refl _))
    have HPR : Hid (∀ W, Below wc.heap.size wc W → Calls Try.prog 27 #[.agg #[.int .i64 a0, .int .i64 a1, .int .i64 a2, .slice a4 xs.length c4]] W fun e w' => e = .returned (.bool (Iq.proper (a0, a1, a2, xs))) ∧ Below W.heap.size W w') := fun W hW => proper_w (l := (a0, a1, a2, xs)) ⟨_, rfl, (Sl.ofOwn ho4).below hW (Nat.le_refl _)⟩
    have HQ4 : Hid (∀ W, Below wc.heap.size wc W → (W.cell? ⟨w.heap.size, 0, none⟩ = some (.int .i64 src) ∧ W.cell? ⟨w.heap.size, 1, none⟩ = some (.int .i64 dst) ∧ W.cell? ⟨w.heap.size, 2, none⟩ = some (.int .i64 kind) ∧ W.cell? ⟨w.heap.size, 3, none⟩ = some (.int .i64 seq) ∧ W.cell? ⟨w.heap.size, 4, none⟩ = some (.int .i64 a0) ∧ W.cell? ⟨w.heap.size, 5, none⟩ = some (.int .i64 a1) ∧ W.cell? ⟨w.heap.size, 6, none⟩ = some (.int .i64 a2) ∧ W.cell? ⟨w.heap.size, 7, none⟩ = some (.int .i64 a3) ∧ W.cell? ⟨w.heap.size, 8, none⟩ = some (.slice a xs.length c)) ∧ (W.cell? ⟨w.heap.size + 1, 0, none⟩ = some (.int .i64 0) ∧ W.cell? ⟨w.heap.size + 1, 1, none⟩ = some (.int .i64 0) ∧ W.cell? ⟨w.heap.size + 1, 2, none⟩ = some (.int .i64 0) ∧ W.cell? ⟨w.heap.size + 1, 3, none⟩ = some (.slice none 0 0) ∧ W.frozen? ⟨w.heap.size + 1, 0, none⟩ = false ∧ W.frozen? ⟨w.heap.size + 1, 1, none⟩ = false ∧ W.frozen? ⟨w.heap.size + 1, 2, none⟩ = false ∧ W.frozen? ⟨w.heap.size + 1, 3, none⟩ = false) ∧ (W.cell? ⟨b4, 0, none⟩ = some (.int .i64 a0) ∧ W.cell? ⟨b4, 1, none⟩ = some (.int .i64 a1) ∧ W.cell? ⟨b4, 2, none⟩ = some (.int .i64 a2) ∧ W.cell? ⟨b4, 3, none⟩ = some (.slice a4 xs.length c4))) := fun W hW => by
      have hm' := HM.out.below hb4 HM.out.lt
      have h := (hm'.below hW hm'.lt).boxM
      have hr' := HR.out.below hb4 HR.out.lt
      have hr := hr'.below hW hr'.lt
      have hx := hk4.below hW hk4.lt
      exact ⟨⟨h.p0, h.p1, h.p2, h.p3, h.p4, h.p5, h.p6, h.p7, h.p8⟩, ⟨hr.cell 0, hr.cell 1, hr.cell 2, hr.cell 3, hr.frozen 0, hr.frozen 1, hr.frozen 2, hr.frozen 3⟩, hx.cell 0, hx.cell 1, hx.cell 2, hx.cell 3⟩
    have HO4 := Lib.hid ho4
    have HLW := Lib.hid (stepAny HL.out hb4)
    have HGE := Lib.hid hge4
    have hbs := hb4.size
    have HBS := Lib.hid hbs
    obtain ⟨⟨p0, p1, p2, p3, p4, p5, p6, p7, p8⟩, ⟨r0, r1, r2, r3, z0, z1, z2, z3⟩, y0, y1, y2, y3⟩ := HQ4.out _ (low_refl wc)
    clear ho4 hk4 hb4 hge4 hbs hsz hc hcm hn hm
    by_cases hkd : kind = 3
    · subst hkd
      cases hr : (a3 == Sum.answer a0 a1 a2 xs) with
      | false =>
        have HE := Lib.hid (readS_sum hr)
        rw [hr] at HRT
        clear hr HPR
        clear r0 r1 r2 r3 z0 z1 z2 z3 y0 y1 y2 y3
        go_wp2_with (go_at_call 50; (with_reducible refine (HRT.out _ (by first | exact low_refl _ | with_reducible assumption)).mono ?_); rintro e w1 ⟨rfl, hb1⟩; obtain ⟨-, ⟨r0, r1, r2, r3, z0, z1, z2, z3⟩, -⟩ := HQ4.out w1 hb1)
        refine bodyPost_ret (v := .tuple #[.agg #[.int .i64 0, .int .i64 0, .int .i64 0, .slice none 0 0], .int .i64 5]) (by simp [results, Try.results31, go_sem, r0, r1, r2, r3]) rfl ?_
        rw [HE.out]
        exact ⟨_, rfl, World.ownsRow_nil _ _ _ _, set4 (stepAny HLW.out hb1) (by omega) _ _ _ _⟩
      | true =>
        rw [hr] at HRT
        cases hp : Iq.proper (a0, a1, a2, xs) with
        | false =>
          have HE := Lib.hid (readS_prop hr hp)
          rw [hp] at HPR
          clear hr hp
          clear r0 r1 r2 r3 z0 z1 z2 z3 y0 y1 y2 y3
          go_wp2_with (first
            | (go_at_call 50; (with_reducible refine (HRT.out _ (by first | exact low_refl _ | with_reducible assumption)).mono ?_); rintro e w1 ⟨rfl, hb1⟩; obtain ⟨-, -, y0, y1, y2, y3⟩ := HQ4.out w1 hb1)
            | (go_at_call 27; (with_reducible refine (HPR.out _ hb1).mono ?_); rintro e w2 ⟨rfl, hb2⟩; have hb12 := stepAny hb1 hb2; obtain ⟨-, ⟨r0, r1, r2, r3, z0, z1, z2, z3⟩, -⟩ := HQ4.out w2 hb12))
          refine bodyPost_ret (v := .tuple #[.agg #[.int .i64 0, .int .i64 0, .int .i64 0, .slice none 0 0], .int .i64 2]) (by simp [results, Try.results31, go_sem, r0, r1, r2, r3]) rfl ?_
          rw [HE.out]
          exact ⟨_, rfl, World.ownsRow_nil _ _ _ _, set4 (stepAny HLW.out hb12) (by omega) _ _ _ _⟩
        | true =>
          have HE := Lib.hid (readS_ok hr hp)
          rw [hp] at HPR
          clear hr hp
          clear r0 r1 r2 r3 z0 z1 z2 z3 y0 y1 y2 y3
          go_wp2_with (first
            | (go_at_call 50; (with_reducible refine (HRT.out _ (by first | exact low_refl _ | with_reducible assumption)).mono ?_); rintro e w1 ⟨rfl, hb1⟩; obtain ⟨-, -, y0, y1, y2, y3⟩ := HQ4.out w1 hb1)
            | (go_at_call 27; (with_reducible refine (HPR.out _ hb1).mono ?_); rintro e w2 ⟨rfl, hb2⟩; have hb12 := stepAny hb1 hb2; clear y0 y1 y2 y3; obtain ⟨-, ⟨r0, r1, r2, r3, z0, z1, z2, z3⟩, y0, y1, y2, y3⟩ := HQ4.out w2 hb12))
          refine bodyPost_ret (v := .tuple #[.agg #[.int .i64 a0, .int .i64 a1, .int .i64 a2, .slice a4 xs.length c4], .int .i64 0]) (by simp [results, Try.results31, go_sem, r0, r1, r2, r3]) rfl ?_
          rw [HE.out]
          have ho2 := own_keep HO4.out (fun k hk => hb12.block k (HO4.out.lt k hk).2)
          have hg0 := HGE.out
          have hs0 := HSZ.out
          refine ⟨_, rfl, own_keep (own_down ho2 (by omega)) fun k hk => set4_heap (by have := (HO4.out.lt k hk).1; omega) _ _ _ _, set4 (stepAny HLW.out hb12) (by omega) _ _ _ _⟩
    · have HE := Lib.hid (readS_kind (a0 := a0) (a1 := a1) (a2 := a2) (a3 := a3) (xs := xs) hkd)
      go_wp2_with fail
      all_goals first
        | (exfalso; omega)
        | (refine bodyPost_ret (v := .tuple #[.agg #[.int .i64 0, .int .i64 0, .int .i64 0, .slice none 0 0], .int .i64 14]) (by simp [results, Try.results31, go_sem, r0, r1, r2, r3]) rfl ?_
           rw [HE.out]
           exact ⟨_, rfl, World.ownsRow_nil _ _ _ _, set4 HLW.out (by omega) _ _ _ _⟩)

set_option maxRecDepth 100000 in
set_option maxHeartbeats 6400000 in
theorem rread_w (src dst kind seq a0 a1 a2 a3 : Int) {u : Value} {xs : List UInt8} {w : World} (hv : Sl eb w u xs) (hm : xs.length ≤ 1000) :
    Calls Try.prog 32 #[.agg #[.int .i64 src, .int .i64 dst, .int .i64 kind, .int .i64 seq, .int .i64 a0, .int .i64 a1, .int .i64 a2, .int .i64 a3, u]] w (RetRd w (readS kind a0 a1 a2 a3 xs)) := by
  obtain ⟨a, c, rfl, hc, hcm, hn, -⟩ := id hv
  unfold maxLen at hcm
  have HV := Lib.hid hv
  have hL : Below w.heap.size w ((w.alloc (.cells #[.int .i64 src, .int .i64 dst, .int .i64 kind, .int .i64 seq, .int .i64 a0, .int .i64 a1, .int .i64 a2, .int .i64 a3, .slice a xs.length c] 64 (0, 0))).alloc (.cells #[.int .i64 0, .int .i64 0, .int .i64 0, .slice none 0 0] 37 (0, 0))) := (low_alloc _ _).alloc (by simp) _
  have hKm : Bk ((w.alloc (.cells #[.int .i64 src, .int .i64 dst, .int .i64 kind, .int .i64 seq, .int .i64 a0, .int .i64 a1, .int .i64 a2, .int .i64 a3, .slice a xs.length c] 64 (0, 0))).alloc (.cells #[.int .i64 0, .int .i64 0, .int .i64 0, .slice none 0 0] 37 (0, 0))) w.heap.size 64 (msC src dst kind seq a0 a1 a2 a3 (.slice a xs.length c)) := (Bk.new w _ (msC src dst kind seq a0 a1 a2 a3 (.slice a xs.length c))).alloc _
  have hKr : Bk ((w.alloc (.cells #[.int .i64 src, .int .i64 dst, .int .i64 kind, .int .i64 seq, .int .i64 a0, .int .i64 a1, .int .i64 a2, .int .i64 a3, .slice a xs.length c] 64 (0, 0))).alloc (.cells #[.int .i64 0, .int .i64 0, .int .i64 0, .slice none 0 0] 37 (0, 0))) (w.heap.size + 1) 37 [.int .i64 0, .int .i64 0, .int .i64 0, .slice none 0 0] := Bk.newAt _ _ [.int .i64 0, .int .i64 0, .int .i64 0, .slice none 0 0] (by simp)
  have hsz : w.heap.size + 1 < ((w.alloc (.cells #[.int .i64 src, .int .i64 dst, .int .i64 kind, .int .i64 seq, .int .i64 a0, .int .i64 a1, .int .i64 a2, .int .i64 a3, .slice a xs.length c] 64 (0, 0))).alloc (.cells #[.int .i64 0, .int .i64 0, .int .i64 0, .slice none 0 0] 37 (0, 0))).heap.size := hKr.lt
  obtain ⟨i5, hi5, hz50, hz51, hz52⟩ := info_parts Try.info5
  have HRD : Hid (∀ W, Below w.heap.size w W → Rd eb W a xs) := fun W hW => by
    obtain ⟨a', c', q1, _, _, _, q5⟩ := HV.out.below hW (Nat.le_refl _)
    injection q1 with r1 r2 r3
    rw [r1]; exact q5
  clear hv
  go_enter Try.func32, Try.ntmps32
  go_upto_region 1 with fail
  generalize hW0 : ((w.alloc (.cells #[.int .i64 src, .int .i64 dst, .int .i64 kind, .int .i64 seq, .int .i64 a0, .int .i64 a1, .int .i64 a2, .int .i64 a3, .slice a xs.length c] 64 (0, 0))).alloc (.cells #[.int .i64 0, .int .i64 0, .int .i64 0, .slice none 0 0] 37 (0, 0))) = W0 at *
  have HQ : Hid (∀ W, Below W0.heap.size W0 W → W.cell? ⟨w.heap.size, 4, none⟩ = some (.int .i64 a0) ∧ W.cell? ⟨w.heap.size, 5, none⟩ = some (.int .i64 a1) ∧ W.cell? ⟨w.heap.size, 6, none⟩ = some (.int .i64 a2) ∧ W.cell? ⟨w.heap.size, 8, none⟩ = some (.slice a xs.length c)) := fun W hW => by
    have h := (hKm.below hW hKm.lt).boxM
    exact ⟨h.p4, h.p5, h.p6, h.p8⟩
  have HL := Lib.hid hL
  have HM := Lib.hid hKm
  have HR := Lib.hid hKr
  have HSZ := Lib.hid hsz
  clear hW0 hL hKm hKr
  go_cut [4] (fun s4 W => GotL 37 W0 a0 a1 a2 xs s4 W)
  case first =>
    have hl0 := low_drew W0
    obtain ⟨x4, x5, x6, x8⟩ := HQ.out _ hl0
    have hz0 : w.heap.size < W0.heap.size := by omega
    have hE : Below W0.heap.size W0 (W0.alloc (Obj.cells #[] 5 (0, 0))).drew := low_adrew W0 _
    obtain ⟨E4, E5, E6, E8⟩ := HQ.out _ hE
    have GE := Lib.hid hE
    have GEW : Hid (Below w.heap.size w (W0.alloc (Obj.cells #[] 5 (0, 0))).drew) := stepAny HL.out hE
    have hL : Below W0.heap.size W0 (W0.alloc (.cells #[.int .i64 0, .int .i64 0, .int .i64 0, .slice none 0 0] 37 (0, 0))).drew := low_adrew W0 _
    obtain ⟨L4, L5, L6, L8⟩ := HQ.out _ hL
    have GL := Lib.hid hL
    have GLW : Hid (Below w.heap.size w (W0.alloc (.cells #[.int .i64 0, .int .i64 0, .int .i64 0, .slice none 0 0] 37 (0, 0))).drew) := stepAny HL.out hL
    have hEL : Below W0.heap.size W0 ((W0.alloc (Obj.cells #[] 5 (0, 0))).alloc (.cells #[.int .i64 0, .int .i64 0, .int .i64 0, .slice none 0 0] 37 (0, 0))).drew := ((low_alloc W0 _).alloc (by simp) _).drew
    obtain ⟨EL4, EL5, EL6, EL8⟩ := HQ.out _ hEL
    have GEL := Lib.hid hEL
    have GELW : Hid (Below w.heap.size w ((W0.alloc (Obj.cells #[] 5 (0, 0))).alloc (.cells #[.int .i64 0, .int .i64 0, .int .i64 0, .slice none 0 0] 37 (0, 0))).drew) := stepAny HL.out hEL
    have hLE : Below W0.heap.size W0 ((W0.alloc (.cells #[.int .i64 0, .int .i64 0, .int .i64 0, .slice none 0 0] 37 (0, 0))).alloc (Obj.cells #[] 5 (0, 0))).drew := ((low_alloc W0 _).alloc (by simp) _).drew
    obtain ⟨LE4, LE5, LE6, LE8⟩ := HQ.out _ hLE
    have GLE := Lib.hid hLE
    have GLEW : Hid (Below w.heap.size w ((W0.alloc (.cells #[.int .i64 0, .int .i64 0, .int .i64 0, .slice none 0 0] 37 (0, 0))).alloc (Obj.cells #[] 5 (0, 0))).drew) := stepAny HL.out hLE
    have hO : ∀ W : World, (W.alloc (Obj.cells #[] 5 (0, 0))).ownsRow W.heap.size 5 1 (.slice (some ⟨W.heap.size, 0, none⟩) 0 0) 0 ([] : List Value) := fun W => own_new (s := 1) rfl (Nat.le_refl _)
    have HOE : Hid ((W0.alloc (Obj.cells #[] 5 (0, 0))).drew.ownsRow W0.heap.size 5 1 (.slice (some ⟨W0.heap.size, 0, none⟩) 0 0) 0 (([] : List UInt8).map eb)) := hO W0
    have HOEL : Hid (((W0.alloc (Obj.cells #[] 5 (0, 0))).alloc (.cells #[.int .i64 0, .int .i64 0, .int .i64 0, .slice none 0 0] 37 (0, 0))).drew.ownsRow W0.heap.size 5 1 (.slice (some ⟨W0.heap.size, 0, none⟩) 0 0) 0 (([] : List UInt8).map eb)) := own_keep (hO W0) fun k hk => Below.heap_alloc _ _ k ((hO W0).lt k hk).2
    have HOLE : Hid (((W0.alloc (.cells #[.int .i64 0, .int .i64 0, .int .i64 0, .slice none 0 0] 37 (0, 0))).alloc (Obj.cells #[] 5 (0, 0))).drew.ownsRow W0.heap.size 5 1 (.slice (some ⟨W0.heap.size + 1, 0, none⟩) 0 0) 0 (([] : List UInt8).map eb)) := by
      have h := hO (W0.alloc (.cells #[.int .i64 0, .int .i64 0, .int .i64 0, .slice none 0 0] 37 (0, 0)))
      rw [show (W0.alloc (.cells #[.int .i64 0, .int .i64 0, .int .i64 0, .slice none 0 0] 37 (0, 0))).heap.size = W0.heap.size + 1 by simp] at h
      exact own_down h (by omega)
    have HKEL : Hid (Bk ((W0.alloc (Obj.cells #[] 5 (0, 0))).alloc (.cells #[.int .i64 0, .int .i64 0, .int .i64 0, .slice none 0 0] 37 (0, 0))).drew (W0.heap.size + 1) 37 [.int .i64 0, .int .i64 0, .int .i64 0, .slice none 0 0]) := Bk.newAt _ _ [.int .i64 0, .int .i64 0, .int .i64 0, .slice none 0 0] (by simp)
    have HKLE : Hid (Bk ((W0.alloc (.cells #[.int .i64 0, .int .i64 0, .int .i64 0, .slice none 0 0] 37 (0, 0))).alloc (Obj.cells #[] 5 (0, 0))).drew W0.heap.size 37 [.int .i64 0, .int .i64 0, .int .i64 0, .slice none 0 0]) := (Bk.new W0 _ [.int .i64 0, .int .i64 0, .int .i64 0, .slice none 0 0]).alloc _
    go_region_held3 (fun w' => w'.cell? ⟨w.heap.size, 4, none⟩ = some (.int .i64 a0) ∧ w'.cell? ⟨w.heap.size, 5, none⟩ = some (.int .i64 a1) ∧ w'.cell? ⟨w.heap.size, 6, none⟩ = some (.int .i64 a2) ∧ w'.cell? ⟨w.heap.size, 8, none⟩ = some (.slice a xs.length c)) (first | exact ⟨by with_reducible assumption, by with_reducible assumption, by with_reducible assumption, by with_reducible assumption⟩ | go_keep | exact ⟨(set4_cell (by omega) _ _ _ _).trans (by with_reducible assumption), (set4_cell (by omega) _ _ _ _).trans (by with_reducible assumption), (set4_cell (by omega) _ _ _ _).trans (by with_reducible assumption), (set4_cell (by omega) _ _ _ _).trans (by with_reducible assumption)⟩) ((first
      | (refine step_append_rd eb (fun _ => rfl) (by rfl) (.tmp 14) (.tmp 16) 35 (by rfl) W0.heap.size 5 i5 (.int .u8 0) 1 Try.underlying35 hi5 hz50 hz51 hz52 rfl (.slice (some ⟨W0.heap.size, 0, none⟩) 0 0) 0 [] (by rfl) HOE.out a c xs xs.length (by rfl) rfl hn hc (HRD.out _ GEW.out) (by unfold maxLen; omega) (by omega) (by first | (simp; done) | (simp; omega)) ?_; intro v2 w2 ho2 hs2 hb2; rw [Nat.zero_add, List.nil_append] at ho2; obtain ⟨a2', c2, rfl⟩ := own_slice ho2; have hl2 := GE.out.trans hb2; obtain ⟨y4, y5, y6, y8⟩ := HQ.out w2 hl2; have hz2 : w.heap.size < w2.heap.size := (by have := hl2.size; omega))
      | (refine step_append_rd eb (fun _ => rfl) (by rfl) (.tmp 14) (.tmp 16) 35 (by rfl) W0.heap.size 5 i5 (.int .u8 0) 1 Try.underlying35 hi5 hz50 hz51 hz52 rfl (.slice (some ⟨W0.heap.size, 0, none⟩) 0 0) 0 [] (by rfl) HOEL.out a c xs xs.length (by rfl) rfl hn hc (HRD.out _ GELW.out) (by unfold maxLen; omega) (by omega) (by first | (simp; done) | (simp; omega)) ?_; intro v2 w2 ho2 hs2 hb2; rw [Nat.zero_add, List.nil_append] at ho2; obtain ⟨a2', c2, rfl⟩ := own_slice ho2; have hl2 := GEL.out.trans hb2; obtain ⟨y4, y5, y6, y8⟩ := HQ.out w2 hl2; have hz2 : w.heap.size < w2.heap.size := (by have := hl2.size; omega); obtain ⟨hkz0, hnz⟩ := hs2 (W0.heap.size + 1) (by simp) (by simp [Value.ownBlock]); have hkz := HKEL.out.keep hkz0; have z0 := hkz.cell 0; have z1 := hkz.cell 1; have z2 := hkz.cell 2; have z3 := hkz.cell 3; have g0 := hkz.frozen 0; have g1 := hkz.frozen 1; have g2 := hkz.frozen 2; have g3 := hkz.frozen 3)
      | (refine step_append_rd eb (fun _ => rfl) (by rfl) (.tmp 14) (.tmp 16) 35 (by rfl) W0.heap.size 5 i5 (.int .u8 0) 1 Try.underlying35 hi5 hz50 hz51 hz52 rfl (.slice (some ⟨W0.heap.size + 1, 0, none⟩) 0 0) 0 [] (by rfl) HOLE.out a c xs xs.length (by rfl) rfl hn hc (HRD.out _ GLEW.out) (by unfold maxLen; omega) (by omega) (by first | (simp; done) | (simp; omega)) ?_; intro v2 w2 ho2 hs2 hb2; rw [Nat.zero_add, List.nil_append] at ho2; obtain ⟨a2', c2, rfl⟩ := own_slice ho2; have hl2 := GLE.out.trans hb2; obtain ⟨y4, y5, y6, y8⟩ := HQ.out w2 hl2; have hz2 : w.heap.size < w2.heap.size := (by have := hl2.size; omega); obtain ⟨hkz0, hnz⟩ := hs2 W0.heap.size (by simp; omega) (by simp [Value.ownBlock]); have hkz := HKLE.out.keep hkz0; have z0 := hkz.cell 0; have z1 := hkz.cell 1; have z2 := hkz.cell 2; have z3 := hkz.cell 3; have g0 := hkz.frozen 0; have g1 := hkz.frozen 1; have g2 := hkz.frozen 2; have g3 := hkz.frozen 3)))
    all_goals (go_wp2_with fail; go_meet)
    all_goals first
      | exact GotL.new hl2 ho2 (Nat.le_refl _)
      | exact GotL.old2 hl2 ho2 (Nat.le_refl _) hnz (by omega) hkz
  case rest =>
    obtain ⟨b4, u4, rfl, hge4, hk4, ho4, hb4⟩ := hcut
    obtain ⟨a4, c4, rfl⟩ := own_slice ho4
    have HRT : Hid (∀ W, Below wc.heap.size wc W → Calls Try.prog 49 #[.int .i64 a0, .int .i64 a1, .int .i64 a2, .slice a4 xs.length c4] W fun e w' => e = .returned (.int .i64 (Sum.answer a0 a1 a2 xs)) ∧ Below W.heap.size W w') := fun W hW => ranswer_w a0 a1 a2 ((Sl.ofOwn ho4).below hW (Nat.le_refl _))
    have HPR : Hid (∀ W, Below wc.heap.size wc W → Calls Try.prog 19 #[.agg #[.int .i64 a0, .int .i64 a1, .int .i64 a2, .slice a4 xs.length c4]] W fun e w' => e = .returned (.bool (Iq.proper (a0, a1, a2, xs))) ∧ Below W.heap.size W w') := fun W hW => rproper_w (l := (a0, a1, a2, xs)) ⟨_, rfl, (Sl.ofOwn ho4).below hW (Nat.le_refl _)⟩
    have HQ4 : Hid (∀ W, Below wc.heap.size wc W → (W.cell? ⟨w.heap.size, 0, none⟩ = some (.int .i64 src) ∧ W.cell? ⟨w.heap.size, 1, none⟩ = some (.int .i64 dst) ∧ W.cell? ⟨w.heap.size, 2, none⟩ = some (.int .i64 kind) ∧ W.cell? ⟨w.heap.size, 3, none⟩ = some (.int .i64 seq) ∧ W.cell? ⟨w.heap.size, 4, none⟩ = some (.int .i64 a0) ∧ W.cell? ⟨w.heap.size, 5, none⟩ = some (.int .i64 a1) ∧ W.cell? ⟨w.heap.size, 6, none⟩ = some (.int .i64 a2) ∧ W.cell? ⟨w.heap.size, 7, none⟩ = some (.int .i64 a3) ∧ W.cell? ⟨w.heap.size, 8, none⟩ = some (.slice a xs.length c)) ∧ (W.cell? ⟨w.heap.size + 1, 0, none⟩ = some (.int .i64 0) ∧ W.cell? ⟨w.heap.size + 1, 1, none⟩ = some (.int .i64 0) ∧ W.cell? ⟨w.heap.size + 1, 2, none⟩ = some (.int .i64 0) ∧ W.cell? ⟨w.heap.size + 1, 3, none⟩ = some (.slice none 0 0) ∧ W.frozen? ⟨w.heap.size + 1, 0, none⟩ = false ∧ W.frozen? ⟨w.heap.size + 1, 1, none⟩ = false ∧ W.frozen? ⟨w.heap.size + 1, 2, none⟩ = false ∧ W.frozen? ⟨w.heap.size + 1, 3, none⟩ = false) ∧ (W.cell? ⟨b4, 0, none⟩ = some (.int .i64 a0) ∧ W.cell? ⟨b4, 1, none⟩ = some (.int .i64 a1) ∧ W.cell? ⟨b4, 2, none⟩ = some (.int .i64 a2) ∧ W.cell? ⟨b4, 3, none⟩ = some (.slice a4 xs.length c4))) := fun W hW => by
      have hm' := HM.out.below hb4 HM.out.lt
      have h := (hm'.below hW hm'.lt).boxM
      have hr' := HR.out.below hb4 HR.out.lt
      have hr := hr'.below hW hr'.lt
      have hx := hk4.below hW hk4.lt
      exact ⟨⟨h.p0, h.p1, h.p2, h.p3, h.p4, h.p5, h.p6, h.p7, h.p8⟩, ⟨hr.cell 0, hr.cell 1, hr.cell 2, hr.cell 3, hr.frozen 0, hr.frozen 1, hr.frozen 2, hr.frozen 3⟩, hx.cell 0, hx.cell 1, hx.cell 2, hx.cell 3⟩
    have HO4 := Lib.hid ho4
    have HLW := Lib.hid (stepAny HL.out hb4)
    have HGE := Lib.hid hge4
    have hbs := hb4.size
    have HBS := Lib.hid hbs
    obtain ⟨⟨p0, p1, p2, p3, p4, p5, p6, p7, p8⟩, ⟨r0, r1, r2, r3, z0, z1, z2, z3⟩, y0, y1, y2, y3⟩ := HQ4.out _ (low_refl wc)
    clear ho4 hk4 hb4 hge4 hbs hsz hc hcm hn hm
    by_cases hkd : kind = 3
    · subst hkd
      generalize han : Sum.answer a0 a1 a2 xs = r at *
      have HAN := Lib.hid han
      have hlz := low_drew wc
      obtain ⟨⟨q0, q1, q2, q3, q4, q5, q6, q7, q8⟩, -, v0, v1, v2, v3⟩ := HQ4.out _ hlz
      by_cases hq : a3 = r
      · subst hq
        have hne : (a3 != a3) = false := by simp
        have hr : (a3 == Sum.answer a0 a1 a2 xs) = true := by rw [han]; simp
        cases hp : Iq.proper (a0, a1, a2, xs) with
        | false =>
          have HE := Lib.hid (readS_prop hr hp)
          rw [hp] at HPR
          clear hr hp han
          clear r0 r1 r2 r3 z0 z1 z2 z3 y0 y1 y2 y3
          go_wp2_with fail
          go_region_held3 (fun w' => w'.cell? ⟨w.heap.size, 7, none⟩ = some (.int .i64 a3) ∧ w'.cell? ⟨b4, 0, none⟩ = some (.int .i64 a0) ∧ w'.cell? ⟨b4, 1, none⟩ = some (.int .i64 a1) ∧ w'.cell? ⟨b4, 2, none⟩ = some (.int .i64 a2) ∧ w'.cell? ⟨b4, 3, none⟩ = some (.slice a4 xs.length c4)) (first | go_keep | exact ⟨by with_reducible assumption, by with_reducible assumption, by with_reducible assumption, by with_reducible assumption, by with_reducible assumption⟩) ((go_at_call 49; (with_reducible refine (HRT.out _ (by with_reducible assumption)).mono ?_); rintro e w1 ⟨rfl, hb1⟩; have hb01 := stepAny hlz hb1; obtain ⟨⟨o0, o1, o2, o3, o4, o5, o6, o7, o8⟩, -, y0, y1, y2, y3⟩ := HQ4.out w1 hb01))
          go_wp2_with (go_at_call 19; (with_reducible refine (HPR.out _ hb01).mono ?_); rintro e w2 ⟨rfl, hb2⟩; have hb12 := stepAny hb01 hb2; obtain ⟨-, ⟨r0, r1, r2, r3, z0, z1, z2, z3⟩, -⟩ := HQ4.out w2 hb12)
          refine bodyPost_ret (v := .tuple #[.agg #[.int .i64 0, .int .i64 0, .int .i64 0, .slice none 0 0], .int .i64 2]) (by simp [results, Try.results32, go_sem, r0, r1, r2, r3]) rfl ?_
          rw [HE.out]
          exact ⟨_, rfl, World.ownsRow_nil _ _ _ _, set4 (stepAny HLW.out hb12) (by omega) _ _ _ _⟩
        | true =>
          have HE := Lib.hid (readS_ok hr hp)
          rw [hp] at HPR
          clear hr hp han
          clear r0 r1 r2 r3 z0 z1 z2 z3 y0 y1 y2 y3
          go_wp2_with fail
          go_region_held3 (fun w' => w'.cell? ⟨w.heap.size, 7, none⟩ = some (.int .i64 a3) ∧ w'.cell? ⟨b4, 0, none⟩ = some (.int .i64 a0) ∧ w'.cell? ⟨b4, 1, none⟩ = some (.int .i64 a1) ∧ w'.cell? ⟨b4, 2, none⟩ = some (.int .i64 a2) ∧ w'.cell? ⟨b4, 3, none⟩ = some (.slice a4 xs.length c4)) (first | go_keep | exact ⟨by with_reducible assumption, by with_reducible assumption, by with_reducible assumption, by with_reducible assumption, by with_reducible assumption⟩) ((go_at_call 49; (with_reducible refine (HRT.out _ (by with_reducible assumption)).mono ?_); rintro e w1 ⟨rfl, hb1⟩; have hb01 := stepAny hlz hb1; obtain ⟨⟨o0, o1, o2, o3, o4, o5, o6, o7, o8⟩, -, y0, y1, y2, y3⟩ := HQ4.out w1 hb01))
          go_wp2_with (go_at_call 19; (with_reducible refine (HPR.out _ hb01).mono ?_); rintro e w2 ⟨rfl, hb2⟩; have hb12 := stepAny hb01 hb2; clear y0 y1 y2 y3; obtain ⟨-, ⟨r0, r1, r2, r3, z0, z1, z2, z3⟩, y0, y1, y2, y3⟩ := HQ4.out w2 hb12)
          refine bodyPost_ret (v := .tuple #[.agg #[.int .i64 a0, .int .i64 a1, .int .i64 a2, .slice a4 xs.length c4], .int .i64 0]) (by simp [results, Try.results32, go_sem, r0, r1, r2, r3]) rfl ?_
          rw [HE.out]
          have ho2 := own_keep HO4.out (fun k hk => hb12.block k (HO4.out.lt k hk).2)
          have hg0 := HGE.out
          have hs0 := HSZ.out
          refine ⟨_, rfl, own_keep (own_down ho2 (by omega)) fun k hk => set4_heap (by have := (HO4.out.lt k hk).1; omega) _ _ _ _, set4 (stepAny HLW.out hb12) (by omega) _ _ _ _⟩
      · have hne : (a3 != r) = true := by simpa using hq
        have HE := Lib.hid (readS_sum (a0 := a0) (a1 := a1) (a2 := a2) (a3 := a3) (xs := xs) (by rw [han]; simpa using hq))
        clear hq han HPR
        clear r0 r1 r2 r3 z0 z1 z2 z3 y0 y1 y2 y3
        go_wp2_with fail
        go_region_held3 (fun w' => w'.cell? ⟨w.heap.size, 7, none⟩ = some (.int .i64 a3) ∧ w'.cell? ⟨b4, 0, none⟩ = some (.int .i64 a0) ∧ w'.cell? ⟨b4, 1, none⟩ = some (.int .i64 a1) ∧ w'.cell? ⟨b4, 2, none⟩ = some (.int .i64 a2) ∧ w'.cell? ⟨b4, 3, none⟩ = some (.slice a4 xs.length c4)) (first | go_keep | exact ⟨by with_reducible assumption, by with_reducible assumption, by with_reducible assumption, by with_reducible assumption, by with_reducible assumption⟩) ((go_at_call 49; (with_reducible refine (HRT.out _ (by with_reducible assumption)).mono ?_); rintro e w1 ⟨rfl, hb1⟩; have hb01 := stepAny hlz hb1; obtain ⟨⟨o0, o1, o2, o3, o4, o5, o6, o7, o8⟩, ⟨r0, r1, r2, r3, z0, z1, z2, z3⟩, y0, y1, y2, y3⟩ := HQ4.out w1 hb01))
        go_wp2_with fail
        refine bodyPost_ret (v := .tuple #[.agg #[.int .i64 0, .int .i64 0, .int .i64 0, .slice none 0 0], .int .i64 5]) (by simp [results, Try.results32, go_sem, r0, r1, r2, r3]) rfl ?_
        rw [HE.out]
        exact ⟨_, rfl, World.ownsRow_nil _ _ _ _, set4 (stepAny HLW.out hb01) (by omega) _ _ _ _⟩
    · have HE := Lib.hid (readS_kind (a0 := a0) (a1 := a1) (a2 := a2) (a3 := a3) (xs := xs) hkd)
      go_wp2_with fail
      all_goals first
        | (exfalso; omega)
        | (refine bodyPost_ret (v := .tuple #[.agg #[.int .i64 0, .int .i64 0, .int .i64 0, .slice none 0 0], .int .i64 14]) (by simp [results, Try.results32, go_sem, r0, r1, r2, r3]) rfl ?_
           rw [HE.out]
           exact ⟨_, rfl, World.ownsRow_nil _ _ _ _, set4 HLW.out (by omega) _ _ _ _⟩)

end Go.Proofs.Ytehniblcodkmaaa
