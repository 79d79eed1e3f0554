/-
  The walks of Message of irq and of the reference.
-/
import Derived.Test.YtehniblcodkmaaaSumB
import Derived.Test.YtehniblcodkmaaaCallStep
import Derived.Test.YtehniblcodkmaaaIj
import Derived.Deep.DeepCutAuto
namespace Go.Proofs.Ytehniblcodkmaaa
open Go.RowKit

theorem set9_heap {W : World} {b k : Nat} (hk : k ≠ b) (v0 v1 v2 v3 v4 v5 v6 v7 v8 : Value) : (((((((((W.setCell ⟨b, 0, none⟩ (v0)).setCell ⟨b, 1, none⟩ (v1)).setCell ⟨b, 2, none⟩ (v2)).setCell ⟨b, 3, none⟩ (v3)).setCell ⟨b, 4, none⟩ (v4)).setCell ⟨b, 5, none⟩ (v5)).setCell ⟨b, 6, none⟩ (v6)).setCell ⟨b, 7, none⟩ (v7)).setCell ⟨b, 8, none⟩ (v8)).heap[k]? = W.heap[k]? := by
  rw [Below.heap_setCell _ _ _ _ hk, Below.heap_setCell _ _ _ _ hk, Below.heap_setCell _ _ _ _ hk, Below.heap_setCell _ _ _ _ hk, Below.heap_setCell _ _ _ _ hk, Below.heap_setCell _ _ _ _ hk, Below.heap_setCell _ _ _ _ hk, Below.heap_setCell _ _ _ _ hk, Below.heap_setCell _ _ _ _ hk]
theorem set9 {w W : World} {b : Nat} (h : Below w.heap.size w W) (hb : w.heap.size ≤ b) (v0 v1 v2 v3 v4 v5 v6 v7 v8 : Value) : Below w.heap.size w (((((((((W.setCell ⟨b, 0, none⟩ (v0)).setCell ⟨b, 1, none⟩ (v1)).setCell ⟨b, 2, none⟩ (v2)).setCell ⟨b, 3, none⟩ (v3)).setCell ⟨b, 4, none⟩ (v4)).setCell ⟨b, 5, none⟩ (v5)).setCell ⟨b, 6, none⟩ (v6)).setCell ⟨b, 7, none⟩ (v7)).setCell ⟨b, 8, none⟩ (v8)) :=
  ((((((((h.setCell hb _).setCell hb _).setCell hb _).setCell hb _).setCell hb _).setCell hb _).setCell hb _).setCell hb _).setCell hb _

/-- What Message returns. -/
def RetM (w : World) (d t n : Int) (xs : List UInt8) (e : Ending) (w' : World) : Prop :=
  if Iq.proper (d, t, n, xs) = true then ∃ u, e = .returned (.tuple #[.agg #[.int .i64 0, .int .i64 (Iq.driver d).1, .int .i64 3, .int .i64 0, .int .i64 d, .int .i64 t, .int .i64 n, .int .i64 (Sum.answer d t n xs), u], .int .i64 0]) ∧ w'.ownsRow w.heap.size 5 1 u xs.length (xs.map eb) ∧ Below w.heap.size w w'
  else e = .returned (.tuple #[.agg #[.int .i64 0, .int .i64 0, .int .i64 0, .int .i64 0, .int .i64 0, .int .i64 0, .int .i64 0, .int .i64 0, .slice none 0 0], .int .i64 2]) ∧ Below w.heap.size w w'


set_option maxRecDepth 100000 in
set_option maxHeartbeats 3200000 in
theorem message_w (d t n : Int) {u : Value} {xs : List UInt8} {w : World} (hv : Sl eb w u xs) :
    Calls Try.prog 29 #[.agg #[.int .i64 d, .int .i64 t, .int .i64 n, u]] w (RetM w d t n xs) := by
  obtain ⟨a, c, rfl, hc, hcm, hn, -⟩ := id hv
  unfold maxLen at hcm
  have HV := Lib.hid hv
  have hL : Below w.heap.size w ((w.alloc (.cells #[.int .i64 d, .int .i64 t, .int .i64 n, .slice a xs.length c] 38 (0, 0))).alloc (.cells #[.int .i64 0, .int .i64 0, .int .i64 0, .int .i64 0, .int .i64 0, .int .i64 0, .int .i64 0, .int .i64 0, .slice none 0 0] 64 (0, 0))) := (low_alloc _ _).alloc (by simp) _
  have hKx : Bk ((w.alloc (.cells #[.int .i64 d, .int .i64 t, .int .i64 n, .slice a xs.length c] 38 (0, 0))).alloc (.cells #[.int .i64 0, .int .i64 0, .int .i64 0, .int .i64 0, .int .i64 0, .int .i64 0, .int .i64 0, .int .i64 0, .slice none 0 0] 64 (0, 0))) w.heap.size 38 [.int .i64 d, .int .i64 t, .int .i64 n, .slice a xs.length c] := (Bk.new w _ [_, _, _, _]).alloc _
  have hKm : Bk ((w.alloc (.cells #[.int .i64 d, .int .i64 t, .int .i64 n, .slice a xs.length c] 38 (0, 0))).alloc (.cells #[.int .i64 0, .int .i64 0, .int .i64 0, .int .i64 0, .int .i64 0, .int .i64 0, .int .i64 0, .int .i64 0, .slice none 0 0] 64 (0, 0))) (w.heap.size + 1) 64 [.int .i64 0, .int .i64 0, .int .i64 0, .int .i64 0, .int .i64 0, .int .i64 0, .int .i64 0, .int .i64 0, .slice none 0 0] := Bk.newAt _ _ [.int .i64 0, .int .i64 0, .int .i64 0, .int .i64 0, .int .i64 0, .int .i64 0, .int .i64 0, .int .i64 0, .slice none 0 0] (by simp)
  have HQ : Hid (∀ W, Below ((w.alloc (.cells #[.int .i64 d, .int .i64 t, .int .i64 n, .slice a xs.length c] 38 (0, 0))).alloc (.cells #[.int .i64 0, .int .i64 0, .int .i64 0, .int .i64 0, .int .i64 0, .int .i64 0, .int .i64 0, .int .i64 0, .slice none 0 0] 64 (0, 0))).heap.size ((w.alloc (.cells #[.int .i64 d, .int .i64 t, .int .i64 n, .slice a xs.length c] 38 (0, 0))).alloc (.cells #[.int .i64 0, .int .i64 0, .int .i64 0, .int .i64 0, .int .i64 0, .int .i64 0, .int .i64 0, .int .i64 0, .slice none 0 0] 64 (0, 0))) W → (W.cell? ⟨w.heap.size, 0, none⟩ = some (.int .i64 d) ∧ W.cell? ⟨w.heap.size, 1, none⟩ = some (.int .i64 t) ∧ W.cell? ⟨w.heap.size, 2, none⟩ = some (.int .i64 n) ∧ W.cell? ⟨w.heap.size, 3, none⟩ = some (.slice a xs.length c)) ∧ (W.cell? ⟨w.heap.size + 1, 0, none⟩ = some (.int .i64 0) ∧ W.cell? ⟨w.heap.size + 1, 1, none⟩ = some (.int .i64 0) ∧ W.cell? ⟨w.heap.size + 1, 2, none⟩ = some (.int .i64 0) ∧ W.cell? ⟨w.heap.size + 1, 3, none⟩ = some (.int .i64 0) ∧ W.cell? ⟨w.heap.size + 1, 4, none⟩ = some (.int .i64 0) ∧ W.cell? ⟨w.heap.size + 1, 5, none⟩ = some (.int .i64 0) ∧ W.cell? ⟨w.heap.size + 1, 6, none⟩ = some (.int .i64 0) ∧ W.cell? ⟨w.heap.size + 1, 7, none⟩ = some (.int .i64 0) ∧ W.cell? ⟨w.heap.size + 1, 8, none⟩ = some (.slice none 0 0) ∧ W.frozen? ⟨w.heap.size + 1, 0, none⟩ = false ∧ W.frozen? ⟨w.heap.size + 1, 1, none⟩ = false ∧ W.frozen? ⟨w.heap.size + 1, 2, none⟩ = false ∧ W.frozen? ⟨w.heap.size + 1, 3, none⟩ = false ∧ W.frozen? ⟨w.heap.size + 1, 4, none⟩ = false ∧ W.frozen? ⟨w.heap.size + 1, 5, none⟩ = false ∧ W.frozen? ⟨w.heap.size + 1, 6, none⟩ = false ∧ W.frozen? ⟨w.heap.size + 1, 7, none⟩ = false ∧ W.frozen? ⟨w.heap.size + 1, 8, none⟩ = false)) := fun W hW => by
    have e1 := hKx.below hW hKx.lt
    have e2 := hKm.below hW hKm.lt
    exact ⟨⟨e1.cell 0, e1.cell 1, e1.cell 2, e1.cell 3⟩, e2.cell 0, e2.cell 1, e2.cell 2, e2.cell 3, e2.cell 4, e2.cell 5, e2.cell 6, e2.cell 7, e2.cell 8, e2.frozen 0, e2.frozen 1, e2.frozen 2, e2.frozen 3, e2.frozen 4, e2.frozen 5, e2.frozen 6, e2.frozen 7, e2.frozen 8⟩
  have HP : Hid (∀ W, Below w.heap.size w W → Calls Try.prog 27 #[.agg #[.int .i64 d, .int .i64 t, .int .i64 n, .slice a xs.length c]] W fun e w' => e = .returned (.bool (Iq.proper (d, t, n, xs))) ∧ Below W.heap.size W w') := fun W hW => proper_w (l := (d, t, n, xs)) ⟨_, rfl, HV.out.below hW (Nat.le_refl _)⟩
  have HD := Lib.hid (fun W => driver_w d W)
  have HA : Hid (∀ W, Below w.heap.size w W → Calls Try.prog 47 #[.int .i64 d, .int .i64 t, .int .i64 n, .slice a xs.length c] W fun e w' => e = .returned (.int .i64 (Sum.answer d t n xs)) ∧ Below W.heap.size W w') := fun W hW => answer_w d t n (HV.out.below hW (Nat.le_refl _))
  have HL := Lib.hid hL
  have hszm : w.heap.size + 1 < ((w.alloc (.cells #[.int .i64 d, .int .i64 t, .int .i64 n, .slice a xs.length c] 38 (0, 0))).alloc (.cells #[.int .i64 0, .int .i64 0, .int .i64 0, .int .i64 0, .int .i64 0, .int .i64 0, .int .i64 0, .int .i64 0, .slice none 0 0] 64 (0, 0))).heap.size := hKm.lt
  have HZ := Lib.hid hszm
  clear hv hL hKx hKm hszm
  unfold RetM
  cases hp : Iq.proper (d, t, n, xs) with
  | false =>
    rw [hp] at HP
    clear hp HD HA
    simp only [Bool.false_eq_true, if_false]
    go_enter Try.func29, Try.ntmps29
    go_wp2_with (go_at_call 27; (with_reducible refine (HP.out _ HL.out).mono ?_); rintro e w1 ⟨rfl, hb1⟩; obtain ⟨-, o0, o1, o2, o3, o4, o5, o6, o7, o8, z0, z1, z2, z3, z4, z5, z6, z7, z8⟩ := HQ.out w1 hb1)
    refine bodyPost_ret (v := .tuple #[.agg #[.int .i64 0, .int .i64 0, .int .i64 0, .int .i64 0, .int .i64 0, .int .i64 0, .int .i64 0, .int .i64 0, .slice none 0 0], .int .i64 2]) (by simp [results, Try.results29, go_sem, o0, o1, o2, o3, o4, o5, o6, o7, o8]) rfl ⟨rfl, ?_⟩
    exact set9 (stepAny HL.out hb1) (by omega) _ _ _ _ _ _ _ _ _
  | true =>
    have hm : xs.length ≤ 128 := (Iq.proper_iff.1 hp).2.2.2
    rw [hp] at HP
    clear hp
    simp only [eq_self, if_true]
    generalize hdr : Iq.driver d = dr at *
    obtain ⟨dn, dy⟩ := dr
    simp only at HD ⊢
    generalize Sum.answer d t n xs = an at *
    obtain ⟨i5, hi5, hz50, hz51, hz52⟩ := info_parts Try.info5
    go_enter Try.func29, Try.ntmps29
    go_upto_region 4 with (first
      | (go_at_call 27; (with_reducible refine (HP.out _ HL.out).mono ?_); rintro e w1 ⟨rfl, hb1⟩; obtain ⟨⟨x0, x1, x2, x3⟩, -⟩ := HQ.out w1 hb1)
      | (go_at_call 23; (with_reducible refine (HD.out _).mono ?_); rintro e wd ⟨rfl, rfl⟩))
    have hl0 : Below ((w.alloc (.cells #[.int .i64 d, .int .i64 t, .int .i64 n, .slice a xs.length c] 38 (0, 0))).alloc (.cells #[.int .i64 0, .int .i64 0, .int .i64 0, .int .i64 0, .int .i64 0, .int .i64 0, .int .i64 0, .int .i64 0, .slice none 0 0] 64 (0, 0))).heap.size ((w.alloc (.cells #[.int .i64 d, .int .i64 t, .int .i64 n, .slice a xs.length c] 38 (0, 0))).alloc (.cells #[.int .i64 0, .int .i64 0, .int .i64 0, .int .i64 0, .int .i64 0, .int .i64 0, .int .i64 0, .int .i64 0, .slice none 0 0] 64 (0, 0))) w1.drew := stepAny hb1 (low_drew w1)
    obtain ⟨⟨y0, y1, y2, y3⟩, -⟩ := HQ.out _ hl0
    have hz1 : w.heap.size + 1 < w1.heap.size := Nat.lt_of_lt_of_le HZ.out hb1.size
    have hzx : w.heap.size < w1.heap.size := by omega
    have HLW := Lib.hid (stepAny HL.out hl0)
    generalize hW0 : (w.alloc (.cells #[.int .i64 d, .int .i64 t, .int .i64 n, .slice a xs.length c] 38 (0, 0))).alloc (.cells #[.int .i64 0, .int .i64 0, .int .i64 0, .int .i64 0, .int .i64 0, .int .i64 0, .int .i64 0, .int .i64 0, .slice none 0 0] 64 (0, 0)) = W0 at *
    clear x0 x1 x2 x3 hdr hW0
    have HC : Hid (∀ W, Below w.heap.size w W → Calls Try.prog 48 #[.slice a xs.length c] W fun e w' => ∃ v, e = .returned v ∧ w'.ownsRow W.heap.size 5 1 v xs.length (xs.map eb) ∧ Below W.heap.size W w') := fun W hW => bclone_w (HV.out.below hW (Nat.le_refl _)) (by omega)
    go_region_held3 (fun w' => w'.cell? ⟨w.heap.size, 0, none⟩ = some (.int .i64 d) ∧ w'.cell? ⟨w.heap.size, 1, none⟩ = some (.int .i64 t) ∧ w'.cell? ⟨w.heap.size, 2, none⟩ = some (.int .i64 n) ∧ w'.cell? ⟨w.heap.size, 3, none⟩ = some (.slice a xs.length c)) (first | exact ⟨by with_reducible assumption, by with_reducible assumption, by with_reducible assumption, by with_reducible assumption⟩ | go_keep) ((first
      | (go_at_call 47; (with_reducible refine (HA.out _ HLW.out).mono ?_); rintro e w2 ⟨rfl, hb2⟩; have hl2 := stepAny hl0 hb2; have hlw2 := stepAny HLW.out hb2; obtain ⟨⟨y02, y12, y22, y32⟩, -⟩ := HQ.out w2 hl2)
      | (go_at_call 48; (with_reducible refine (HC.out _ hlw2).mono ?_); rintro e w3 ⟨v3, rfl, ho3, hb3⟩; obtain ⟨a3, c3, rfl⟩ := own_slice ho3; have hl3 := stepAny hl2 hb3; have hlw3 := stepAny hlw2 hb3; obtain ⟨⟨y03, y13, y23, y33⟩, o0, o1, o2, o3, o4, o5, o6, o7, o8, z0, z1, z2, z3, z4, z5, z6, z7, z8⟩ := HQ.out w3 hl3)))
    all_goals
      have hb23 := hb2.size
      have hb23' : w1.heap.size ≤ w2.heap.size := hb23
      go_wp2_with fail
      refine bodyPost_ret (v := .tuple #[.agg #[.int .i64 0, .int .i64 dn, .int .i64 3, .int .i64 0, .int .i64 d, .int .i64 t, .int .i64 n, .int .i64 an, .slice a3 xs.length c3], .int .i64 0]) (by simp [results, Try.results29, go_sem, o0, o1, o2, o3, o4, o5, o6, o7, o8]) rfl ⟨_, rfl, ?_, ?_⟩
      · have ho : w3.ownsRow w.heap.size 5 1 (.slice a3 xs.length c3) xs.length (xs.map eb) := ⟨ho3.1, ho3.2.elim .inl fun ⟨g, cp, cur, q1, q2, q3⟩ => .inr ⟨g, cp, cur, q1, by omega, q3⟩⟩
        exact own_keep ho fun k hk => set9_heap (by have := (ho3.lt k hk).1; omega) _ _ _ _ _ _ _ _ _
      · exact set9 hlw3 (by omega) _ _ _ _ _ _ _ _ _

set_option maxRecDepth 100000 in
set_option maxHeartbeats 3200000 in
theorem rmessage_w (d t n : Int) {u : Value} {xs : List UInt8} {w : World} (hv : Sl eb w u xs) :
    Calls Try.prog 30 #[.agg #[.int .i64 d, .int .i64 t, .int .i64 n, u]] w (RetM w d t n xs) := by
  obtain ⟨a, c, rfl, hc, hcm, hn, -⟩ := id hv
  unfold maxLen at hcm
  have HV := Lib.hid hv
  have hL : Below w.heap.size w ((w.alloc (.cells #[.int .i64 d, .int .i64 t, .int .i64 n, .slice a xs.length c] 37 (0, 0))).alloc (.cells #[.int .i64 0, .int .i64 0, .int .i64 0, .int .i64 0, .int .i64 0, .int .i64 0, .int .i64 0, .int .i64 0, .slice none 0 0] 64 (0, 0))) := (low_alloc _ _).alloc (by simp) _
  have hKx : Bk ((w.alloc (.cells #[.int .i64 d, .int .i64 t, .int .i64 n, .slice a xs.length c] 37 (0, 0))).alloc (.cells #[.int .i64 0, .int .i64 0, .int .i64 0, .int .i64 0, .int .i64 0, .int .i64 0, .int .i64 0, .int .i64 0, .slice none 0 0] 64 (0, 0))) w.heap.size 37 [.int .i64 d, .int .i64 t, .int .i64 n, .slice a xs.length c] := (Bk.new w _ [_, _, _, _]).alloc _
  have hKm : Bk ((w.alloc (.cells #[.int .i64 d, .int .i64 t, .int .i64 n, .slice a xs.length c] 37 (0, 0))).alloc (.cells #[.int .i64 0, .int .i64 0, .int .i64 0, .int .i64 0, .int .i64 0, .int .i64 0, .int .i64 0, .int .i64 0, .slice none 0 0] 64 (0, 0))) (w.heap.size + 1) 64 [.int .i64 0, .int .i64 0, .int .i64 0, .int .i64 0, .int .i64 0, .int .i64 0, .int .i64 0, .int .i64 0, .slice none 0 0] := Bk.newAt _ _ [.int .i64 0, .int .i64 0, .int .i64 0, .int .i64 0, .int .i64 0, .int .i64 0, .int .i64 0, .int .i64 0, .slice none 0 0] (by simp)
  have HQ : Hid (∀ W, Below ((w.alloc (.cells #[.int .i64 d, .int .i64 t, .int .i64 n, .slice a xs.length c] 37 (0, 0))).alloc (.cells #[.int .i64 0, .int .i64 0, .int .i64 0, .int .i64 0, .int .i64 0, .int .i64 0, .int .i64 0, .int .i64 0, .slice none 0 0] 64 (0, 0))).heap.size ((w.alloc (.cells #[.int .i64 d, .int .i64 t, .int .i64 n, .slice a xs.length c] 37 (0, 0))).alloc (.cells #[.int .i64 0, .int .i64 0, .int .i64 0, .int .i64 0, .int .i64 0, .int .i64 0, .int .i64 0, .int .i64 0, .slice none 0 0] 64 (0, 0))) W → (W.cell? ⟨w.heap.size, 0, none⟩ = some (.int .i64 d) ∧ W.cell? ⟨w.heap.size, 1, none⟩ = some (.int .i64 t) ∧ W.cell? ⟨w.heap.size, 2, none⟩ = some (.int .i64 n) ∧ W.cell? ⟨w.heap.size, 3, none⟩ = some (.slice a xs.length c)) ∧ (W.cell? ⟨w.heap.size + 1, 0, none⟩ = some (.int .i64 0) ∧ W.cell? ⟨w.heap.size + 1, 1, none⟩ = some (.int .i64 0) ∧ W.cell? ⟨w.heap.size + 1, 2, none⟩ = some (.int .i64 0) ∧ W.cell? ⟨w.heap.size + 1, 3, none⟩ = some (.int .i64 0) ∧ W.cell? ⟨w.heap.size + 1, 4, none⟩ = some (.int .i64 0) ∧ W.cell? ⟨w.heap.size + 1, 5, none⟩ = some (.int .i64 0) ∧ W.cell? ⟨w.heap.size + 1, 6, none⟩ = some (.int .i64 0) ∧ W.cell? ⟨w.heap.size + 1, 7, none⟩ = some (.int .i64 0) ∧ W.cell? ⟨w.heap.size + 1, 8, none⟩ = some (.slice none 0 0) ∧ W.frozen? ⟨w.heap.size + 1, 0, none⟩ = false ∧ W.frozen? ⟨w.heap.size + 1, 1, none⟩ = false ∧ W.frozen? ⟨w.heap.size + 1, 2, none⟩ = false ∧ W.frozen? ⟨w.heap.size + 1, 3, none⟩ = false ∧ W.frozen? ⟨w.heap.size + 1, 4, none⟩ = false ∧ W.frozen? ⟨w.heap.size + 1, 5, none⟩ = false ∧ W.frozen? ⟨w.heap.size + 1, 6, none⟩ = false ∧ W.frozen? ⟨w.heap.size + 1, 7, none⟩ = false ∧ W.frozen? ⟨w.heap.size + 1, 8, none⟩ = false)) := fun W hW => by
    have e1 := hKx.below hW hKx.lt
    have e2 := hKm.below hW hKm.lt
    exact ⟨⟨e1.cell 0, e1.cell 1, e1.cell 2, e1.cell 3⟩, e2.cell 0, e2.cell 1, e2.cell 2, e2.cell 3, e2.cell 4, e2.cell 5, e2.cell 6, e2.cell 7, e2.cell 8, e2.frozen 0, e2.frozen 1, e2.frozen 2, e2.frozen 3, e2.frozen 4, e2.frozen 5, e2.frozen 6, e2.frozen 7, e2.frozen 8⟩
  have HP : Hid (∀ W, Below w.heap.size w W → Calls Try.prog 19 #[.agg #[.int .i64 d, .int .i64 t, .int .i64 n, .slice a xs.length c]] W fun e w' => e = .returned (.bool (Iq.proper (d, t, n, xs))) ∧ Below W.heap.size W w') := fun W hW => rproper_w (l := (d, t, n, xs)) ⟨_, rfl, HV.out.below hW (Nat.le_refl _)⟩
  have HD := Lib.hid (fun W => rdriver_w d W)
  have HA : Hid (∀ W, Below w.heap.size w W → Calls Try.prog 49 #[.int .i64 d, .int .i64 t, .int .i64 n, .slice a xs.length c] W fun e w' => e = .returned (.int .i64 (Sum.answer d t n xs)) ∧ Below W.heap.size W w') := fun W hW => ranswer_w d t n (HV.out.below hW (Nat.le_refl _))
  have HL := Lib.hid hL
  have hszm : w.heap.size + 1 < ((w.alloc (.cells #[.int .i64 d, .int .i64 t, .int .i64 n, .slice a xs.length c] 37 (0, 0))).alloc (.cells #[.int .i64 0, .int .i64 0, .int .i64 0, .int .i64 0, .int .i64 0, .int .i64 0, .int .i64 0, .int .i64 0, .slice none 0 0] 64 (0, 0))).heap.size := hKm.lt
  have HZ := Lib.hid hszm
  clear hv hL hKx hKm hszm
  unfold RetM
  cases hp : Iq.proper (d, t, n, xs) with
  | false =>
    rw [hp] at HP
    clear hp HD HA
    simp only [Bool.false_eq_true, if_false]
    go_enter Try.func30, Try.ntmps30
    go_wp2_with (go_at_call 19; (with_reducible refine (HP.out _ HL.out).mono ?_); rintro e w1 ⟨rfl, hb1⟩; obtain ⟨-, o0, o1, o2, o3, o4, o5, o6, o7, o8, z0, z1, z2, z3, z4, z5, z6, z7, z8⟩ := HQ.out w1 hb1)
    refine bodyPost_ret (v := .tuple #[.agg #[.int .i64 0, .int .i64 0, .int .i64 0, .int .i64 0, .int .i64 0, .int .i64 0, .int .i64 0, .int .i64 0, .slice none 0 0], .int .i64 2]) (by simp [results, Try.results30, go_sem, o0, o1, o2, o3, o4, o5, o6, o7, o8]) rfl ⟨rfl, ?_⟩
    exact set9 (stepAny HL.out hb1) (by omega) _ _ _ _ _ _ _ _ _
  | true =>
    have hm : xs.length ≤ 128 := (Iq.proper_iff.1 hp).2.2.2
    rw [hp] at HP
    clear hp
    simp only [eq_self, if_true]
    generalize hdr : Iq.driver d = dr at *
    obtain ⟨dn, dy⟩ := dr
    simp only at HD ⊢
    generalize Sum.answer d t n xs = an at *
    obtain ⟨i5, hi5, hz50, hz51, hz52⟩ := info_parts Try.info5
    go_enter Try.func30, Try.ntmps30
    go_upto_region 4 with (first
      | (go_at_call 19; (with_reducible refine (HP.out _ HL.out).mono ?_); rintro e w1 ⟨rfl, hb1⟩; obtain ⟨⟨x0, x1, x2, x3⟩, -⟩ := HQ.out w1 hb1)
      | (go_at_call 24; (with_reducible refine (HD.out _).mono ?_); rintro e wd ⟨rfl, rfl⟩))
    have hl0 : Below ((w.alloc (.cells #[.int .i64 d, .int .i64 t, .int .i64 n, .slice a xs.length c] 37 (0, 0))).alloc (.cells #[.int .i64 0, .int .i64 0, .int .i64 0, .int .i64 0, .int .i64 0, .int .i64 0, .int .i64 0, .int .i64 0, .slice none 0 0] 64 (0, 0))).heap.size ((w.alloc (.cells #[.int .i64 d, .int .i64 t, .int .i64 n, .slice a xs.length c] 37 (0, 0))).alloc (.cells #[.int .i64 0, .int .i64 0, .int .i64 0, .int .i64 0, .int .i64 0, .int .i64 0, .int .i64 0, .int .i64 0, .slice none 0 0] 64 (0, 0))) w1.drew := stepAny hb1 (low_drew w1)
    obtain ⟨⟨y0, y1, y2, y3⟩, -⟩ := HQ.out _ hl0
    have hz1 : w.heap.size + 1 < w1.heap.size := Nat.lt_of_lt_of_le HZ.out hb1.size
    have hzx : w.heap.size < w1.heap.size := by omega
    have HLW := Lib.hid (stepAny HL.out hl0)
    generalize hW0 : (w.alloc (.cells #[.int .i64 d, .int .i64 t, .int .i64 n, .slice a xs.length c] 37 (0, 0))).alloc (.cells #[.int .i64 0, .int .i64 0, .int .i64 0, .int .i64 0, .int .i64 0, .int .i64 0, .int .i64 0, .int .i64 0, .slice none 0 0] 64 (0, 0)) = W0 at *
    clear x0 x1 x2 x3 hdr hW0
    have hle : Below w1.heap.size w1 (w1.alloc (.cells #[] 5 (0, 0))).drew := low_adrew w1 _
    have hqe := stepAny hb1 hle
    have hlwe := stepAny (stepAny HL.out hb1) hle
    have HLWE := Lib.hid hlwe
    obtain ⟨⟨e0, e1, e2, e3⟩, -⟩ := HQ.out _ hqe
    have HRD : Hid (∀ W, Below w.heap.size w W → Rd eb W a xs) := fun W hW => by
      obtain ⟨a', c', q1, _, _, _, q5⟩ := HV.out.below hW (Nat.le_refl _)
      injection q1 with r1 r2 r3
      rw [r1]; exact q5
    have egA := enters_of Try.func49 (by kernel_rfl) rfl
    go_region_held3 (fun w' => w'.cell? ⟨w.heap.size, 0, none⟩ = some (.int .i64 d) ∧ w'.cell? ⟨w.heap.size, 1, none⟩ = some (.int .i64 t) ∧ w'.cell? ⟨w.heap.size, 2, none⟩ = some (.int .i64 n) ∧ w'.cell? ⟨w.heap.size, 3, none⟩ = some (.slice a xs.length c)) (first | exact ⟨by with_reducible assumption, by with_reducible assumption, by with_reducible assumption, by with_reducible assumption⟩ | go_keep) ((first
      | (have _t := tokC; refine step_call (by rfl) 49 [.tmp 24, .tmp 26, .tmp 28, .tmp 30] #[3, 3, 3, 35] (by rfl) [.int .i64 d, .int .i64 t, .int .i64 n, .slice a xs.length c] (by rfl) egA (HA.out _ hlw4) ?_; rintro e wz ⟨rfl, hbz⟩; refine ⟨_, rfl, ?_⟩; have hqlz := stepAny hl4 hbz; have hlz := stepAny hlw4 hbz; have hoz := own_keep ho4 (fun k hk => hbz.block k (ho4.lt k hk).2); have hqz := HQ.out wz hqlz; obtain ⟨⟨y0z, y1z, y2z, y3z⟩, o0, o1, o2, o3, o4, o5, o6, o7, o8, z0, z1, z2, z3, z4, z5, z6, z7, z8⟩ := hqz)
      | (refine step_call (by rfl) 49 [.tmp 24, .tmp 26, .tmp 28, .tmp 30] #[3, 3, 3, 35] (by rfl) [.int .i64 d, .int .i64 t, .int .i64 n, .slice a xs.length c] (by rfl) egA (HA.out _ HLW.out) ?_; rintro e w2 ⟨rfl, hb2⟩; refine ⟨_, rfl, ?_⟩; have hl2 := stepAny hl0 hb2; have hlw2 := stepAny HLW.out hb2; have hs2 : w1.heap.size ≤ w2.heap.size := hb2.size; obtain ⟨⟨y02, y12, y22, y32⟩, -⟩ := HQ.out w2 hl2; have tokA := True.intro; have hsx2 : w.heap.size < w2.heap.size := by omega)
      | (refine step_call (by rfl) 49 [.tmp 24, .tmp 26, .tmp 28, .tmp 30] #[3, 3, 3, 35] (by rfl) [.int .i64 d, .int .i64 t, .int .i64 n, .slice a xs.length c] (by rfl) egA (HA.out _ HLWE.out) ?_; rintro e w2 ⟨rfl, hb2⟩; refine ⟨_, rfl, ?_⟩; have hl2 := stepAny hqe hb2; have hlw2 := stepAny HLWE.out hb2; have hs2 : w1.heap.size < w2.heap.size := (by have := hb2.size; simp at this; omega); obtain ⟨⟨y02, y12, y22, y32⟩, -⟩ := HQ.out w2 hl2; have ho2 : w2.ownsRow w1.heap.size 5 1 (.slice (some ⟨w1.heap.size, 0, none⟩) 0 0) 0 [] := (own_keep (own_new (w := w1) (s := 1) (e := 5) rfl (Nat.le_refl _)) (fun k hk => hb2.block k (by have hk' : some w1.heap.size = some k := hk; cases hk'; simp))); have tokB := True.intro; have hsx2 : w.heap.size < w2.heap.size := by omega)
      | (have _t := tokA; refine step_append_rd eb (fun _ => rfl) (by rfl) (.tmp 33) (.tmp 35) 35 (by rfl) w1.heap.size 5 i5 (.int .u8 0) 1 Try.underlying35 hi5 hz50 hz51 hz52 rfl (.slice (some ⟨w2.heap.size, 0, none⟩) 0 0) 0 [] (by rfl) (own_new (s := 1) rfl hs2) a c xs xs.length (by rfl) rfl hn hc (HRD.out _ (stepAny hlw2 (low_alloc w2 _))) (by unfold maxLen; omega) (by omega) (by simp; omega) ?_; intro vz wz hoz hsz hbz; rw [Nat.zero_add, List.nil_append] at hoz; obtain ⟨az, cz, rfl⟩ := own_slice hoz; have hqlz := (hl2.alloc hl2.size _).trans (hbz.mono hb1.size); have hlz := (hlw2.alloc hlw2.size _).trans (hbz.mono (Nat.le_of_lt hzx)); have hqz := HQ.out wz hqlz; obtain ⟨⟨y0z, y1z, y2z, y3z⟩, o0, o1, o2, o3, o4, o5, o6, o7, o8, z0, z1, z2, z3, z4, z5, z6, z7, z8⟩ := hqz)
      | (have _t := tokB; refine step_append_rd eb (fun _ => rfl) (by rfl) (.tmp 33) (.tmp 35) 35 (by rfl) w1.heap.size 5 i5 (.int .u8 0) 1 Try.underlying35 hi5 hz50 hz51 hz52 rfl (.slice (some ⟨w1.heap.size, 0, none⟩) 0 0) 0 [] (by rfl) ho2 a c xs xs.length (by rfl) rfl hn hc (HRD.out _ hlw2) (by unfold maxLen; omega) (by omega) (by omega) ?_; intro vz wz hoz hsz hbz; rw [Nat.zero_add, List.nil_append] at hoz; obtain ⟨az, cz, rfl⟩ := own_slice hoz; have hqlz := hl2.trans (hbz.mono hb1.size); have hlz := hlw2.trans (hbz.mono (Nat.le_of_lt hzx)); have hqz := HQ.out wz hqlz; obtain ⟨⟨y0z, y1z, y2z, y3z⟩, o0, o1, o2, o3, o4, o5, o6, o7, o8, z0, z1, z2, z3, z4, z5, z6, z7, z8⟩ := hqz)
      | (refine step_append_rd eb (fun _ => rfl) (by rfl) (.tmp 33) (.tmp 35) 35 (by rfl) w1.heap.size 5 i5 (.int .u8 0) 1 Try.underlying35 hi5 hz50 hz51 hz52 rfl (.slice (some ⟨w1.heap.size, 0, none⟩) 0 0) 0 [] (by rfl) (own_new (s := 1) rfl (Nat.le_refl _)) a c xs xs.length (by rfl) rfl hn hc (HRD.out _ HLWE.out) (by unfold maxLen; omega) (by omega) (by simp) ?_; intro v4 w4 ho4 hs4 hb4; rw [Nat.zero_add, List.nil_append] at ho4; obtain ⟨az, cz, rfl⟩ := own_slice ho4; have tokC := True.intro; have hl4 := hqe.trans (hb4.mono hb1.size); have hlw4 := HLWE.out.trans (hb4.mono (Nat.le_of_lt hzx)); obtain ⟨⟨y04, y14, y24, y34⟩, -⟩ := HQ.out w4 hl4)))
    all_goals
      go_wp2_with fail
      refine bodyPost_ret (v := .tuple #[.agg #[.int .i64 0, .int .i64 dn, .int .i64 3, .int .i64 0, .int .i64 d, .int .i64 t, .int .i64 n, .int .i64 an, .slice az xs.length cz], .int .i64 0]) (by simp [results, Try.results30, go_sem, o0, o1, o2, o3, o4, o5, o6, o7, o8]) rfl ⟨_, rfl, ?_, ?_⟩
      · have ho : wz.ownsRow w.heap.size 5 1 (.slice az xs.length cz) xs.length (xs.map eb) := ⟨hoz.1, hoz.2.elim .inl fun ⟨g, cp, cur, q1, q2, q3⟩ => .inr ⟨g, cp, cur, q1, by omega, q3⟩⟩
        exact own_keep ho fun k hk => set9_heap (by have := (hoz.lt k hk).1; omega) _ _ _ _ _ _ _ _ _
      · exact set9 hlz (by omega) _ _ _ _ _ _ _ _ _
end Go.Proofs.Ytehniblcodkmaaa
