/-
  The walk of awake (the example of the document), and Next's contract said of whatever reads as a list.
-/
import Derived.Test.YtolfkgbcjfkbnaaRnext
import Derived.Test.YtolfkgbcjfkbnaaSame
namespace Go.Proofs.Ytolfkgbcjfkbnaa
open Go.RowKit

theorem next_sl {v : Value} {xs : List Int} {bits : Int} {B : Nat} {w : World} (hv : Sl (Value.int .i64) w v xs) (hm : xs.length ≤ 1000) (hb0 : 0 ≤ bits) (hb1 : bits < 4294967296)
    (hcb : w.cell? ⟨B, 0, none⟩ = some (.int .u32 bits)) {l : List Int} {t : Int} {ok : Bool} (hr : Sq.next (Sq.ready bits) xs = (l, t, ok)) :
    Calls Try.prog 11 #[v, .func (.func 25) #[] #[.pointer (some ⟨B, 0, none⟩)]] w fun e w' =>
      ∃ v', e = .returned (.tuple #[v', .int .i64 t, .bool ok]) ∧ Sl (Value.int .i64) w' v' l ∧ Below w.heap.size w w' := by
  obtain ⟨a, cap, rfl, h1, h2, h3, h4⟩ := hv
  refine (next_w a cap xs.length xs bits B w rfl hm h1 h2 h3 h4 hb0 hb1 hcb).mono ?_
  rw [hr]
  exact fun _ _ h => h

theorem rnext_sl {v : Value} {xs : List Int} {bits : Int} {w : World} (hv : Sl (Value.int .i64) w v xs) (hm : xs.length ≤ 1000) (hb0 : 0 ≤ bits) (hb1 : bits < 4294967296)
    {l : List Int} {t : Int} {ok : Bool} (hr : Sq.next (Sq.ready bits) xs = (l, t, ok)) :
    Calls Try.prog 13 #[v, .int .u32 bits] w fun e w' =>
      ∃ v', e = .returned (.tuple #[v', .int .i64 t, .bool ok]) ∧ Sl (Value.int .i64) w' v' l ∧ Below w.heap.size w w' := by
  obtain ⟨a, cap, rfl, h1, h2, h3, h4⟩ := hv
  refine (rnext_w a cap xs.length xs bits w rfl hm h1 h2 h3 h4 hb0 hb1).mono ?_
  rw [hr]
  exact fun _ _ h => h

theorem valid_sl {v : Value} {xs : List Int} {w : World} (hv : Sl (Value.int .i64) w v xs) (hm : xs.length ≤ 1000) :
    Calls Try.prog 15 #[v] w fun e w' => e = .returned (.bool (Sq.valid xs)) ∧ w = w' := by
  obtain ⟨a, cap, rfl, h1, h2, h3, h4⟩ := hv
  exact valid_w a cap xs.length xs w rfl (by omega) h1 h4

theorem rvalid_sl {v : Value} {xs : List Int} {w : World} (hv : Sl (Value.int .i64) w v xs) (hm : xs.length ≤ 1000) :
    Calls Try.prog 16 #[v] w fun e w' => e = .returned (.bool (Sq.valid xs)) ∧ w = w' := by
  obtain ⟨a, cap, rfl, h1, h2, h3, h4⟩ := hv
  exact rvalid_w a cap xs.length xs w rfl (by omega) h4

/-- A block whose cells are known reads as a list. -/
theorem Rd.cells {α : Type} {enc : α → Value} {w : World} {g : Nat} {xs : List α} {cs : Array Value} {t : TypeId} {fr : Nat × Nat} (h : w.heap[g]? = some (.cells cs t fr)) (hcs : cs.toList = xs.map enc) : Rd enc w (some ⟨g, 0, none⟩) xs := by
  intro i hi
  refine ⟨g, 0, rfl, (Array.getElem?_eq_some_iff.1 h).1, ?_⟩
  rw [Nat.zero_add, cell_of_row _ _ _ _ _ _ h, ← Array.getElem?_toList, hcs]
  simp [hi]

set_option maxHeartbeats 800000 in
theorem awake_w (w : World) : Calls Try.prog 10 #[] w fun e w' => e = .returned (.bool true) ∧ Below w.heap.size w w' := by
  have e1 : Sq.next (Sq.ready 160) [1, 5, 7] = ([1, 7, 5], 5, true) := by decide
  have e2 : Sq.next (Sq.ready 160) [1, 7, 5] = ([1, 5, 7], 7, true) := by decide
  have E1 := Lib.hid e1
  have E2 := Lib.hid e2
  clear e1 e2
  go_enter Try.func10, Try.ntmps10
  go_wp2_with fail
  refine (by_w 160 _).mono ?_
  rintro e w1 ⟨rfl, hc1, hlt1, hb1⟩
  simp only [World.size_alloc] at hc1
  have hs1 : Sl (Value.int .i64) w1 (.slice (some ⟨w.heap.size, 0, none⟩) 3 3) [1, 5, 7] :=
    Sl.below ⟨_, 3, rfl, by simp, by decide, by simp, Rd.cells (heap_alloc_new w _) rfl⟩ hb1 (Nat.le_refl _)
  have hb01 := Below.trans ((Below.refl _ w).alloc (Nat.le_refl _) _) (hb1.mono (by simp))
  clear hb1 hlt1
  go_wp2_with fail
  refine (next_sl hs1 (by simp) (by omega) (by omega) hc1 E1.out).mono ?_
  rintro e w2 ⟨v2, rfl, hs2, hb2⟩
  have hb02 := hb01.trans (hb2.mono hb01.size)
  clear hb2 hb01 hs1 hc1
  go_wp2_with fail
  refine (by_w 160 _).mono ?_
  rintro e w3 ⟨rfl, hc3, hlt3, hb3⟩
  have hs3 := hs2.below hb3 (Nat.le_refl _)
  have hb03 := hb02.trans (hb3.mono hb02.size)
  clear hb3 hb02 hs2 
  go_wp2_with fail
  refine (next_sl hs3 (by simp) (by omega) (by omega) hc3 E2.out).mono ?_
  rintro e w4 ⟨v4, rfl, hs4, hb4⟩
  have hb04 := hb03.trans (hb4.mono hb03.size)
  clear hb4 hb03 hs3 hc3 hlt3
  go_wp2_with fail
  refine (by_w 160 _).mono ?_
  rintro e w5 ⟨rfl, hc5, hlt5, hb5⟩
  have hs5 := hs4.below hb5 (Nat.le_refl _)
  have hb05 := hb04.trans (hb5.mono hb04.size)
  clear hb5 hb04 hs4
  go_wp2_with fail
  refine (next_sl hs5 (by simp) (by omega) (by omega) hc5 E1.out).mono ?_
  rintro e w6 ⟨v6, rfl, hs6, hb6⟩
  have hb06 := hb05.trans (hb6.mono hb05.size)
  go_wp2
  go_ret
  exact ⟨rfl, hb06⟩
end Go.Proofs.Ytolfkgbcjfkbnaa
