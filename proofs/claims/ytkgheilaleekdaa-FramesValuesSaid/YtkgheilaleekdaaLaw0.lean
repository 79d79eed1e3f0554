/-
  The walks of to, from and awake of the laws.
-/
import Derived.Test.YtkgheilaleekdaaSet
import Derived.Test.YtkgheilaleekdaaRef4
namespace Go.Proofs.Ytkgheilaleekdaa
open Go.RowKit

set_option maxHeartbeats 400000 in
theorem to_w (a : Option Addr) (n c : Nat) (w : World) : Calls Try.prog 13 #[.agg #[.slice a n c]] w fun e w' => e = .returned (.agg #[.slice a n c]) ∧ Below w.heap.size w w' := by
  go_enter Try.func13, Try.ntmps13
  go_wp2
  exact bodyPost_ret (v := .agg #[.slice a n c]) (by simp [results, Try.results13, go_sem]) rfl ⟨rfl, ((Below.refl _ _).alloc (Nat.le_refl _) _).alloc (by simp) _⟩

set_option maxHeartbeats 400000 in
theorem from_w (a : Option Addr) (n c : Nat) (w : World) : Calls Try.prog 19 #[.agg #[.slice a n c]] w fun e w' => e = .returned (.agg #[.slice a n c]) ∧ Below w.heap.size w w' := by
  go_enter Try.func19, Try.ntmps19
  go_wp2
  exact bodyPost_ret (v := .agg #[.slice a n c]) (by simp [results, Try.results19, go_sem]) rfl ⟨rfl, ((Below.refl _ _).alloc (Nat.le_refl _) _).alloc (by simp) _⟩

/-- A new row of bytes reads as its list. -/
theorem sl_lit (w : World) (l : List UInt8) (t : TypeId) (n : Nat) (hn : n = w.heap.size) (hm : l.length ≤ 1000) : Sl eb (w.alloc (.cells (l.map eb).toArray t (0, 0))) (.slice (some ⟨n, 0, none⟩) l.length l.length) l := by
  subst hn
  refine ⟨_, l.length, rfl, Nat.le_refl _, by unfold maxLen; omega, by simp, fun i hi => ⟨w.heap.size, 0, rfl, by simp, ?_⟩⟩
  rw [cell_of_row _ _ _ _ _ _ (heap_alloc_new w _)]
  simp [hi]

set_option maxHeartbeats 1600000 in
theorem awake_w (w : World) :
    Calls Try.prog 10 #[] w fun e w' => e = .returned (.bool true) ∧ Below w.heap.size w w' := by
  have hW : Fr.chk Fr.new 5 126 ([1, 2] : List UInt8).length = 0 := by decide +kernel
  have hR : Fr.read (Fr.new.set 5 (Fr.put (Fr.page Fr.new 5) 126 [1, 2])) 5 125 3 = ([0, 1, 2], 0) := by decide +kernel
  have HW := Lib.hid (fun (w' : World) v vb (hv : Pg w' v Fr.new) (hb : Sl eb w' vb [1, 2]) => fwrite_ok (w := w') 5 126 hv hb hW)
  have HR : Hid (∀ (w' : World) v, Pg w' v (Fr.new.set 5 (Fr.put (Fr.page Fr.new 5) 126 [1, 2])) → Calls Try.prog 14 #[.agg #[v], .int .i64 5, .int .i64 125, .int .i64 3] w' fun e w'' => ∃ v', e = .returned (.tuple #[v', .int .i64 0]) ∧ w''.ownsRow w'.heap.size 5 1 v' 3 (([0, 1, 2] : List UInt8).map eb) ∧ Below w'.heap.size w' w'') := fun w' v hv => by
    have := fread_w (w := w') 5 125 3 hv
    rw [hR] at this
    exact this
  clear hW hR
  have HN := Lib.hid (fun W => new_w W)
  go_enter Try.func10, Try.ntmps10
  go_wp2_with (first
    | (go_at_call 27; refine (HN.out _).mono ?_; rintro e w1 ⟨g, h, rfl, hg, hh, hgh, hF, hb1⟩)
    | (go_at_call 12; refine (HW.out _ _ _ (hF.pg.below ((Below.refl _ w1).alloc (Nat.le_refl _) _) (Nat.le_refl _)) (sl_lit w1 [1, 2] _ _ rfl (by decide))).mono ?_; rintro e w2 ⟨g2, h2, rfl, hg2, hh2, hgh2, hF2, hb2⟩)
    | (go_at_call 14; refine (HR.out _ _ (hF2.pg.below ((Below.refl _ w2).alloc (Nat.le_refl _) _) (Nat.le_refl _))).mono ?_; rintro e w3 ⟨v3, rfl, ho3, hb3⟩)
    | (go_at_call 15; refine (sameBytes_t ((Sl.ofOwn (xs := [0, 1, 2]) ho3).below ((Below.refl _ w3).alloc (Nat.le_refl _) _) (Nat.le_refl _)) (sl_lit w3 [0, 1, 2] _ _ rfl (by decide))).mono ?_; rintro e w4 ⟨rfl, hb4⟩))
  go_ret
  have q1 := hb1.alloc hb1.size (.cells #[.int .u8 1, .int .u8 2] 5 (0, 0))
  have q2 := q1.trans (hb2.mono q1.size)
  have q3 := q2.alloc q2.size (.cells #[.slice (some ⟨h2, 0, none⟩) 96 96] 30 (0, 0))
  have q4 := q3.trans (hb3.mono q3.size)
  have q5 := q4.alloc q4.size (.cells #[.int .u8 0, .int .u8 1, .int .u8 2] 5 (0, 0))
  exact ⟨rfl, q5.trans (hb4.mono q5.size)⟩
end Go.Proofs.Ytkgheilaleekdaa
