/-
  SchedAsks: the closure that keeps the tasks asked for, and the law's walk.
-/
import Derived.Test.YtolfkgbcjfkbnaaAwake
import Derived.Test.YtolfkgbcjfkbnaaPlain
namespace Go.Proofs.Ytolfkgbcjfkbnaa
open Go.RowKit

/-- The captured variables of the closure: the slot A holds a slice of the call's own that reads as `ys`; the cell B holds the bits. -/
structure Asked (base A B L : Nat) (bits : Int) (ys : List Int) (w0 W : World) : Prop where
  row : ∃ v, W.cell? ⟨A, 0, none⟩ = some v ∧ W.ownsRow base 3 1 v ys.length (ys.map (Value.int .i64))
  free : W.frozen? ⟨A, 0, none⟩ = false
  bits : W.cell? ⟨B, 0, none⟩ = some (.int .u32 bits)
  size : base ≤ W.heap.size
  below : Below L w0 W

theorem own_form {W : World} {base : Nat} {e : TypeId} {v : Value} {n : Nat} {cs : List Value} (h : W.ownsRow base e 1 v n cs) (hn : 0 < n) : ∃ g c, v = .slice (some ⟨g, 0, none⟩) n c := by
  rcases h.2 with ⟨_, h⟩ | ⟨g, c, _, h, _⟩
  · omega
  · exact ⟨g, c, h⟩

set_option maxHeartbeats 800000 in
theorem asks1_w (base A B L : Nat) (bits x : Int) (ys : List Int) (w0 W : World) (hA : A < base) (hB : B < base) (hAB : A ≠ B) (h0 : L ≤ A) (hb0 : 0 ≤ bits) (hb1 : bits < 4294967296) (hn : ys.length ≤ 1000) (h : Asked base A B L bits ys w0 W) :
    Calls Try.prog 18 #[.int .i64 x, .pointer (some ⟨A, 0, none⟩), .pointer (some ⟨B, 0, none⟩)] W fun e W' => e = .returned (.bool (Sq.ready bits x)) ∧ Asked base A B L bits (ys ++ [x]) w0 W' := by
  obtain ⟨⟨v, hv, ho⟩, hfz, hbt, hsz, hbl⟩ := h
  obtain ⟨i0, hi, hz0, hz1, hz2⟩ := info_parts Try.info3
  have HBL := Lib.hid hbl
  have HR := Lib.hid (fun W => ready_w bits x W hb0 hb1)
  obtain ⟨r, hr⟩ : ∃ r, r = Sq.ready bits x := ⟨_, rfl⟩
  have HRR := Lib.hid hr
  clear hbl hr
  have hAne : A < W.heap.size := by omega
  have hAW : ¬ A = W.heap.size := by omega
  have hBW : ¬ B = W.heap.size := by omega
  have cellA : ∀ (o : Obj) (W' : World), Below base (W.alloc o) W' → W'.cell? ⟨A, 0, none⟩ = some v := fun o W' h => by
    rw [h.cell (p := ⟨A, 0, none⟩) hA, World.cell?_alloc_lt _ _ _ hAne]; exact hv
  have frozA : ∀ (o : Obj) (W' : World), Below base (W.alloc o) W' → W'.frozen? ⟨A, 0, none⟩ = false := fun o W' h => by
    rw [h.frozen (p := ⟨A, 0, none⟩) hA, World.frozen?_of_block (w := W) (Below.heap_alloc W _ A hAne)]; exact hfz
  have cellB : ∀ (o : Obj) (W' : World), Below base (W.alloc o) W' → W'.cell? ⟨B, 0, none⟩ = some (.int .u32 bits) := fun o W' h => by
    rw [h.cell (p := ⟨B, 0, none⟩) hB, World.cell?_alloc_lt _ _ _ (by show B < W.heap.size; omega)]; exact hbt
  have cellA := Lib.hid cellA
  have frozA := Lib.hid frozA
  have cellB := Lib.hid cellB
  go_enter Try.func18, Try.ntmps18
  go_wp2_with (at_builtin; refine wpList_append_rd (Value.int .i64) (fun _ => rfl) rfl _ _ 22 rfl base 3 i0 (.int .i64 0) 8 Try.underlying22 hi hz0 hz1 hz2 rfl v ys.length ys rfl (ho.alloc _) (some ⟨W.heap.size, 0, none⟩) 1 [x] 1 rfl rfl (by simp) (by omega) (Rd.one _ _ _ _ _) (by unfold maxLen; omega) (by omega) (by go_size) ?_; intro v1 w1 ho1 hs1 hb1; obtain ⟨g1, c1, hv1⟩ := own_form ho1 (by omega); rw [hv1] at ho1 ⊢; clear hs1 hv1; have hcA : w1.cell? ⟨A, 0, none⟩ = some v := cellA.out _ _ hb1; have hfA : w1.frozen? ⟨A, 0, none⟩ = false := frozA.out _ _ hb1; have hcB : w1.cell? ⟨B, 0, none⟩ = some (.int .u32 bits) := cellB.out _ _ hb1; have hz1' := hb1.size; clear ho cellA frozA cellB)
  refine (HR.out _).mono ?_
  rintro e w2 ⟨rfl, rfl⟩
  go_wp2
  go_ret
  refine ⟨rfl, ⟨⟨.slice (some ⟨g1, 0, none⟩) (ys.length + 1) c1, World.cell?_setCell_same _ _ _ hcA, ?_⟩, ?_, ?_, ?_, ?_⟩⟩
  · rw [List.length_append]
    exact ownsRow_setCell_below ho1 hA _
  · rw [World.frozen?_setCell]; exact hfA
  · rw [World.cell?_setCell_other _ _ _ _ (by simp)]; exact hcB
  · rw [World.size_setCell]
    have := hb1.size
    simp only [World.size_alloc] at this
    omega
  · exact (HBL.out.trans (((Below.refl _ W).alloc (by omega) _).trans (hb1.mono (by omega)))).setCell (p := ⟨A, 0, none⟩) h0 _

theorem Asked.later {base A B L : Nat} {bits : Int} {ys : List Int} {w0 W W' : World} (h : Asked base A B L bits ys w0 W) (hA : A < base) (hB : B < base) (hL : L ≤ base) (hb : Below W.heap.size W W') : Asked base A B L bits ys w0 W' := by
  obtain ⟨⟨v, hv, ho⟩, hfz, hbt, hsz, hbl⟩ := h
  refine ⟨⟨v, ?_, ?_⟩, ?_, ?_, Nat.le_trans hsz hb.size, hbl.trans (hb.mono (by omega))⟩
  · rw [hb.cell (p := ⟨A, 0, none⟩) (by show A < _; omega)]; exact hv
  · exact ho.kept (row := none) ⟨hb.os, hb.tape, hb.output, hb.size, fun k hk _ => hb.block k hk⟩ (by cases v.ownBlock <;> simp)
  · rw [hb.frozen (p := ⟨A, 0, none⟩) (by show A < _; omega)]; exact hfz
  · rw [hb.cell (p := ⟨B, 0, none⟩) (by show B < _; omega)]; exact hbt

theorem enter_asks1 : ∀ args w, (callFunc 18 args).run Try.prog w = .ok (.enter 18 args) w := enters_of Try.func18 (by kernel_rfl) rfl

/-- The tasks that Next asks for. -/
def askedOf (r : Int → Bool) (xs : List Int) : List Int := if Sq.idx r xs < 0 then xs else xs.take ((Sq.idx r xs).toNat + 1)

/-- Next over the closure that keeps what is asked. -/
theorem nextAsks_w (base A B L : Nat) (bits : Int) (a : Option Addr) (cap : Nat) (xs : List Int) (w : World) (hm : xs.length ≤ 1000) (hc : xs.length ≤ cap) (hcm : cap ≤ maxLen) (hn : a = none → cap = 0)
    (hA : A < base) (hB : B < base) (hAB : A ≠ B) (h0 : L ≤ A) (hr : ∀ W, Below L w W → Rd (Value.int .i64) W a xs) (hval : Sq.valid xs = true) (hb0 : 0 ≤ bits) (hb1 : bits < 4294967296) (h : Asked base A B L bits [] w w) :
    Calls Try.prog 11 #[.slice a xs.length cap, .func (.func 18) #[] #[.pointer (some ⟨A, 0, none⟩), .pointer (some ⟨B, 0, none⟩)]] w fun e w' =>
      ∃ v, e = .returned (.tuple #[v, .int .i64 (Sq.next (Sq.ready bits) xs).2.1, .bool (Sq.next (Sq.ready bits) xs).2.2]) ∧ Asked base A B L bits (askedOf (Sq.ready bits) xs) w w' := by
  have HX := indexFunc_w a cap xs 18 #[.pointer (some ⟨A, 0, none⟩), .pointer (some ⟨B, 0, none⟩)] (Sq.ready bits) (fun k W => Asked base A B L bits (xs.take k) w W) w (by omega) enter_asks1
    (fun k W hW => hr W hW.below) h (fun k W hk hW => by
      have := asks1_w base A B L bits xs[k] (xs.take k) w W hA hB hAB h0 hb0 hb1 (by simp; omega) hW
      rw [List.take_append_getElem] at this
      exact this)
  refine (nextF_w _ (Sq.ready bits) (fun W => Asked base A B L bits (askedOf (Sq.ready bits) xs) w W) a cap xs.length xs w rfl hm hc hcm hn L (by have := h.size; omega) hr hval (HX.mono ?_) (fun W hW => hW.below)).mono ?_
  · rintro e w' ⟨he, hJ⟩
    refine ⟨he, ?_⟩
    unfold askedOf
    rcases hJ with ⟨e1, hI⟩ | ⟨k, _, e1, hI⟩
    · rw [e1, if_pos (by omega)]
      rw [List.take_length] at hI
      exact hI
    · rw [e1, if_neg (by omega)]
      exact hI
  · rintro e w' ⟨v, W, hJ, he, _, hb⟩
    exact ⟨v, he, hJ.later hA hB (by omega) hb⟩

end Go.Proofs.Ytolfkgbcjfkbnaa
