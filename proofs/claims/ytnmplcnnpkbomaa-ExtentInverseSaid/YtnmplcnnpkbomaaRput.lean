/-
  The walk of the reference's put.
-/
import Derived.Test.YtnmplcnnpkbomaaGet
namespace Go.Proofs.Ytnmplcnnpkbomaa
open Go.RowKit

theorem own_form {W : World} {base : Nat} {e : TypeId} {v : Value} {n : Nat} {cs : List Value} (h : W.ownsRow base e 1 v n cs) (hn : 0 < n) : ∃ g c, v = .slice (some ⟨g, 0, none⟩) n c := by
  rcases h.2 with ⟨_, h⟩ | ⟨g, c, _, h, _⟩
  · omega
  · exact ⟨g, c, h⟩

set_option maxHeartbeats 800000 in
theorem rput_w {v : Value} {xs : List UInt8} {w : World} (i : Int) (on : Bool) (hv : Sl eb w v xs) (hm : xs.length ≤ 1000000) (hi0 : 0 ≤ i) (hi : i < 8 * xs.length) :
    Calls Try.prog 37 #[v, .int .i64 i, .bool on] w fun e w' => ∃ v', e = .returned v' ∧ w'.ownsRow w.heap.size 5 1 v' (Ex.putB xs i.toNat on).length ((Ex.putB xs i.toNat on).map eb) ∧ Below w.heap.size w w' := by
  obtain ⟨a, cap, rfl, hc, hcm, hn, hr⟩ := hv
  obtain ⟨i0, hi', hz0, hz1, hz2⟩ := info_parts Try.info5
  obtain ⟨j, rfl⟩ := Int.eq_ofNat_of_zero_le hi0
  rw [Int.toNat_natCast]
  have hj : j / 8 < xs.length := by omega
  have hk : j % 8 < 8 := Nat.mod_lt _ (by omega)
  have e1 : ((j : Int) / 8).toNat = j / 8 := by omega
  have e2 : (0 : Int) ≤ (j : Int) / 8 := by omega
  have e3 : (j : Int) / 8 < (xs.length : Int) := by omega
  have e4 : (0 : Int) ≤ (j : Int) % 8 := by omega
  have hof := set_off xs[j / 8] hk
  have hon := set_on (Ex.setB xs[j / 8] (j % 8) false) hk
  rw [Ex.setB_setB _ hk] at hon
  have HL := Lib.hid (fun on => Ex.length_putB xs j on)
  have HP : Hid (∀ on, (Ex.putB xs j on).map eb = (xs.map eb).set (j / 8) (eb (Ex.setB xs[j / 8] (j % 8) on))) := fun on => by
    unfold Ex.putB; simp [List.getD, hj]
  have H : ∀ (v1 : Value) (w1 : World), w1.ownsRow w.heap.size 5 1 v1 xs.length (xs.map eb) → Below w.heap.size w w1 → ∃ g c, v1 = .slice (some ⟨g, 0, none⟩) xs.length c ∧
      w1.cell? ⟨g, j / 8, none⟩ = some (.int .u8 (xs[j / 8].toNat : Int)) ∧ w1.frozen? ⟨g, j / 8, none⟩ = false ∧
      Hid (∀ x : UInt8, (w1.setCell ⟨g, j / 8, none⟩ (eb x)).ownsRow w.heap.size 5 1 v1 xs.length ((xs.map eb).set (j / 8) (eb x)) ∧ Below w.heap.size w (w1.setCell ⟨g, j / 8, none⟩ (eb x))) ∧
      Hid (∀ x y : UInt8, ((w1.setCell ⟨g, j / 8, none⟩ (eb x)).setCell ⟨g, j / 8, none⟩ (eb y)).ownsRow w.heap.size 5 1 v1 xs.length ((xs.map eb).set (j / 8) (eb y)) ∧ Below w.heap.size w ((w1.setCell ⟨g, j / 8, none⟩ (eb x)).setCell ⟨g, j / 8, none⟩ (eb y))) := by
    intro v1 w1 ho hb
    obtain ⟨g, c, rfl⟩ := own_form ho (by omega)
    have hg := (ho.lt g rfl).1
    refine ⟨g, c, rfl, ?_, World.ownsRow.frozenAt ho _, fun x => ⟨(World.ownsRow.stored ho _ _).1, hb.setCell (p := ⟨g, j / 8, none⟩) hg _⟩, fun x y => ⟨?_, (hb.setCell (p := ⟨g, j / 8, none⟩) hg _).setCell (p := ⟨g, j / 8, none⟩) hg _⟩⟩
    · rw [World.ownsRow.cellAt ho _ (by omega)]; simp [hj, eb]
    · have := (World.ownsRow.stored (World.ownsRow.stored ho (j / 8) (eb x)).1 (j / 8) (eb y)).1
      rw [List.set_set] at this
      exact this
  have HH := Lib.hid H
  clear H
  cases on with
  | true =>
    go_enter Try.func37, Try.ntmps37
    go_wp2_with (at_builtin; refine wpList_append_rd eb (fun _ => rfl) rfl _ _ 22 rfl w.heap.size 5 i0 (.int .u8 0) 1 Try.underlying22 hi' hz0 hz1 hz2 rfl _ 0 [] rfl (World.ownsRow_made w #[] 0 (Nat.le_refl _) (Nat.zero_le _) rfl) a cap xs xs.length rfl rfl hn hc (hr.below ((Below.refl _ w).alloc (Nat.le_refl _) _) (Nat.le_refl _)) (by unfold maxLen; omega) (by omega) (by simp) ?_; intro v1 w1 ho1 hs1 hb1; simp only [Nat.zero_add, List.nil_append] at ho1; have hb01 := ((Below.refl _ w).alloc (Nat.le_refl _) (Obj.cells #[] 5)).trans hb1; obtain ⟨g, c, hv1, hc1, hf1, HA, HB⟩ := HH.out v1 w1 ho1 hb01; rw [hv1]; rw [hv1] at HA HB; clear hv1 ho1 hs1 hb1 hb01 HH)
    go_region
    go_wp2
    go_region
    go_wp2
    go_ret
    have hB := HB.out (Ex.setB xs[j / 8] (j % 8) false) (Ex.setB xs[j / 8] (j % 8) true)
    exact ⟨_, rfl, by rw [HL.out, HP.out]; exact hB.1.drew.drew, hB.2.drew.drew⟩
  | false =>
    go_enter Try.func37, Try.ntmps37
    go_wp2_with (at_builtin; refine wpList_append_rd eb (fun _ => rfl) rfl _ _ 22 rfl w.heap.size 5 i0 (.int .u8 0) 1 Try.underlying22 hi' hz0 hz1 hz2 rfl _ 0 [] rfl (World.ownsRow_made w #[] 0 (Nat.le_refl _) (Nat.zero_le _) rfl) a cap xs xs.length rfl rfl hn hc (hr.below ((Below.refl _ w).alloc (Nat.le_refl _) _) (Nat.le_refl _)) (by unfold maxLen; omega) (by omega) (by simp) ?_; intro v1 w1 ho1 hs1 hb1; simp only [Nat.zero_add, List.nil_append] at ho1; have hb01 := ((Below.refl _ w).alloc (Nat.le_refl _) (Obj.cells #[] 5)).trans hb1; obtain ⟨g, c, hv1, hc1, hf1, HA, HB⟩ := HH.out v1 w1 ho1 hb01; rw [hv1]; rw [hv1] at HA HB; clear hv1 ho1 hs1 hb1 hb01 HH)
    go_region
    go_wp2
    go_ret
    have hA := HA.out (Ex.setB xs[j / 8] (j % 8) false)
    exact ⟨_, rfl, by rw [HL.out, HP.out]; exact hA.1.drew, hA.2.drew⟩
end Go.Proofs.Ytnmplcnnpkbomaa
