/-
  The walk of disk of the laws.
-/
import Derived.Test.YtbklmpekpcneeaaBj
import Derived.Test.YtbklmpekpcneeaaBi
set_option linter.unusedVariables false
set_option linter.unusedSimpArgs false
namespace Go.Proofs.Ytbklmpekpcneeaa
open Go.RowKit
set_option maxRecDepth 100000

set_option maxHeartbeats 4000000 in
theorem ldisk_w {v : Value} {l : List Nd.Op} {w : World} (hv : Oq w v l) (hf : Nd.few l = true) (on : Bool) (n : Nat) (hn : n < 65536) (c : UInt8) : Calls Try.prog 18 #[v, .bool on, .agg #[.int .u16 n, eb c]] w fun e w' => ∃ v' d, e = .returned v' ∧ d.length = 12288 ∧ Sl eb w' v' d ∧ Below w.heap.size w w' := by
  show Calls Try.prog 18 #[v, .bool on, .agg #[.int .u16 n, .int .u8 (c.toNat : Int)]] w _
  obtain ⟨a0, c0, rfl, -⟩ := hv.open
  obtain ⟨W1, hW1⟩ : ∃ W, W = w.alloc (.cells #[.int .u16 n, .int .u8 (c.toNat : Int)] 37 (0, 0)) := ⟨_, rfl⟩
  have hl1 : Below w.heap.size w W1 := by rw [hW1]; exact low_alloc _ _
  have hk1 : Bk W1 w.heap.size 37 [.int .u16 n, .int .u8 (c.toNat : Int)] := by rw [hW1]; exact Bk.new w _ [.int .u16 n, .int .u8 (c.toNat : Int)]
  have HW1 := Lib.hid hW1
  have HL1 := Lib.hid hl1
  have HQ : Hid (∀ W, Below W1.heap.size W1 W → W.cell? ⟨w.heap.size, 0, none⟩ = some (.int .u16 n) ∧ W.cell? ⟨w.heap.size, 1, none⟩ = some (.int .u8 (c.toNat : Int))) := fun W hW => by
    have h := hk1.below hW hk1.lt
    exact ⟨h.cell 0, h.cell 1⟩
  have HDK := Lib.hid (rdisk_o (hv.below hl1 (Nat.le_refl _)) hf)
  have hdl : (Nd.disk l).length = 12288 := (Nd.disk_ok l).1
  generalize Nd.disk l = d at *
  have hne : d ≠ [] := fun e => by rw [e] at hdl; exact absurd hdl (by decide)
  have HDL := Lib.hid hdl
  have e1 : IntKind.i64.wrap (n : Int) = (n : Int) := IntWalk.i64_in _ (by omega)
  have HNE := Lib.hid hne
  have HN := Lib.hid hn
  clear hW1 hl1 hk1 hv hf hdl hne hn
  go_enter Try.func18, Try.ntmps18
  go_upto_region 1 with fail
  rw [← HW1.out]
  go_upto_region 2 with (go_at_call 13; (with_reducible refine HDK.out.mono ?_); rintro e w2 ⟨vd, rfl, hs2, hb2, hw2⟩)
  obtain ⟨B, hB, ho⟩ := hw2 HNE.out
  obtain ⟨g, cg, rfl⟩ := own_form ho (by omega)
  obtain ⟨z0, z1⟩ := HQ.out w2 hb2
  have hgw : w.heap.size ≤ g := Nat.le_trans HL1.out.size (Nat.le_trans hB (own_bk' ho).1)
  have HB := Lib.hid (stepAny HL1.out hb2)
  have HS2 := Lib.hid hs2
  clear hw2 hB hb2 hs2
  obtain ⟨t, ht, ht2⟩ : ∃ t : Nat, (n : Int) % 12288 = (t : Int) ∧ t < 12288 := ⟨n % 12288, by omega, by omega⟩
  go_upto_region 3 with fail
  rw [ht]
  clear ht z0 e1
  cases on with
  | false =>
    clear ho
    go_wp2_with fail
    go_ret
    first | exact ⟨_, rfl, d, HDL.out, HS2.out, HB.out⟩ | exact ⟨.slice (some ⟨g, 0, none⟩) 12288 cg, d, rfl, HDL.out, HS2.out, HB.out⟩ | exact ⟨_, d, rfl, HDL.out, HS2.out, HB.out⟩ | exact ⟨d, HDL.out, HS2.out, HB.out⟩ | exact ⟨d, _, rfl, HDL.out, HS2.out, HB.out⟩
  | true =>
    by_cases h1 : t < 128
    · have f1 : (t : Int) < 128 := by omega
      obtain ⟨y0', y1⟩ := own_cell8 (i := t) ho (by rw [HDL.out]; exact ht2) HDL.out
      obtain ⟨old, y0⟩ : ∃ old : Int, w2.cell? ⟨g, t, none⟩ = some (.int .u8 old) := ⟨_, y0'⟩
      clear y0'
      have hst := own_store8 (i := t) (c := c) ho
      have HFIN := Lib.hid (own_sl0 hst (by rw [List.length_set]; exact HDL.out))
      have HSET : Hid (Below w.heap.size w (w2.setCell ⟨g, t, none⟩ (eb c))) := HB.out.setCell (by simp; exact hgw) _
      have f3 : (0 : Int) ≤ (t : Int) := by omega
      have f4 : (t : Int) < 12288 := by omega
      clear ho hst
      go_wp2_with fail
      go_ret
      first | exact ⟨_, rfl, d.set t c, by rw [List.length_set]; exact HDL.out, HFIN.out, HSET.out⟩ | exact ⟨.slice (some ⟨g, 0, none⟩) 12288 cg, d.set t c, rfl, by rw [List.length_set]; exact HDL.out, HFIN.out, HSET.out⟩ | exact ⟨_, d.set t c, rfl, by rw [List.length_set]; exact HDL.out, HFIN.out, HSET.out⟩ | exact ⟨d.set t c, by rw [List.length_set]; exact HDL.out, HFIN.out, HSET.out⟩ | exact ⟨d.set t c, _, rfl, by rw [List.length_set]; exact HDL.out, HFIN.out, HSET.out⟩
    · have f1 : ¬ (t : Int) < 128 := by omega
      by_cases h2 : 1664 ≤ t
      · have f2 : 1664 ≤ (t : Int) := by omega
        obtain ⟨y0', y1⟩ := own_cell8 (i := t) ho (by rw [HDL.out]; exact ht2) HDL.out
        obtain ⟨old, y0⟩ : ∃ old : Int, w2.cell? ⟨g, t, none⟩ = some (.int .u8 old) := ⟨_, y0'⟩
        clear y0'
        have hst := own_store8 (i := t) (c := c) ho
        have HFIN := Lib.hid (own_sl0 hst (by rw [List.length_set]; exact HDL.out))
        have HSET : Hid (Below w.heap.size w (w2.setCell ⟨g, t, none⟩ (eb c))) := HB.out.setCell (by simp; exact hgw) _
        have f3 : (0 : Int) ≤ (t : Int) := by omega
        have f4 : (t : Int) < 12288 := by omega
        clear ho hst
        go_wp2_with fail
        go_ret
        first | exact ⟨_, rfl, d.set t c, by rw [List.length_set]; exact HDL.out, HFIN.out, HSET.out⟩ | exact ⟨.slice (some ⟨g, 0, none⟩) 12288 cg, d.set t c, rfl, by rw [List.length_set]; exact HDL.out, HFIN.out, HSET.out⟩ | exact ⟨_, d.set t c, rfl, by rw [List.length_set]; exact HDL.out, HFIN.out, HSET.out⟩ | exact ⟨d.set t c, by rw [List.length_set]; exact HDL.out, HFIN.out, HSET.out⟩ | exact ⟨d.set t c, _, rfl, by rw [List.length_set]; exact HDL.out, HFIN.out, HSET.out⟩
      · have f2 : ¬ 1664 ≤ (t : Int) := by omega
        clear ho
        go_wp2_with fail
        go_ret
        first | exact ⟨_, rfl, d, HDL.out, HS2.out, HB.out⟩ | exact ⟨.slice (some ⟨g, 0, none⟩) 12288 cg, d, rfl, HDL.out, HS2.out, HB.out⟩ | exact ⟨_, d, rfl, HDL.out, HS2.out, HB.out⟩ | exact ⟨d, HDL.out, HS2.out, HB.out⟩ | exact ⟨d, _, rfl, HDL.out, HS2.out, HB.out⟩
end Go.Proofs.Ytbklmpekpcneeaa
