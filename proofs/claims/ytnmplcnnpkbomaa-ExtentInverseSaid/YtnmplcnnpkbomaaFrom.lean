/-
  The walks of from and SameRuns of the law of ExtentInverse.
-/
import Derived.Test.YtnmplcnnpkbomaaRuns
namespace Go.Proofs.Ytnmplcnnpkbomaa
open Go.RowKit

set_option maxRecDepth 20000 in
set_option maxHeartbeats 3200000 in
theorem from_w {v : Value} {l : List (Int × Int)} {w : World} (hv : Sm 2 er w v l) (hm : l.length ≤ 4096) :
    Calls Try.prog 31 #[v] w fun e w' => ∃ v', e = .returned v' ∧ Sm 2 er w' v' l ∧ Below w.heap.size w w' := by
  obtain ⟨a, cap, rfl, hc, hcm, hna, hrd⟩ := hv
  obtain ⟨i0, hi, hz0, hz1, hz2⟩ := info_parts Try.infoRRun
  unfold maxLen at hcm
  go_enter Try.func31, Try.ntmps31
  go_wp2
  go_loopw [3, 4, 7] (fun s3 _ s7 wr => ∃ (k : Nat) (a4 : Option Addr) (c4 : Nat), s7 = .int .i64 k ∧ k ≤ l.length ∧ s3 = .slice a4 k c4 ∧ wr.ownsRow w.heap.size 54 2 (.slice a4 k c4) k ((l.take k).flatMap er) ∧ Below w.heap.size w wr) (fun _ _ s7 _ => l.length - (intOf s7).toNat)
  case atStart => exact ⟨0, none, 0, rfl, Nat.zero_le _, rfl, ⟨by simp, .inl ⟨rfl, rfl⟩⟩, Below.refl _ _⟩
  case round =>
    obtain ⟨k, a4, c4, rfl, hk, rfl, hO, hbl⟩ := hrel
    by_cases hlt : k < l.length
    · obtain ⟨b, off, rfl, hb, hcs⟩ := (hrd.below hbl (Nat.le_refl _)).form (by omega)
      have hc0 : wr.cell? ⟨b, off + k * 2, none⟩ = some (.int .i64 l[k].1) := hcs k hlt 0 (by omega)
      have hc1 : wr.cell? ⟨b, off + k * 2 + 1, none⟩ = some (.int .i64 l[k].2) := hcs k hlt 1 (by omega)
      have f1 : (0 : Int) ≤ (k : Int) := by omega
      have f2 : (k : Int) < (l.length : Int) := by omega
      have ht := List.take_succ_eq_append_getElem hlt
      have HT : Hid (l.take (k + 1) = l.take k ++ [(l[k].1, l[k].2)]) := ht
      generalize l[k].1 = x at *
      generalize l[k].2 = y at *
      clear hcs ht
      go_wp2_with (at_builtin; refine wpList_append_m er er_len (by omega) er_one rfl (.tmp 10) (.tmp 15) 46 rfl w.heap.size 54 i0 (.agg #[.int .i64 0, .int .i64 0]) 16 Try.underlying46 hi hz0 hz1 hz2 rfl _ k (l.take k) rfl (hO.alloc _) (some ⟨wr.heap.size, 0, none⟩) 1 [(x, y)] 1 rfl rfl (by simp) (by omega) (Rm.one (enc := er) wr (x, y) _ _ rfl) (by unfold maxLen; omega) (by omega) (by have := hbl.size; simp; omega) ?_; intro v2 w2 ho2 hs2 hb2; obtain ⟨a2, c2, rfl⟩ := own_slice2 ho2)
      have hbl2 := (hbl.alloc hbl.size (.cells #[.int .i64 x, .int .i64 y] 54 (0, 0))).trans hb2
      clear hs2 hb2
      go_roundw
      case rel => exact ⟨k + 1, a2, c2, by go_num, by omega, rfl, by rw [HT.out]; exact ho2, hbl2⟩
      case measure => simp [intOf]; omega
    · obtain rfl : k = l.length := by omega
      rw [List.take_length] at hO
      have HS := Lib.hid (Sm.ofOwn er_len hO rfl)
      clear hO
      go_wp2
      go_ret
      exact ⟨_, rfl, HS.out, hbl⟩
end Go.Proofs.Ytnmplcnnpkbomaa
