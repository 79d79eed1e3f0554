/-
  The walk of ExtentInverse.
-/
import Derived.Test.YtnmplcnnpkbomaaIndices
import Derived.Test.YtnmplcnnpkbomaaSameRuns
import Derived.Test.YtnmplcnnpkbomaaAwake
import Derived.Test.YtnmplcnnpkbomaaArgs
namespace Go.Proofs.Ytnmplcnnpkbomaa
open Go.RowKit

set_option maxRecDepth 20000 in
set_option maxHeartbeats 6400000 in
theorem linverse_w {va vb : Value} {w : World} (o0 : IsInts w va) (o1 : IsRuns w vb) :
    Calls Try.prog 8 #[va, vb] w fun e w' => e = .returned (.bool true) ∧ Below w.heap.size w w' := by
  obtain ⟨l, hl, hlb⟩ := o0
  obtain ⟨rs, hr, hrb⟩ := o1
  have HL := Lib.hid hl
  have HB := Lib.hid hr
  obtain ⟨i0, hi, hz0, hz1, hz2⟩ := info_parts Try.infoRun
  obtain ⟨rs1, e1, hr1⟩ : ∃ a b, Ri.runs l = (a, b) := ⟨_, _, rfl⟩
  obtain ⟨l2, e2, hr2⟩ : ∃ a b, Ri.indices rs = (a, b) := ⟨_, _, rfl⟩
  have R1 : l.length ≤ 200 → Hid (∀ W, Below w.heap.size w W → _) := fun hm => Lib.hid (fun (W : World) (hb : Below w.heap.size w W) => runs_w (HL.out.below hb (Nat.le_refl _)) (by omega) hlb hr1)
  have I2 : rs.length ≤ 100 → Hid (∀ (W : World) (v : Value), Sm 2 er W v rs → _) := fun hm => Lib.hid (fun (W : World) (v : Value) (h : Sm 2 er W v rs) => indices_w h (by omega) hrb hr2)
  obtain ⟨a1, cap1, rfl, hc1, hcm1, _, _⟩ := hl
  obtain ⟨a3, cap3, rfl, hc3, hcm3, _, hrd⟩ := hr
  unfold maxLen at hcm1 hcm3
  clear hlb hrb
  by_cases hm : 200 < l.length
  · clear R1 I2
    go_enter Try.func8, Try.ntmps8
    go_wp2_with (go_at_call 10; refine (awake_w _).mono ?_; rintro e w1 ⟨rfl, hb1⟩)
    go_ret
    exact ⟨rfl, hb1⟩
  · by_cases hn : 100 < rs.length
    · clear R1 I2
      go_enter Try.func8, Try.ntmps8
      go_wp2_with (go_at_call 10; refine (awake_w _).mono ?_; rintro e w1 ⟨rfl, hb1⟩)
      go_ret
      exact ⟨rfl, hb1⟩
    · replace R1 := R1 (by omega)
      replace I2 := I2 (by omega)
      rcases Ri.runs_facts (by omega) hr1 with ⟨rfl, hr3, hl2, hlb2⟩ | rfl
      · have I1 := Lib.hid (fun (W : World) (v : Value) (h : Sm 2 er W v rs1) => indices_w h hl2 hlb2 hr3)
        clear hr1 hr3 hlb2
        go_enter Try.func8, Try.ntmps8
        go_wp2_with (first
          | (go_at_call 10; refine (awake_w _).mono ?_; rintro e w1 ⟨rfl, hb1⟩)
          | (go_at_call 28; refine (R1.out w1 hb1).mono ?_; rintro e w2 ⟨v2, rfl, hs2, hb2⟩; have hb12 := hb1.trans (hb2.mono hb1.size))
          | (go_at_call 29; refine (I1.out _ _ hs2).mono ?_; rintro e w3 ⟨v3, rfl, hs3, hb3⟩; have hb13 := hb12.trans (hb3.mono hb12.size))
          | (go_at_call 17; refine (sameInts_t hs3 (HL.out.below hb13 (Nat.le_refl _))).mono ?_; rintro e w4 ⟨rfl, hb4⟩; have hb14 := hb13.trans (hb4.mono hb13.size); clear hb1 hb2 hb12 hb3 hb13 hb4 hs2 hs3))
        go_loopw [9, 10, 47] (fun s9 _ s47 wr => ∃ (k : Nat) (a4 : Option Addr) (c4 : Nat), s47 = .int .i64 k ∧ k ≤ rs.length ∧ s9 = .slice a4 k c4 ∧ wr.ownsRow w.heap.size 53 2 (.slice a4 k c4) k ((rs.take k).flatMap er) ∧ Below w.heap.size w wr) (fun _ _ s47 _ => rs.length - (intOf s47).toNat)
        case atStart => exact ⟨0, none, 0, rfl, Nat.zero_le _, rfl, ⟨by simp, .inl ⟨rfl, rfl⟩⟩, by assumption⟩
        case round =>
          obtain ⟨k, a4, c4, rfl, hk, rfl, hO, hbl⟩ := hrel
          by_cases hlt : k < rs.length
          · obtain ⟨b, off, rfl, hb, hcs⟩ := (hrd.below hbl (Nat.le_refl _)).form (by omega)
            have hc0 : wr.cell? ⟨b, off + k * 2, none⟩ = some (.int .i64 rs[k].1) := hcs k hlt 0 (by omega)
            have hc1 : wr.cell? ⟨b, off + k * 2 + 1, none⟩ = some (.int .i64 rs[k].2) := hcs k hlt 1 (by omega)
            have f1 : (0 : Int) ≤ (k : Int) := by omega
            have f2 : (k : Int) < (rs.length : Int) := by omega
            have HT : Hid (rs.take (k + 1) = rs.take k ++ [(rs[k].1, rs[k].2)]) := List.take_succ_eq_append_getElem hlt
            generalize rs[k].1 = x at *
            generalize rs[k].2 = y at *
            clear hcs
            go_wp2_with (at_builtin; refine wpList_append_m er er_len (by omega) er_one rfl (.tmp 50) (.tmp 55) 47 rfl w.heap.size 53 i0 (.agg #[.int .i64 0, .int .i64 0]) 16 Try.underlying47 hi hz0 hz1 hz2 rfl _ k (rs.take k) rfl (hO.alloc _) (some ⟨wr.heap.size, 0, none⟩) 1 [(x, y)] 1 rfl rfl (by simp) (by omega) (Rm.one (enc := er) wr (x, y) _ _ rfl) (by unfold maxLen; omega) (by omega) (by have := hbl.size; simp; omega) ?_; intro v2 w2 ho2 hs2 hb2; obtain ⟨a2, c2, rfl⟩ := own_slice2 ho2)
            have hbl2 := (hbl.alloc hbl.size (.cells #[.int .i64 x, .int .i64 y] 53 (0, 0))).trans hb2
            clear hs2 hb2
            go_roundw
            case rel => exact ⟨k + 1, a2, c2, by go_num, by omega, rfl, by rw [HT.out]; exact ho2, hbl2⟩
            case measure => simp [intOf]; omega
          · obtain rfl : k = rs.length := by omega
            rw [List.take_length] at hO
            have HS := Sm.ofOwn er_len hO rfl
            clear hO
            rcases Ri.indices_facts hr2 with ⟨rfl, hr3, hl2, hlb2⟩ | ⟨rfl, he⟩
            · have R2 := Lib.hid (fun (W : World) (v : Value) (h : Sl (Value.int .i64) W v l2) => runs_w h hl2 hlb2 hr3)
              clear hr3 hlb2
              go_wp2_with (first
                | (go_at_call 29; refine (I2.out _ _ HS).mono ?_; rintro e w5 ⟨v5, rfl, hs5, hb5⟩; have hb15 := hbl.trans (hb5.mono hbl.size))
                | (go_at_call 28; refine (R2.out _ _ hs5).mono ?_; rintro e w6 ⟨v6, rfl, hs6, hb6⟩; have hb16 := hb15.trans (hb6.mono hb15.size))
                | (go_at_call 31; refine (from_w hs6 (by omega)).mono ?_; rintro e w7 ⟨v7, rfl, hs7, hb7⟩; have hb17 := hb16.trans (hb7.mono hb16.size))
                | (go_at_call 30; refine (sameRuns_t hs7 (HB.out.below hb17 (Nat.le_refl _))).mono ?_; rintro e w8 ⟨rfl, hb8⟩; have hb18 := hb17.trans (hb8.mono hb17.size)))
              go_ret
              exact ⟨rfl, hb18⟩
            · rcases he with rfl | rfl
              · go_wp2_with (go_at_call 29; refine (I2.out _ _ HS).mono ?_; rintro e w5 ⟨v5, rfl, hs5, hb5⟩; have hb15 := hbl.trans (hb5.mono hbl.size); obtain ⟨a5, c5, rfl, _⟩ := hs5)
                go_ret
                exact ⟨rfl, hb15⟩
              · go_wp2_with (go_at_call 29; refine (I2.out _ _ HS).mono ?_; rintro e w5 ⟨v5, rfl, hs5, hb5⟩; have hb15 := hbl.trans (hb5.mono hbl.size); obtain ⟨a5, c5, rfl, _⟩ := hs5)
                go_ret
                exact ⟨rfl, hb15⟩
      · clear hr1
        go_enter Try.func8, Try.ntmps8
        go_wp2_with (first
          | (go_at_call 10; refine (awake_w _).mono ?_; rintro e w1 ⟨rfl, hb1⟩)
          | (go_at_call 28; refine (R1.out w1 hb1).mono ?_; rintro e w2 ⟨v2, rfl, hs2, hb2⟩; have hb12 := hb1.trans (hb2.mono hb1.size)))
        clear hb1 hb2 hs2
        go_loopw [9, 10, 47] (fun s9 _ s47 wr => ∃ (k : Nat) (a4 : Option Addr) (c4 : Nat), s47 = .int .i64 k ∧ k ≤ rs.length ∧ s9 = .slice a4 k c4 ∧ wr.ownsRow w.heap.size 53 2 (.slice a4 k c4) k ((rs.take k).flatMap er) ∧ Below w.heap.size w wr) (fun _ _ s47 _ => rs.length - (intOf s47).toNat)
        case atStart => exact ⟨0, none, 0, rfl, Nat.zero_le _, rfl, ⟨by simp, .inl ⟨rfl, rfl⟩⟩, by assumption⟩
        case round =>
          obtain ⟨k, a4, c4, rfl, hk, rfl, hO, hbl⟩ := hrel
          by_cases hlt : k < rs.length
          · obtain ⟨b, off, rfl, hb, hcs⟩ := (hrd.below hbl (Nat.le_refl _)).form (by omega)
            have hc0 : wr.cell? ⟨b, off + k * 2, none⟩ = some (.int .i64 rs[k].1) := hcs k hlt 0 (by omega)
            have hc1 : wr.cell? ⟨b, off + k * 2 + 1, none⟩ = some (.int .i64 rs[k].2) := hcs k hlt 1 (by omega)
            have f1 : (0 : Int) ≤ (k : Int) := by omega
            have f2 : (k : Int) < (rs.length : Int) := by omega
            have HT : Hid (rs.take (k + 1) = rs.take k ++ [(rs[k].1, rs[k].2)]) := List.take_succ_eq_append_getElem hlt
            generalize rs[k].1 = x at *
            generalize rs[k].2 = y at *
            clear hcs
            go_wp2_with (at_builtin; refine wpList_append_m er er_len (by omega) er_one rfl (.tmp 50) (.tmp 55) 47 rfl w.heap.size 53 i0 (.agg #[.int .i64 0, .int .i64 0]) 16 Try.underlying47 hi hz0 hz1 hz2 rfl _ k (rs.take k) rfl (hO.alloc _) (some ⟨wr.heap.size, 0, none⟩) 1 [(x, y)] 1 rfl rfl (by simp) (by omega) (Rm.one (enc := er) wr (x, y) _ _ rfl) (by unfold maxLen; omega) (by omega) (by have := hbl.size; simp; omega) ?_; intro v2 w2 ho2 hs2 hb2; obtain ⟨a2, c2, rfl⟩ := own_slice2 ho2)
            have hbl2 := (hbl.alloc hbl.size (.cells #[.int .i64 x, .int .i64 y] 53 (0, 0))).trans hb2
            clear hs2 hb2
            go_roundw
            case rel => exact ⟨k + 1, a2, c2, by go_num, by omega, rfl, by rw [HT.out]; exact ho2, hbl2⟩
            case measure => simp [intOf]; omega
          · obtain rfl : k = rs.length := by omega
            rw [List.take_length] at hO
            have HS := Sm.ofOwn er_len hO rfl
            clear hO
            rcases Ri.indices_facts hr2 with ⟨rfl, hr3, hl2, hlb2⟩ | ⟨rfl, he⟩
            · have R2 := Lib.hid (fun (W : World) (v : Value) (h : Sl (Value.int .i64) W v l2) => runs_w h hl2 hlb2 hr3)
              clear hr3 hlb2
              go_wp2_with (first
                | (go_at_call 29; refine (I2.out _ _ HS).mono ?_; rintro e w5 ⟨v5, rfl, hs5, hb5⟩; have hb15 := hbl.trans (hb5.mono hbl.size))
                | (go_at_call 28; refine (R2.out _ _ hs5).mono ?_; rintro e w6 ⟨v6, rfl, hs6, hb6⟩; have hb16 := hb15.trans (hb6.mono hb15.size))
                | (go_at_call 31; refine (from_w hs6 (by omega)).mono ?_; rintro e w7 ⟨v7, rfl, hs7, hb7⟩; have hb17 := hb16.trans (hb7.mono hb16.size))
                | (go_at_call 30; refine (sameRuns_t hs7 (HB.out.below hb17 (Nat.le_refl _))).mono ?_; rintro e w8 ⟨rfl, hb8⟩; have hb18 := hb17.trans (hb8.mono hb17.size)))
              go_ret
              exact ⟨rfl, hb18⟩
            · rcases he with rfl | rfl
              · go_wp2_with (go_at_call 29; refine (I2.out _ _ HS).mono ?_; rintro e w5 ⟨v5, rfl, hs5, hb5⟩; have hb15 := hbl.trans (hb5.mono hbl.size); obtain ⟨a5, c5, rfl, _⟩ := hs5)
                go_ret
                exact ⟨rfl, hb15⟩
              · go_wp2_with (go_at_call 29; refine (I2.out _ _ HS).mono ?_; rintro e w5 ⟨v5, rfl, hs5, hb5⟩; have hb15 := hbl.trans (hb5.mono hbl.size); obtain ⟨a5, c5, rfl, _⟩ := hs5)
                go_ret
                exact ⟨rfl, hb15⟩
end Go.Proofs.Ytnmplcnnpkbomaa
