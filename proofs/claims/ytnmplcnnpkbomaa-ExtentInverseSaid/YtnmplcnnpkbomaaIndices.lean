/-
  The walk of extent.Indices.
-/
import Derived.Test.YtnmplcnnpkbomaaFrom
namespace Go.Proofs.Ytnmplcnnpkbomaa
open Go.RowKit

set_option maxRecDepth 20000 in
set_option maxHeartbeats 3200000 in
theorem indices_w {v : Value} {rs : List (Int × Int)} {w : World} (hv : Sm 2 er w v rs) (hm : rs.length ≤ 4096)
    (hlo : ∀ r ∈ rs, (-9223372036854775808 ≤ r.1 ∧ r.1 ≤ 9223372036854775807) ∧ -9223372036854775808 ≤ r.2 ∧ r.2 ≤ 9223372036854775807) {l : List Int} {c : Int} (hr : Ri.indices rs = (l, c)) :
    Calls Try.prog 29 #[v] w fun e w' => ∃ v', e = .returned (.tuple #[v', .int .i64 c]) ∧ Sl (Value.int .i64) w' v' l ∧ Below w.heap.size w w' := by
  have HV := Lib.hid hv
  obtain ⟨a, cap, rfl, hc, hcm, hna, hrd⟩ := hv
  obtain ⟨i0, hi, hz0, hz1, hz2⟩ := info_parts Try.info3
  have HR := Lib.hid hr
  have HLO := Lib.hid hlo
  unfold maxLen at hcm
  clear hr hlo
  go_enter Try.func29, Try.ntmps29
  go_wp2
  go_loopw [4, 5, 7, 14] (fun s4 s5 _ s14 wr => ∃ (k : Nat) (en to : Int), s14 = .int .i64 k ∧ k ≤ rs.length ∧ s4 = .int .i64 en ∧ s5 = .int .i64 to ∧ Hid (Ri.okRs (-1) (rs.take k) = true ∧ en = Ri.endOf (rs.take k) ∧ to = min (Ri.total (rs.take k)) 4097) ∧ (-1 ≤ en ∧ en ≤ 1073741825) ∧ (0 ≤ to ∧ to ≤ 4097) ∧ Below w.heap.size w wr) (fun _ _ _ s14 _ => rs.length - (intOf s14).toNat)
  case atStart => exact ⟨0, -1, 0, rfl, Nat.zero_le _, rfl, rfl, ⟨rfl, rfl, rfl⟩, by omega, by omega, Below.refl _ _⟩
  case round =>
    obtain ⟨k, en, to, rfl, hk, rfl, rfl, HK, hen, hto, hbl⟩ := hrel
    by_cases hlt : k < rs.length
    · obtain ⟨b, off, rfl, hb, hcs⟩ := (hrd.below hbl (Nat.le_refl _)).form (by omega)
      have hc0 : wr.cell? ⟨b, off + k * 2, none⟩ = some (.int .i64 rs[k].1) := hcs k hlt 0 (by omega)
      have hc1 : wr.cell? ⟨b, off + k * 2 + 1, none⟩ = some (.int .i64 rs[k].2) := hcs k hlt 1 (by omega)
      have f1 : (0 : Int) ≤ (k : Int) := by omega
      have f2 : (k : Int) < (rs.length : Int) := by omega
      have hlk := HLO.out _ (List.getElem_mem hlt)
      have HB : Hid (Ri.okR en (rs[k].1, rs[k].2) = false → l = [] ∧ c = 1) := fun h => by
        have h1 := HK.out.2.1
        subst h1
        have := Ri.okRs_bad hlt h
        rw [HR.out] at this
        exact ⟨(Prod.mk.inj this).1, (Prod.mk.inj this).2⟩
      have HT : Hid (Ri.okR en (rs[k].1, rs[k].2) = true → Ri.okRs (-1) (rs.take (k + 1)) = true ∧ rs[k].1 + rs[k].2 = Ri.endOf (rs.take (k + 1)) ∧ min (to + rs[k].2) 4097 = min (Ri.total (rs.take (k + 1))) 4097) := fun h => by
        obtain ⟨h0, h1, h2⟩ := HK.out
        subst h1
        refine ⟨Ri.okRs_step hlt h0 h, (Ri.endOf_step hlt).symm, ?_⟩
        rw [Ri.total_step hlt, h2]
        have := Ri.total_nonneg h0
        unfold Ri.okR at h
        simp only [Bool.and_eq_true, decide_eq_true_eq] at h
        omega
      generalize rs[k].1 = x at *
      generalize rs[k].2 = y at *
      clear hcs HK
      have hbl2 : ∀ q : Obj, Below w.heap.size w (wr.alloc q) := fun q => hbl.alloc hbl.size q
      have HBL := Lib.hid hbl2
      have hsz := hbl.size
      clear hbl2
      by_cases h0 : y < 1
      · obtain ⟨rfl, rfl⟩ := HB.out (by unfold Ri.okR; simp; omega)
        go_wp2_with fail
        go_ret2
        exact ⟨_, rfl, Sl.nil _ _, HBL.out _⟩
      · by_cases h1 : x ≤ en
        · obtain ⟨rfl, rfl⟩ := HB.out (by unfold Ri.okR; simp; omega)
          go_wp2_with fail
          go_ret2
          exact ⟨_, rfl, Sl.nil _ _, HBL.out _⟩
        · by_cases h2 : 1073741824 < x
          · obtain ⟨rfl, rfl⟩ := HB.out (by unfold Ri.okR; simp; omega)
            go_wp2_with fail
            go_ret2
            exact ⟨_, rfl, Sl.nil _ _, HBL.out _⟩
          · by_cases h3 : 1073741824 - x < y - 1
            · obtain ⟨rfl, rfl⟩ := HB.out (by unfold Ri.okR; simp; omega)
              go_wp2_with fail
              go_ret2
              exact ⟨_, rfl, Sl.nil _ _, HBL.out _⟩
            · have HT2 := Lib.hid (HT.out (by unfold Ri.okR; simp; omega))
              clear HT HB
              go_wp2_with fail
              go_roundw
              case rel => exact ⟨k + 1, x + y, min (to + y) 4097, by go_num, by omega, rfl, by congr 1; split <;> omega, HT2.out, by omega, by omega, HBL.out _⟩
              case measure => simp [intOf]; omega
    · obtain rfl : k = rs.length := by omega
      rw [List.take_length] at HK
      by_cases hbig : 4096 < to
      · obtain ⟨rfl, rfl⟩ : l = [] ∧ c = 6 := by
          have h := HR.out
          obtain ⟨h1, _, h2⟩ := HK.out
          unfold Ri.indices at h
          rw [if_pos h1, if_neg (by omega)] at h
          exact ⟨(Prod.mk.inj h).1.symm, (Prod.mk.inj h).2.symm⟩
        go_wp2_with fail
        go_ret2
        exact ⟨_, rfl, Sl.nil _ _, hbl⟩
      · have HE : Hid (l = Ri.flat rs ∧ c = 0 ∧ (Ri.flat rs).length ≤ 4096 ∧ Ri.okRs (-1) rs = true) := by
          have h := HR.out
          obtain ⟨h1, _, h2⟩ := HK.out
          have hft := Ri.flat_total h1
          unfold Ri.indices at h
          rw [if_pos h1, if_pos (by omega)] at h
          exact ⟨(Prod.mk.inj h).1.symm, (Prod.mk.inj h).2.symm, by omega, h1⟩
        obtain ⟨rfl⟩ : c = 0 := HE.out.2.1
        have HMEM := Lib.hid (Ri.okRs_mem rs _ HE.out.2.2.2)
        have HFL := Lib.hid (fun k => Nat.le_trans (Ri.flat_take_le rs k) HE.out.2.2.1)
        clear HK
        go_wp2_with fail
        go_loopw [8, 10, 56] (fun s8 _ s56 wr => ∃ (k : Nat) (a8 : Option Addr) (c8 : Nat) (L : List Int), s56 = .int .i64 k ∧ k ≤ rs.length ∧ s8 = .slice a8 L.length c8 ∧ Hid (L = Ri.flat (rs.take k)) ∧ wr.ownsRow w.heap.size 3 1 (.slice a8 L.length c8) L.length (L.map (Value.int .i64)) ∧ Below w.heap.size w wr) (fun _ _ s56 _ => rs.length - (intOf s56).toNat)
        case atStart => exact ⟨0, none, 0, [], rfl, Nat.zero_le _, rfl, rfl, ⟨by simp, .inl ⟨rfl, rfl⟩⟩, hbl⟩
        case round =>
          obtain ⟨k, a8, c8, L, rfl, hk2, rfl, HL, hO, hbq⟩ := hrel
          by_cases hlt : k < rs.length
          · obtain ⟨b, off, rfl, hb, hcs⟩ := (hrd.below hbq (Nat.le_refl _)).form (by omega)
            have hc0 : _ = some (Value.int .i64 rs[k].1) := hcs k hlt 0 (by omega)
            have hc1 : _ = some (Value.int .i64 rs[k].2) := hcs k hlt 1 (by omega)
            rw [Nat.add_zero] at hc0
            have f1 : (0 : Int) ≤ (k : Int) := by omega
            have f2 : (k : Int) < (rs.length : Int) := by omega
            have hmk := HMEM.out _ (List.getElem_mem hlt)
            have HFS : Hid (Ri.flat (rs.take (k + 1)) = Ri.flat (rs.take k) ++ Ri.expand (rs[k].1, rs[k].2)) := Ri.flat_step hlt
            generalize rs[k].1 = x at *
            generalize rs[k].2 = y at *
            obtain ⟨n, rfl⟩ := Int.eq_ofNat_of_zero_le (by omega : 0 ≤ y)
            have hsz := hbq.size
            have hO2 := hO.alloc (.cells #[.int .i64 x, .int .i64 n] 53 (0, 0))
            have hbq2 := hbq.alloc hbq.size (.cells #[.int .i64 x, .int .i64 n] 53 (0, 0))
            have hnb : (wr.alloc (.cells #[.int .i64 x, .int .i64 n] 53 (0, 0))).heap[wr.heap.size]? = some (.cells #[.int .i64 x, .int .i64 n] 53 (0, 0)) := heap_alloc_new _ _
            have hne : (Value.slice a8 L.length c8).ownBlock ≠ some wr.heap.size := fun e => by have := (hO.lt _ e).2; omega
            have hLn : L.length + n ≤ 4096 := by
              have := HFL.out (k + 1)
              rw [HFS.out, List.length_append, Ri.expand_len, ← HL.out] at this
              exact this
            clear hcs hO hc
            go_wp2_with fail
            have hcx : (wr.alloc (.cells #[.int .i64 x, .int .i64 n] 53 (0, 0))).cell? ⟨wr.heap.size, 0, none⟩ = some (.int .i64 x) := by rw [cell_of_row _ _ _ _ _ _ hnb]; rfl
            have hBs : wr.heap.size < (wr.alloc (.cells #[.int .i64 x, .int .i64 n] 53 (0, 0))).heap.size := by simp
            clear hnb hrd HMEM HFL hc0 hc1
            generalize wr.heap.size = B at *
            go_loopw [8, 11, 62] (fun s8 _ s62 wt => ∃ (j : Nat) (a9 : Option Addr) (c9 : Nat) (M : List Int), s62 = .int .i64 j ∧ j ≤ n ∧ s8 = .slice a9 M.length c9 ∧ Hid (M = L ++ Ri.expand (x, (j : Int))) ∧ M.length = L.length + j ∧ wt.ownsRow w.heap.size 3 1 (.slice a9 M.length c9) M.length (M.map (Value.int .i64)) ∧ (Value.slice a9 M.length c9).ownBlock ≠ some B ∧ wt.cell? ⟨B, 0, none⟩ = some (.int .i64 x) ∧ B < wt.heap.size ∧ Below w.heap.size w wt) (fun _ _ s62 _ => n - (intOf s62).toNat)
            case atStart => exact ⟨0, a8, c8, L, rfl, Nat.zero_le _, rfl, (by show _ = _; simp [Ri.expand]), rfl, hO2, hne, hcx, hBs, hbq2⟩
            case round =>
              obtain ⟨j, a9, c9, M, rfl, hj, rfl, HM, hMl, hO3, hne3, hcx3, hBs3, hb3⟩ := hrel
              by_cases hlt2 : j < n
              · have HM2 : Hid (M ++ [x + j] = L ++ Ri.expand (x, ((j + 1 : Nat) : Int))) := by
                  show _ = _
                  rw [Ri.expand_succ, ← List.append_assoc, ← HM.out]
                go_wp2_with (at_builtin; refine wpList_append_rd (Value.int .i64) (fun _ => rfl) rfl _ _ 32 rfl w.heap.size 3 i0 (.int .i64 0) 8 Try.underlying32 hi hz0 hz1 hz2 rfl _ M.length M rfl (hO3.alloc _) (some ⟨wr.heap.size, 0, none⟩) 1 [x + j] 1 rfl rfl (by simp) (by omega) (Rd.one _ _ _ _ _) (by unfold maxLen; omega) (by omega) (by have := hb3.size; simp; omega) ?_; intro v2 w2 ho2 hs2 hb2; obtain ⟨a2, c2, rfl⟩ := own_slice2 ho2)
                have hbl2 := (hb3.alloc hb3.size (.cells #[.int .i64 (x + j)] 3 (0, 0))).trans hb2
                have hsB := hs2 B (by simp; omega) hne3
                have hcx4 : w2.cell? ⟨B, 0, none⟩ = some (.int .i64 x) := by
                  rw [World.cell?_of_block (a := ⟨B, 0, none⟩) (hsB.1.trans (heap_alloc_old _ _ hBs3))]; exact hcx3
                have hB4 : B < w2.heap.size := by
                  have h := hsB.1
                  have h3 : B < (wr.alloc (.cells #[.int .i64 (x + j)] 3 (0, 0))).heap.size := by simp; omega
                  rw [Array.getElem?_eq_getElem h3] at h
                  exact (Array.getElem?_eq_some_iff.1 h).1
                clear hs2 hb2
                go_roundw
                case rel => exact ⟨j + 1, a2, c2, M ++ [x + j], by go_num, by omega, by rw [List.length_append, hMl]; rfl, HM2, by rw [List.length_append]; show M.length + 1 = _; omega, by rw [List.length_append]; exact ho2, by rw [List.length_append]; exact hsB.2, hcx4, hB4, hbl2⟩
                case measure => simp [intOf]; omega
              · obtain rfl : j = n := by omega
                go_wp2_with fail
                go_roundw
                case rel => exact ⟨k + 1, a9, c9, M, by go_num, by omega, rfl, by show _ = _; rw [HFS.out, ← HL.out]; exact HM.out, hO3, hb3⟩
                case measure => simp [intOf]; omega
          · obtain rfl : k = rs.length := by omega
            have HS : Hid (Sl (Value.int .i64) wr (.slice a8 L.length c8) l) := by
              have : L = l := by rw [HL.out, List.take_length, HE.out.1]
              subst this
              exact Sl.ofOwn hO
            clear hO
            go_wp2
            go_ret2
            exact ⟨_, rfl, HS.out, hbq⟩
end Go.Proofs.Ytnmplcnnpkbomaa
