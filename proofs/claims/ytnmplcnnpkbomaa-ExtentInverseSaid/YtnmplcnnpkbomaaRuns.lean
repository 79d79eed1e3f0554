/-
  The walks of extent.Runs, from and SameRuns.
-/
import Derived.Test.YtnmplcnnpkbomaaLrel
import Derived.Test.YtnmplcnnpkbomaaMulti
import Derived.Test.YtnmplcnnpkbomaaRi
namespace Ri
theorem okL_take {l : List Int} {k : Nat} (hk : k < l.length) (h : okL none (l.take k) = true) (hi : okI (l.take k).getLast? l[k] = true) : okL none (l.take (k + 1)) = true := by
  rw [List.take_succ_eq_append_getElem hk, okL_app, h, Bool.true_and]
  simp [okL, hi]

theorem okL_bad {l : List Int} {k : Nat} (hk : k < l.length) (hi : okI (l.take k).getLast? l[k] = false) : okL none l = false := by
  have h1 : l = l.take k ++ l[k] :: l.drop (k + 1) := by rw [← List.drop_eq_getElem_cons hk, List.take_append_drop]
  rw [h1, okL_app, okL, hi]
  simp

theorem last_take {l : List Int} {j : Nat} (hj : j < l.length) : (l.take (j + 1)).getLast? = some l[j] := by
  rw [List.take_succ_eq_append_getElem hj, List.getLast?_append]; rfl

theorem runs_bad {l : List Int} (h : okL none l = false) : runs l = ([], 1) := by unfold runs; rw [if_neg (by simp [h])]

theorem go_take {l : List Int} {k : Nat} (hk : k < l.length) : go (l.take (k + 1)) = st (go (l.take k)) l[k] := by
  rw [List.take_succ_eq_append_getElem hk, go_snoc]

theorem bump_at {out : List Run} {m : Nat} (hm : out.length = m + 1) : bump out = out.set m (out[m].1, out[m].2 + 1) := by
  obtain ⟨t, r, rfl⟩ : ∃ t r, out = t ++ [r] := by
    rcases List.eq_nil_or_concat out with rfl | ⟨t, r, rfl⟩
    · simp at hm
    · exact ⟨t, r, List.concat_eq_append⟩
  have ht : t.length = m := by simpa using hm
  subst ht
  rw [bump_snoc]
  simp
end Ri
namespace Go.Proofs.Ytnmplcnnpkbomaa
open Go.RowKit

/-- A run as two cells. -/
def er (r : Int × Int) : List Value := [.int .i64 r.1, .int .i64 r.2]
theorem er_len (r : Int × Int) : (er r).length = 2 := rfl
theorem er_one (r : Int × Int) : ∀ u ∈ er r, u.oneCell' = true := by
  intro u hu
  simp [er] at hu
  rcases hu with rfl | rfl <;> rfl

theorem Try.infoRun : (Try.prog.info? 53).map (fun i => (i.zero, i.size, i.bytes)) = some (some (.agg #[.int .i64 0, .int .i64 0]), 2, 16) := by kernel_rfl
theorem Try.infoRRun : (Try.prog.info? 54).map (fun i => (i.zero, i.size, i.bytes)) = some (some (.agg #[.int .i64 0, .int .i64 0]), 2, 16) := by kernel_rfl

theorem own_slice2 {W : World} {base s : Nat} {e : TypeId} {v : Value} {n : Nat} {cs : List Value} (h : W.ownsRow base e s v n cs) : ∃ a c, v = .slice a n c := by
  rcases h.2 with ⟨h1, h2⟩ | ⟨g, c, _, h, _⟩
  · exact ⟨none, 0, by rw [h2]; exact h1⟩
  · exact ⟨_, c, h⟩

set_option maxRecDepth 20000 in
set_option maxHeartbeats 3200000 in
theorem runs_w {v : Value} {l : List Int} {w : World} (hv : Sl (Value.int .i64) w v l) (hm : l.length ≤ 4096) (hlo : ∀ n ∈ l, -9223372036854775808 ≤ n ∧ n ≤ 9223372036854775807) {rs : List (Int × Int)} {c : Int} (hr : Ri.runs l = (rs, c)) :
    Calls Try.prog 28 #[v] w fun e w' => ∃ v', e = .returned (.tuple #[v', .int .i64 c]) ∧ Sm 2 er w' v' rs ∧ Below w.heap.size w w' := by
  have HV := Lib.hid hv
  obtain ⟨a, cap, rfl, hc, hcm, hna, hrd⟩ := hv
  obtain ⟨i0, hi, hz0, hz1, hz2⟩ := info_parts Try.infoRun
  have HR := Lib.hid hr
  have HLO := Lib.hid hlo
  unfold maxLen at hcm
  clear hr hlo
  go_enter Try.func28, Try.ntmps28
  go_wp2
  go_loopw [4, 5, 6, 12] (fun s4 _ _ s12 wr => ∃ (k : Nat) (a4 : Option Addr) (c4 : Nat) (out : List (Int × Int)), s12 = .int .i64 k ∧ k ≤ l.length ∧ s4 = .slice a4 out.length c4 ∧ Hid (out = (Ri.go (l.take k)).1 ∧ Ri.okL none (l.take k) = true) ∧ out.length ≤ k ∧ wr.ownsRow w.heap.size 53 2 (.slice a4 out.length c4) out.length (out.flatMap er) ∧ Below w.heap.size w wr) (fun _ _ _ s12 _ => l.length - (intOf s12).toNat)
  case atStart => exact ⟨0, none, 0, [], rfl, Nat.zero_le _, rfl, ⟨rfl, rfl⟩, Nat.le_refl _, ⟨by simp, .inl ⟨rfl, rfl⟩⟩, Below.refl _ _⟩
  case round =>
    obtain ⟨k, a4, c4, out, rfl, hk, rfl, HK, hok, hO, hbl⟩ := hrel
    by_cases hlt : k < l.length
    · obtain ⟨b, off, rfl, hb, hcs⟩ := (hrd.below hbl (Nat.le_refl _)).form (by omega)
      have hck := hcs k hlt
      have f1 : (0 : Int) ≤ (k : Int) := by omega
      have f2 : (k : Int) < (l.length : Int) := by omega
      have hlk := HLO.out _ (List.getElem_mem hlt)
      have HG := Lib.hid (Ri.go_take hlt)
      have HB : Hid (Ri.okI (l.take k).getLast? l[k] = false → rs = [] ∧ c = 1) := fun h => by
        have := Ri.runs_bad (Ri.okL_bad hlt h)
        rw [HR.out] at this
        exact ⟨(Prod.mk.inj this).1, (Prod.mk.inj this).2⟩
      have HT := Lib.hid (fun h => Ri.okL_take hlt HK.out.2 h)
      have hgl := Ri.go_last (l.take k)
      have HGL := Lib.hid hgl
      clear hgl
      rcases Nat.eq_zero_or_pos k with rfl | hkp
      · have e0 : (l.take 0).getLast? = none := rfl
        rw [e0] at HB HT
        have hout : out = [] := HK.out.1
        subst hout
        have HG2 : Hid ((Ri.go (l.take (0 + 1))).1 = [(l[0], 1)]) := by show _ = _; rw [HG.out]; rfl
        rw [Nat.add_zero] at hck
        generalize he : l[0] = x at *
        clear he hcs HG HGL
        by_cases h0 : x < 0
        · obtain ⟨rfl, rfl⟩ := HB.out (by unfold Ri.okI; simp; omega)
          go_wp2_with fail
          go_ret2
          exact ⟨_, rfl, Sm.nil _, hbl⟩
        · by_cases h1 : 1073741824 < x
          · obtain ⟨rfl, rfl⟩ := HB.out (by unfold Ri.okI; simp; omega)
            go_wp2_with fail
            go_ret2
            exact ⟨_, rfl, Sm.nil _, hbl⟩
          · have HT2 := Lib.hid (HT.out (by unfold Ri.okI; simp; omega))
            go_wp2_with (at_builtin; refine wpList_append_m er er_len (by omega) er_one rfl (.tmp 58) (.tmp 61) 47 rfl w.heap.size 53 i0 (.agg #[.int .i64 0, .int .i64 0]) 16 Try.underlying47 hi hz0 hz1 hz2 rfl _ 0 [] rfl (hO.alloc _) (some ⟨wr.heap.size, 0, none⟩) 1 [(x, 1)] 1 rfl rfl (by simp) (by omega) (Rm.one (enc := er) wr (x, 1) _ _ rfl) (by unfold maxLen; omega) (by omega) (by have := hbl.size; simp; omega) ?_; intro v2 w2 ho2 hs2 hb2; obtain ⟨a2, c2, rfl⟩ := own_slice2 ho2)
            have hbl2 := (hbl.alloc hbl.size (.cells #[.int .i64 x, .int .i64 1] 53 (0, 0))).trans hb2
            clear hs2 hb2
            go_roundw
            case rel => exact ⟨0 + 1, a2, c2, [(x, 1)], by go_num, by omega, rfl, ⟨HG2.out.symm, HT2.out⟩, by simp, by simpa using ho2, hbl2⟩
            case measure => simp [intOf]; omega
      · obtain ⟨j, rfl⟩ : ∃ j, k = j + 1 := ⟨k - 1, by omega⟩
        have hj : j < l.length := by omega
        have hcj := hcs j hj
        have hlj := HLO.out _ (List.getElem_mem hj)
        have e0 := Ri.last_take hj
        rw [e0] at HB HT HGL
        generalize he : l[j + 1] = x at *
        generalize hf : l[j] = y at *
        clear he hf hcs e0
        have f3 : (0 : Int) ≤ (j : Int) := by omega
        have f4 : (j : Int) < (l.length : Int) := by omega
        by_cases h0 : x < 0
        · obtain ⟨rfl, rfl⟩ := HB.out (by unfold Ri.okI; simp; omega)
          go_wp2_with fail
          go_ret2
          exact ⟨_, rfl, Sm.nil _, hbl⟩
        · by_cases h1 : 1073741824 < x
          · obtain ⟨rfl, rfl⟩ := HB.out (by unfold Ri.okI; simp; omega)
            go_wp2_with fail
            go_ret2
            exact ⟨_, rfl, Sm.nil _, hbl⟩
          · by_cases h2 : x ≤ y
            · obtain ⟨rfl, rfl⟩ := HB.out (by unfold Ri.okI; simp; omega)
              go_wp2_with fail
              go_ret2
              exact ⟨_, rfl, Sm.nil _, hbl⟩
            · have HT2 := Lib.hid (HT.out (by unfold Ri.okI; simp; omega))
              by_cases h3 : y = x - 1
              · have b3 : (y == x - 1) = true := by rw [beq_iff_eq]; exact h3
                have hinv := Ri.inv_go _ _ rfl HK.out.2
                rw [← HK.out.1] at hinv
                have hmem := Ri.okRs_mem out _ hinv.2.1
                obtain ⟨m, hm1⟩ : ∃ m, out.length = m + 1 := by
                  cases hq : out with
                  | nil => exact absurd (hinv.2.2.2.2.1 hq) (by intro e; have := congrArg List.length e; simp at this; subst this; simp at hlt)
                  | cons p t => exact ⟨t.length, rfl⟩
                clear hinv
                obtain ⟨g, hA⟩ : ∃ g, a4 = some ⟨g, 0, none⟩ := by
                  rcases hO.2 with ⟨_, h0⟩ | ⟨g, cc, _, h0, _⟩
                  · omega
                  · injection h0 with h0; exact ⟨g, h0⟩
                subst hA
                obtain ⟨z, hz1, hz2, hcl, hfr, hHO, hHl⟩ : ∃ z : Int, 1 ≤ z ∧ z ≤ 1073741825 ∧ wr.cell? ⟨g, m * 2 + 1, none⟩ = some (.int .i64 z) ∧ wr.frozen? ⟨g, m * 2 + 1, none⟩ = false ∧
                    Hid ((wr.setCell ⟨g, m * 2 + 1, none⟩ (.int .i64 (z + 1))).ownsRow w.heap.size 53 2 (.slice (some ⟨g, 0, none⟩) out.length c4) out.length ((Ri.bump out).flatMap er)) ∧ Hid ((Ri.bump out).length = out.length) := by
                  have hml : m < out.length := by omega
                  have hz := hmem out[m] (List.getElem_mem hml)
                  refine ⟨out[m].2, hz.1, by omega, ?_, hO.frozenAt _, ?_, by show _ = _; rw [Ri.bump_at hm1, List.length_set]⟩
                  · rw [hO.cellAt _ (by omega), flat_get er_len out m 1 hml (by omega)]; rfl
                  · have h := (hO.stored (m * 2 + 1) (.int .i64 (out[m].2 + 1))).1
                    rw [← flat_set er_len out m 1 hml (out[m].1, out[m].2 + 1) _ (by omega) rfl, ← Ri.bump_at hm1] at h
                    exact h
                have hgb : w.heap.size ≤ g := (hO.lt g rfl).1
                have HG2 : Hid ((Ri.go (l.take (j + 1 + 1))).1 = Ri.bump out) := by
                  show _ = _
                  rw [HG.out]
                  unfold Ri.st
                  rw [HGL.out, if_pos (by rw [h3]), ← HK.out.1]
                clear h3 HG HGL hmem hO
                obtain rfl : m = out.length - 1 := by omega
                have hps : 0 < out.length := by omega
                clear hm1
                go_wp2_with fail
                have hbl2 := hbl.setCell (p := ⟨g, (out.length - 1) * 2 + 1, none⟩) hgb (.int .i64 (z + 1))
                go_roundw
                case rel => exact ⟨j + 1 + 1, _, c4, Ri.bump out, by go_num, by omega, by rw [hHl.out], ⟨HG2.out.symm, HT2.out⟩, by rw [hHl.out]; omega, by rw [hHl.out]; exact hHO.out, hbl2⟩
                case measure => simp [intOf]; omega
              · have b3 : (y == x - 1) = false := by rw [beq_eq_false_iff_ne]; exact h3
                have HG2 : Hid ((Ri.go (l.take (j + 1 + 1))).1 = out ++ [(x, 1)]) := by
                  show _ = _
                  rw [HG.out]
                  unfold Ri.st
                  rw [HGL.out, if_neg (fun e => h3 (by injection e)), ← HK.out.1]
                clear h3 HG HGL
                go_wp2_with (at_builtin; refine wpList_append_m er er_len (by omega) er_one rfl (.tmp 58) (.tmp 61) 47 rfl w.heap.size 53 i0 (.agg #[.int .i64 0, .int .i64 0]) 16 Try.underlying47 hi hz0 hz1 hz2 rfl _ out.length out rfl (hO.alloc _) (some ⟨wr.heap.size, 0, none⟩) 1 [(x, 1)] 1 rfl rfl (by simp) (by omega) (Rm.one (enc := er) wr (x, 1) _ _ rfl) (by unfold maxLen; omega) (by omega) (by have := hbl.size; simp; omega) ?_; intro v2 w2 ho2 hs2 hb2; obtain ⟨a2, c2, rfl⟩ := own_slice2 ho2)
                have hbl2 := (hbl.alloc hbl.size (.cells #[.int .i64 x, .int .i64 1] 53 (0, 0))).trans hb2
                clear hs2 hb2
                go_roundw
                case rel => exact ⟨j + 1 + 1, a2, c2, out ++ [(x, 1)], by go_num, by omega, by rw [List.length_append]; rfl, ⟨HG2.out.symm, HT2.out⟩, by rw [List.length_append]; show out.length + 1 ≤ j + 1 + 1; omega, by rw [List.length_append]; exact ho2, hbl2⟩
                case measure => simp [intOf]; omega
    · obtain rfl : k = l.length := by omega
      have HS := Lib.hid (Sm.ofOwn er_len hO rfl)
      have hres : rs = out ∧ c = 0 := by
        have h := HR.out
        obtain ⟨h1, h2⟩ := HK.out
        rw [List.take_length] at h1 h2
        unfold Ri.runs at h
        rw [if_pos ⟨hm, h2⟩, ← h1] at h
        exact ⟨(Prod.mk.inj h).1.symm, (Prod.mk.inj h).2.symm⟩
      obtain ⟨rfl, rfl⟩ := hres
      clear hO
      go_wp2
      go_ret2
      exact ⟨_, rfl, HS.out, hbl⟩
end Go.Proofs.Ytnmplcnnpkbomaa
