/-
  The walks of frames.Used, of the reference's Used and New.
-/
import Derived.Test.YtkgheilaleekdaaFew
import Derived.Test.YtkgheilaleekdaaEq
import Derived.Test.YtkgheilaleekdaaCopied
namespace Go.Proofs.Ytkgheilaleekdaa
open Go.RowKit

/-- An index as a value. -/
def ei (n : Nat) : Value := .int .i64 (n : Int)

theorem Try.info3 : (Try.prog.info? 3).map (fun i => (i.zero, i.size, i.bytes)) = some (some (.int .i64 0), 1, 8) := by kernel_rfl

/-- A list of indices reads as a list of integers. -/
theorem Sl.ints {w : World} {v : Value} {l : List Nat} (h : Sl ei w v l) : Sl (Value.int .i64) w v (l.map fun n : Nat => (n : Int)) := by
  obtain ⟨a, cap, h1, h2, h3, h4, h5⟩ := h
  refine ⟨a, cap, by simpa using h1, by simpa using h2, h3, h4, fun i hi => ?_⟩
  obtain ⟨b, off, ha, hlt, hc⟩ := h5 i (by simpa using hi)
  exact ⟨b, off, ha, hlt, by rw [hc]; simp [ei]⟩

set_option maxHeartbeats 400000 in
theorem fused1_w (x : UInt8) (w : World) : Calls Try.prog 40 #[eb x] w fun e w' => e = .returned (.bool (x != 0)) ∧ w = w' := by
  have hx : ((x.toNat : Int) != 0) = (x != 0) := by
    rw [Bool.eq_iff_iff, bne_iff_ne, bne_iff_ne]
    constructor
    · rintro h rfl; exact h rfl
    · intro h e; exact h (UInt8.toNat_inj.1 (by simpa using e))
  unfold eb
  rw [← hx]
  clear hx
  go_enter Try.func40, Try.ntmps40
  go_wp2
  go_ret
  exact ⟨rfl, rfl⟩

/-- slices.ContainsFunc of a page: some byte is not 0. -/
theorem anyByte_w {v : Value} {p : List UInt8} {w : World} (hv : Sl eb w v p) :
    Calls Try.prog 39 #[v, .func (.func 40) #[] #[]] w fun e w' => e = .returned (.bool (p.any (· != 0))) ∧ w = w' := by
  obtain ⟨a, cap, rfl, hc, hcm, hna, hrd⟩ := hv
  unfold maxLen at hcm
  have eg := enters_of Try.func40 (by kernel_rfl) rfl
  refine (containsFunc_by eb a cap p 40 #[] (fun k => (p.getD k 0) != 0) (fun _ W => w = W) w (by omega) eg ?_ rfl ?_).mono ?_
  · rintro k W rfl; exact hrd
  · rintro k W hk rfl
    have e : p.getD k 0 = p[k] := by simp [List.getD, hk]
    rw [e]
    exact fused1_w _ _
  · rintro e w' ⟨h1, k, _, h2⟩
    refine ⟨?_, h2⟩
    rw [h1]
    refine ret_bool ?_
    rcases Ix.idx_cases (fun k => (p.getD k 0) != 0) p.length with ⟨_, h, hno⟩ | ⟨k, hk, _, h, hy, _⟩
    · rw [h]; symm
      rw [List.any_eq_false]
      intro x hx
      obtain ⟨i, hi, rfl⟩ := List.getElem_of_mem hx
      have := hno i hi
      simpa [List.getD, hi] using this
    · rw [h]; symm
      rw [List.any_eq_true]
      exact ⟨p[k], List.getElem_mem hk, by simpa [List.getD, hk] using hy⟩

set_option maxHeartbeats 800000 in
theorem fused_w {v : Value} {ps : List (List UInt8)} {w : World} (hv : Pg w v ps) :
    Calls Try.prog 25 #[.agg #[v]] w fun e w' => ∃ v', e = .returned v' ∧ Sl ei w' v' (Fr.used ps) ∧ Below w.heap.size w w' := by
  have HV := Lib.hid hv
  have HC : Hid (∀ w', Below w.heap.size w w' → Calls Try.prog 23 #[.agg #[v]] w' fun e w'' => e = .returned (.bool (Fr.valid ps)) ∧ Below w'.heap.size w' w'') := fun w' hb => valid_w (hv.below hb (Nat.le_refl _))
  have hB : Below w.heap.size w (w.alloc (.cells #[v] 30 (0, 0))) := (Below.refl _ _).alloc (Nat.le_refl _) _
  obtain ⟨a, cap, rfl, hcc, hcm, hna, -⟩ := hv.open
  cases hva : Fr.valid ps with
  | false =>
    have HE : Hid (Fr.used ps = []) := by show _ = _; unfold Fr.used; rw [hva]; rfl
    rw [hva] at HC
    clear hva hv
    go_enter Try.func25, Try.ntmps25
    go_wp2_with (go_at_call 23; refine (HC.out _ hB).mono ?_; rintro e w1 ⟨rfl, hb1⟩; obtain ⟨hbw1, k1⟩ := box1 hb1)
    go_ret
    rw [HE.out]
    exact ⟨_, rfl, Sl.nil _ _, hbw1⟩
  | true =>
    have HE : Hid (Fr.used ps = Fr.usedTo ps 96) := by show _ = _; unfold Fr.used; rw [if_pos hva]
    obtain ⟨hl, hpl⟩ := Fr.valid_iff.1 hva
    rw [hva] at HC
    have HL := Lib.hid hl
    obtain ⟨i0, hi, hz0, hz1, hz2⟩ := info_parts Try.info3
    unfold maxLen at hcm
    rw [hl] at HC hB ⊢
    clear hva hv hl hpl
    go_enter Try.func25, Try.ntmps25
    go_wp2_with (go_at_call 23; refine (HC.out _ hB).mono ?_; rintro e w1 ⟨rfl, hb1⟩; obtain ⟨hbw1, k1⟩ := box1 hb1)
    go_loopw [3, 4, 5, 12] (fun s3 _ _ s12 wr => ∃ (k : Nat) (a3 : Option Addr) (c3 : Nat) (L : List Nat), s12 = .int .i64 k ∧ k ≤ 96 ∧ s3 = .slice a3 L.length c3 ∧ Hid (L = Fr.usedTo ps k) ∧ L.length ≤ k ∧ wr.ownsRow w.heap.size 3 1 (.slice a3 L.length c3) L.length (L.map ei) ∧ Below w.heap.size w wr) (fun _ _ _ s12 _ => 96 - (intOf s12).toNat)
    case atStart => exact ⟨0, none, 0, [], rfl, Nat.zero_le _, rfl, rfl, Nat.le_refl _, ⟨by simp, .inl ⟨rfl, rfl⟩⟩, hbw1⟩
    case round =>
      obtain ⟨k, a3, c3, L, rfl, hk, rfl, HK, hLk, hO, hbl⟩ := hrel
      by_cases hlt : k < 96
      · have hkp : k < ps.length := by rw [HL.out]; exact hlt
        obtain ⟨b, off, a', c', rfl, hb, hck, p1, p2, p3, p4⟩ := (HV.out.below hbl (Nat.le_refl _)).el k hkp
        have HS := Lib.hid (anyByte_w (w := wr) (v := .slice a' ps[k].length c') ⟨a', c', rfl, p1, p2, p3, p4⟩)
        have HU := Lib.hid (Fr.usedTo_succ ps k)
        have hg : ps.getD k [] = ps[k] := by simp [List.getD, hkp]
        rw [hg] at HU
        have f1 : (0 : Int) ≤ (k : Int) := by omega
        have f2 : (k : Int) < 96 := by omega
        generalize ps[k].length = n at *
        generalize hany : ps[k].any (· != 0) = y at *
        clear p4 hg hany
        cases y with
        | true =>
          have HN : Hid (L ++ [k] = Fr.usedTo ps (k + 1)) := by show _ = _; rw [HU.out, HK.out]; rfl
          clear HU HK
          go_wp2_with (first
            | (go_at_call 39; refine HS.out.mono ?_; rintro e w' ⟨rfl, rfl⟩)
            | (at_builtin; refine wpList_append_rd ei (fun _ => rfl) rfl (.tmp 19) (.tmp 21) 48 rfl w.heap.size 3 i0 (.int .i64 0) 8 Try.underlying48 hi hz0 hz1 hz2 rfl _ L.length L rfl (hO.alloc _) (some ⟨wr.heap.size, 0, none⟩) 1 [k] 1 rfl rfl (by simp) (by omega) (Rd.one _ _ _ _ _) (by unfold maxLen; omega) (by omega) (by have := hbl.size; simp; omega) ?_; intro v2 w2 ho2 hs2 hb2; obtain ⟨a2, c2, rfl⟩ := own_slice ho2))
          have hbl2 := (hbl.alloc hbl.size (.cells #[.int .i64 k] 3 (0, 0))).trans hb2
          clear hs2 hb2 hO hbl
          go_roundw
          case rel => exact ⟨k + 1, a2, c2, L ++ [k], by go_num, by omega, by rw [List.length_append]; rfl, HN, by rw [List.length_append]; show L.length + 1 ≤ k + 1; omega, by rw [List.length_append]; exact ho2, hbl2⟩
          case measure => simp [intOf]; omega
        | false =>
          have HN : Hid (L = Fr.usedTo ps (k + 1)) := by show _ = _; rw [HU.out, HK.out]; simp
          clear HU HK
          go_wp2_with (go_at_call 39; refine HS.out.mono ?_; rintro e w' ⟨rfl, rfl⟩)
          go_roundw
          case rel => exact ⟨k + 1, a3, c3, L, by go_num, by omega, rfl, HN, by omega, hO, hbl⟩
          case measure => simp [intOf]; omega
      · obtain rfl : k = 96 := by omega
        have HS := Lib.hid (Sl.ofOwn hO)
        go_wp2
        go_ret
        rw [HE.out, ← HK.out]
        exact ⟨_, rfl, HS.out, hbl⟩
end Go.Proofs.Ytkgheilaleekdaa
