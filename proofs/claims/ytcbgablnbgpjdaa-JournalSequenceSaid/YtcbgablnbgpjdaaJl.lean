/-
  The walks of Empty of the reference and of Valid of both.
-/
import Derived.Test.YtcbgablnbgpjdaaJk
import Derived.Test.YtcbgablnbgpjdaaPa
import Derived.Test.YtcbgablnbgpjdaaMapB
import Derived.Test.YtcbgablnbgpjdaaConv
namespace Go.Proofs.Ytcbgablnbgpjdaa
open Go.RowKit

set_option maxHeartbeats 800000 in
theorem rempty_w (seq : Int) (h0 : -9223372036854775808 ≤ seq) (h1 : seq ≤ 9223372036854775807) (w : World) : Calls Try.prog 26 #[.int .i64 seq] w fun e w' =>
    ∃ v, e = .returned (.tuple #[v, .int .i64 (Jr.empty seq).2]) ∧ w'.ownsRow w.heap.size 5 1 v (Jr.empty seq).1.length ((Jr.empty seq).1.map eb) ∧ Below w.heap.size w w' := by
  have HH := Lib.hid (rheader_w seq (ls := []) (sl := []) (Wp.nil (w := w)) (by simp) (Sl.nil eb w) (by simp))
  by_cases f1 : seq < 0
  · have e : Jr.empty seq = ([], 2) := if_pos (Or.inl f1)
    rw [e]
    go_enter Try.func26, Try.ntmps26
    go_wp2
    go_ret2
    exact ⟨_, rfl, World.ownsRow_nil _ _ _ _, Below.refl _ _⟩
  · by_cases f2 : 4294967295 < seq
    · have e : Jr.empty seq = ([], 2) := if_pos (Or.inr f2)
      rw [e]
      have f3 : 0 ≤ seq := by omega
      go_enter Try.func26, Try.ntmps26
      go_wp2
      go_ret2
      exact ⟨_, rfl, World.ownsRow_nil _ _ _ _, Below.refl _ _⟩
    · have e : Jr.empty seq = (Jr.idle seq, 0) := if_neg (by omega)
      rw [e]
      have f3 : 0 ≤ seq := by omega
      have f4 : seq ≤ 4294967295 := by omega
      go_enter Try.func26, Try.ntmps26
      go_wp2_with (go_at_call 33; refine HH.out.mono ?_; rintro e w1 ⟨v1, rfl, ho1, hb1⟩)
      go_ret2
      refine ⟨_, rfl, ?_, hb1⟩
      rw [show (Jr.idle seq).length = 128 from Jr.mk_len _ _ _ _]
      exact ho1

theorem Try.zeroBool (w : World) : (zeroValue 4).run Try.prog w = .ok (.bool false) w := by kernel_rfl
theorem drewN_low (w : World) (q : Nat) : Below w.heap.size w (w.drewN q) := ⟨rfl, rfl, rfl, Nat.le_refl _, fun _ _ => rfl⟩
theorem hid_and {p q : Prop} (h : p) (k : q) : Hid (p ∧ q) := ⟨h, k⟩

set_option maxRecDepth 100000 in
set_option maxHeartbeats 1600000 in
theorem jvalid_w {v : Value} {ls : List Jr.Wr} {w : World} (hv : Wp w v ls) (hl : ls.length ≤ 1000) : Calls Try.prog 19 #[v] w fun e w' => e = .returned (.bool (Jr.valid ls)) ∧ Below w.heap.size w w' := by
  obtain ⟨a, cap, rfl, h1, h2, h3, hop⟩ := hv.open
  have HOP := Lib.hid hop
  have HVN := Lib.hid (fun k (hk : k < ls.length) (h : Jr.good ls[k] = false) => Jr.valid_good hk h)
  have HVT := Lib.hid (fun k (hk : k < ls.length) (h : ls[k].1 ∈ (ls.take k).map Prod.fst) => Jr.valid_twice hk h)
  have HVY : Hid ((∀ i (h : i < ls.length), Jr.good ls[i] = true ∧ ls[i].1 ∉ (ls.take i).map Prod.fst) → Jr.valid ls = (decide (1 ≤ ls.length) && decide (ls.length ≤ 11))) := Lib.hid Jr.valid_yes
  have HM0 : Hid (Mb Try.prog 3 4 (w.alloc (.map #[] 0)) w.heap.size 0 (Jr.met ls 0)) := (Mb.made w Try.prog 3 4).as fun x _ => (Jr.met_zero ls x).symm
  have HB0 : Hid (Below w.heap.size w (w.alloc (.map #[] 0))) := low_alloc _ _
  have hmm := @run_makeMap Try.prog
  generalize Jr.valid ls = r at *
  clear hv hop
  go_enter Try.func19, Try.ntmps19
  go_wp2
  clear hmm
  go_loopw [5, 9] (fun _ i wr => ∃ k : Nat, i = .int .i64 k ∧ k ≤ ls.length ∧ Mb Try.prog 3 4 wr w.heap.size k (Jr.met ls k) ∧ Hid (∀ i (h : i < ls.length), i < k → Jr.good ls[i] = true ∧ ls[i].1 ∉ (ls.take i).map Prod.fst) ∧ Below w.heap.size w wr) (fun _ i _ => ls.length - (intOf i).toNat)
  case atStart => exact ⟨0, rfl, Nat.zero_le _, HM0.out, fun i _ h => absurd h (Nat.not_lt_zero _), HB0.out⟩
  case round =>
    obtain ⟨k, rfl, hk, hmb, HN, hbl⟩ := hrel
    by_cases hlt : k < ls.length
    · obtain ⟨b, off, a', c', rfl, hbw, ⟨x0, x1⟩, -⟩ := HOP.out k hlt
      have y0 : wr.cell? ⟨b, off + k * 2, none⟩ = some (.int .i64 ls[k].1) := by rw [hbl.cell (p := ⟨b, off + k * 2, none⟩) hbw]; exact x0
      have y1 : wr.cell? ⟨b, off + k * 2 + 1, none⟩ = some (.slice a' ls[k].2.length c') := by rw [hbl.cell (p := ⟨b, off + k * 2 + 1, none⟩) hbw]; exact x1
      have f1 : (0 : Int) ≤ (k : Int) := by omega
      have f2 : (k : Int) < (ls.length : Int) := by omega
      have hbs := hbl.size
      have HBL := Lib.hid hbl
      have hvn := HVN.out k hlt
      have hvt := HVT.out k hlt
      have HMS := Lib.hid (Jr.met_step ls k hlt)
      have HMB := Lib.hid hmb
      have hgood : Jr.good ls[k] = (Jr.home ls[k].1 && decide (ls[k].2.length = 128)) := rfl
      have HNX : Hid (Jr.good ls[k] = true → ls[k].1 ∉ (ls.take k).map Prod.fst → ∀ i (h : i < ls.length), i < k + 1 → Jr.good ls[i] = true ∧ ls[i].1 ∉ (ls.take i).map Prod.fst) := fun g1 g2 i h hi => by
        by_cases e : i = k
        · subst e; exact ⟨g1, g2⟩
        · exact HN.out i h (by omega)
      have hmet : Jr.met ls k ls[k].1 = decide (ls[k].1 ∈ (ls.take k).map Prod.fst) := rfl
      have hwf : Jr.home ls[k].1 = true → (Lit.int .i64 ls[k].1).wf = true := fun h => by
        unfold Jr.home at h
        simp only [Bool.and_eq_true, decide_eq_true_eq] at h
        exact WalkArith.wf_i64 (by omega)
      clear x0 x1 hbl hmb
      generalize ls[k].1 = n at *
      generalize ls[k].2.length = m at *
      generalize Jr.good ls[k] = g at *
      have HJH := Lib.hid (fun W => jhome_w n W)
      cases hh : Jr.home n with
      | false =>
        rw [hh] at HJH
        have HR := Lib.hid (hvn (by rw [hgood, hh, Bool.false_and]))
        clear hvn hvt hgood hmet hwf hh
        go_wp2_with (go_at_call 39; (with_reducible refine (HJH.out _).mono ?_); rintro e w1 ⟨rfl, rfl⟩)
        go_ret
        exact ⟨ret_bool HR.out.symm, HBL.out.alloc hbs _⟩
      | true =>
        rw [hh] at HJH
        have HWF := Lib.hid (hwf hh)
        have hlk : ∀ o, (Instr.lookup 73 (.map (some w.heap.size)) (.int .i64 n) false).run Try.prog (wr.alloc o) = .ok (.bool (Jr.met ls k n)) (wr.alloc o) := fun o => (HMB.out.alloc o).look Try.underlying3 Try.underlying73 Try.underlying4 (Try.zeroBool _) HWF.out
        cases hm : Jr.met ls k n with
        | true =>
          rw [hm] at hlk
          have HR := Lib.hid (hvt (by rw [hmet] at hm; simpa using hm))
          clear hvn hvt hgood hmet hwf hh hm
          go_wp2_with (first | (go_at_call 39; (with_reducible refine (HJH.out _).mono ?_); rintro e w1 ⟨rfl, rfl⟩))
          go_ret
          exact ⟨ret_bool HR.out.symm, HBL.out.alloc hbs _⟩
        | false =>
          rw [hm] at hlk
          by_cases h128 : m = 128
          · have HR := Lib.hid (HNX.out (by rw [hgood, hh, Bool.true_and]; simpa using h128) (by rw [hmet] at hm; simpa using hm))
            have f3 : ((m : Int) != 128) = false := by rw [h128]; rfl
            have f4 : (m : Int) = 128 := by omega
            clear hvn hvt hgood hmet hwf hh hm h128
            go_wp2_with (first | (go_at_call 39; (with_reducible refine (HJH.out _).mono ?_); rintro e w1 ⟨rfl, rfl⟩) | (at_mapUpdate; refine wpList_update_mb rfl _ _ _ 73 rfl 3 4 Try.underlying3 Try.underlying73 Try.underlying4 w.heap.size k (Jr.met ls k) rfl (HMB.out.alloc _) (by unfold maxLen; omega) n rfl HWF.out true rfl ?_; intro w3 hmb3 hg3))
            go_roundw
            case rel => exact ⟨k + 1, by go_num, by omega, hmb3.as fun x _ => HMS.out x, HR.out, (HBL.out.alloc hbs _).trans (below_of_grown hg3 (Nat.le_refl _) (by simp; omega))⟩
            case measure => simp [intOf]; omega
          · have HR := Lib.hid (hvn (by rw [hgood, decide_eq_false h128, Bool.and_false]))
            have f3 : ((m : Int) != 128) = true := by rw [bne_iff_ne]; omega
            clear hvn hvt hgood hmet hwf hh hm h128
            go_wp2_with (first | (go_at_call 39; (with_reducible refine (HJH.out _).mono ?_); rintro e w1 ⟨rfl, rfl⟩))
            go_ret
            exact ⟨ret_bool HR.out.symm, HBL.out.alloc hbs _⟩
    · obtain rfl : k = ls.length := by omega
      have HR := Lib.hid (HVY.out fun i h => HN.out i h h)
      have HBL := Lib.hid hbl
      clear hmb hbl
      by_cases g1 : 1 ≤ ls.length
      · by_cases g2 : ls.length ≤ 11
        · go_wp2
          go_ret
          exact ⟨ret_bool (by rw [HR.out]; simp [g1, g2] <;> omega), HBL.out⟩
        · go_wp2
          go_ret
          exact ⟨ret_bool (by rw [HR.out]; simp [g1, g2] <;> omega), HBL.out⟩
      · go_wp2
        go_ret
        exact ⟨ret_bool (by rw [HR.out]; simp [g1]), HBL.out⟩

set_option maxRecDepth 100000 in
set_option maxHeartbeats 3200000 in
theorem rvalid_w {v : Value} {ls : List Jr.Wr} {w : World} (hv : Wp w v ls) (hl : ls.length ≤ 1000) : Calls Try.prog 20 #[v] w fun e w' => e = .returned (.bool (Jr.valid ls)) ∧ Below w.heap.size w w' := by
  obtain ⟨a, cap, rfl, h1, h2, h3, hop⟩ := hv.open
  have HOP := Lib.hid hop
  have HVN := Lib.hid (fun k (hk : k < ls.length) (h : Jr.good ls[k] = false) => Jr.valid_good hk h)
  have HVT := Lib.hid (fun k (hk : k < ls.length) (h : ls[k].1 ∈ (ls.take k).map Prod.fst) => Jr.valid_twice hk h)
  have HVY : Hid ((∀ i (h : i < ls.length), Jr.good ls[i] = true ∧ ls[i].1 ∉ (ls.take i).map Prod.fst) → Jr.valid ls = (decide (1 ≤ ls.length) && decide (ls.length ≤ 11))) := Lib.hid Jr.valid_yes
  generalize Jr.valid ls = r at *
  clear hv hop
  go_enter Try.func20, Try.ntmps20
  go_wp2
  go_loopw [3, 4] (fun i _ wr => ∃ k : Nat, i = .int .i64 k ∧ k ≤ ls.length ∧ Hid (∀ i (h : i < ls.length), i < k → Jr.good ls[i] = true ∧ ls[i].1 ∉ (ls.take i).map Prod.fst) ∧ Below w.heap.size w wr) (fun i _ _ => ls.length - (intOf i).toNat)
  case atStart => exact ⟨0, rfl, Nat.zero_le _, fun i _ h => absurd h (Nat.not_lt_zero _), Below.refl _ _⟩
  case round =>
    obtain ⟨k, rfl, hk, HN, hbl⟩ := hrel
    by_cases hlt : k < ls.length
    · obtain ⟨b, off, a', c', rfl, hbw, ⟨x0, x1⟩, -⟩ := HOP.out k hlt
      have y0 : wr.cell? ⟨b, off + k * 2, none⟩ = some (.int .i64 ls[k].1) := by rw [hbl.cell (p := ⟨b, off + k * 2, none⟩) hbw]; exact x0
      have y1 : wr.cell? ⟨b, off + k * 2 + 1, none⟩ = some (.slice a' ls[k].2.length c') := by rw [hbl.cell (p := ⟨b, off + k * 2 + 1, none⟩) hbw]; exact x1
      have f1 : (0 : Int) ≤ (k : Int) := by omega
      have f2 : (k : Int) < (ls.length : Int) := by omega
      have HBL := Lib.hid hbl
      have hvn := HVN.out k hlt
      have HVK := Lib.hid (HVT.out k hlt)
      have hgood : Jr.good ls[k] = (Jr.home ls[k].1 && decide (ls[k].2.length = 128)) := rfl
      have HNX : Hid (Jr.good ls[k] = true → ls[k].1 ∉ (ls.take k).map Prod.fst → ∀ i (h : i < ls.length), i < k + 1 → Jr.good ls[i] = true ∧ ls[i].1 ∉ (ls.take i).map Prod.fst) := fun g1 g2 i h hi => by
        by_cases e : i = k
        · subst e; exact ⟨g1, g2⟩
        · exact HN.out i h (by omega)
      have HCX : Hid (∀ (j : Nat) (hj : j < ls.length), Below w.heap.size w wr → wr.cell? ⟨b, off + j * 2, none⟩ = some (.int .i64 ls[j].1)) := fun j hj hb => by
        obtain ⟨b2, off2, a2', c2', e, hbw2, ⟨q0, -⟩, -⟩ := HOP.out j hj
        simp only [Option.some.injEq, Addr.mk.injEq, and_true] at e
        obtain ⟨rfl, rfl⟩ := e
        rw [hb.cell (p := ⟨b, off + j * 2, none⟩) hbw2]
        exact q0
      clear x0 x1 hbl
      have HMK : Hid (∀ j (hj : j < ls.length), j < k → ls[j].1 = ls[k].1 → ls[k].1 ∈ (ls.take k).map Prod.fst) := fun j hj hjk e => by
        rw [← e]
        exact List.mem_map.2 ⟨ls[j], List.mem_take_iff_getElem.2 ⟨j, by omega, rfl⟩, rfl⟩
      have HMN : Hid ((∀ j (hj : j < ls.length), j < k → ls[j].1 ≠ ls[k].1) → ls[k].1 ∉ (ls.take k).map Prod.fst) := fun h hm => by
        obtain ⟨x, hx, e⟩ := List.mem_map.1 hm
        obtain ⟨j, hj, rfl⟩ := List.mem_take_iff_getElem.1 hx
        exact h j (by omega) (by omega) e
      generalize hn : ls[k].1 = n at *
      generalize ls[k].2.length = m at *
      generalize Jr.good ls[k] = g at *
      have HNE := Lib.hid hn
      clear hn
      have hbad : n < 0 ∨ 96 ≤ n ∨ (1 ≤ n ∧ n ≤ 12) ∨ m ≠ 128 → r = false := fun h => hvn (by
        rw [hgood, Bool.and_eq_false_iff, decide_eq_false_iff_not]
        rcases h with h | h | h | h
        · left; unfold Jr.home; simp; omega
        · left; unfold Jr.home; simp; omega
        · left; unfold Jr.home; simp; omega
        · exact .inr h)
      by_cases c1 : n < 0
      · have HR := Lib.hid (hbad (.inl c1))
        clear hbad hvn hgood
        go_wp2_with fail
        go_ret
        exact ⟨ret_bool HR.out.symm, HBL.out⟩
      · by_cases c2 : 96 ≤ n
        · have HR := Lib.hid (hbad (.inr (.inl c2)))
          clear hbad hvn hgood
          go_wp2_with fail
          go_ret
          exact ⟨ret_bool HR.out.symm, HBL.out⟩
        · by_cases c3 : 1 ≤ n ∧ n ≤ 12
          · have HR := Lib.hid (hbad (.inr (.inr (.inl c3))))
            obtain ⟨c4, c5⟩ := c3
            clear hbad hvn hgood
            go_wp2_with fail
            go_ret
            exact ⟨ret_bool HR.out.symm, HBL.out⟩
          · have c6 : n < 1 ∨ 12 < n := by omega
            by_cases c7 : m = 128
            · have hg : g = true := by
                rw [hgood, Bool.and_eq_true, decide_eq_true_eq]
                refine ⟨?_, c7⟩
                unfold Jr.home
                simp
                omega
              have HG := Lib.hid hg
              have f3 : ((m : Int) != 128) = false := by rw [c7]; rfl
              have f4 : (m : Int) = 128 := by omega
              clear hbad hvn hgood c3 c7 hg
              rcases c6 with c6 | c6
              all_goals
                go_wp2_with fail
                obtain ⟨wo, rfl⟩ : ∃ wo : World, wo = wr := ⟨_, rfl⟩
                go_loopw [4] (fun s4 w5 => ∃ j : Nat, s4 = .int .i64 j ∧ j ≤ k ∧ Hid (∀ i (hi : i < ls.length), i < j → ls[i].1 ≠ n) ∧ Below w.heap.size w w5) (fun s4 _ => k - (intOf s4).toNat)
                case atStart => exact ⟨0, rfl, Nat.zero_le _, fun i _ h => absurd h (Nat.not_lt_zero _), HBL.out⟩
                case round =>
                  obtain ⟨j, rfl, hj, HNJ, hbl5⟩ := hrel
                  by_cases hjk : j < k
                  · have HB5 := Lib.hid hbl5
                    have z0 : wr.cell? ⟨b, off + j * 2, none⟩ = some (.int .i64 (ls[j]'(by omega)).1) := by
                      obtain ⟨b2, off2, a2', c2', e, hbw2, ⟨q0, -⟩, -⟩ := HOP.out j (by omega)
                      simp only [Option.some.injEq, Addr.mk.injEq, and_true] at e
                      obtain ⟨rfl, rfl⟩ := e
                      rw [hbl5.cell (p := ⟨b, off + j * 2, none⟩) hbw2]
                      exact q0
                    have z1 : wr.cell? ⟨b, off + k * 2, none⟩ = some (.int .i64 n) := by
                      obtain ⟨b2, off2, a2', c2', e, hbw2, ⟨q0, -⟩, -⟩ := HOP.out k (by omega)
                      simp only [Option.some.injEq, Addr.mk.injEq, and_true] at e
                      obtain ⟨rfl, rfl⟩ := e
                      rw [hbl5.cell (p := ⟨b, off + k * 2, none⟩) hbw2, q0, HNE.out]
                    have f5 : (0 : Int) ≤ (j : Int) := by omega
                    have f6 : (j : Int) < (ls.length : Int) := by omega
                    have hmk := HMK.out j (by omega) hjk
                    have hnj : (ls[j]'(by omega)).1 ≠ n → ∀ i (hi : i < ls.length), i < j + 1 → ls[i].1 ≠ n := fun h i hi hij => by
                      by_cases e : i = j
                      · subst e; exact h
                      · exact HNJ.out i hi (by omega)
                    clear y0 y1 hbl5
                    generalize (ls[j]'(by omega)).1 = n' at *
                    by_cases he : n' = n
                    · have HR := Lib.hid (HVK.out (hmk he))
                      have hq : (n' == n) = true := by simp [he]
                      clear hmk hnj he
                      go_wp2_with fail
                      go_quiet (fail)
                      go_wp2
                      go_ret
                      exact ⟨ret_bool HR.out.symm, by first | exact HB5.out.trans ((drewN_low _ _).mono HB5.out.size) | exact HB5.out.drew⟩
                    · have HR := Lib.hid (hnj he)
                      have hq : (n' == n) = false := by simp [he]
                      clear hmk hnj he
                      go_wp2_with fail
                      go_quiet (fail)
                      go_wp2
                      go_roundw
                      case rel => exact ⟨j + 1, by go_num, by omega, HR.out, by first | exact HB5.out.trans ((drewN_low _ _).mono HB5.out.size) | exact HB5.out.drew⟩
                      case measure => simp [intOf]; omega
                  · obtain rfl : j = k := by omega
                    have HR := Lib.hid (HNX.out HG.out (HMN.out HNJ.out))
                    have HB5 := Lib.hid hbl5
                    clear y0 y1 hbl5
                    go_wp2_with fail
                    go_roundw
                    case rel => exact ⟨j + 1, by go_num, by omega, HR.out, HB5.out⟩
                    case measure => simp [intOf]; omega
            · have HR := Lib.hid (hbad (.inr (.inr (.inr c7))))
              have f3 : ((m : Int) != 128) = true := by rw [bne_iff_ne]; omega
              clear hbad hvn hgood c3 c7
              rcases c6 with c6 | c6
              all_goals
                go_wp2_with fail
                go_ret
                exact ⟨ret_bool HR.out.symm, HBL.out⟩
    · obtain rfl : k = ls.length := by omega
      have HR := Lib.hid (HVY.out fun i h => HN.out i h h)
      have HBL := Lib.hid hbl
      clear hbl
      by_cases g1 : 1 ≤ ls.length
      · by_cases g2 : ls.length ≤ 11
        · go_wp2
          go_ret
          exact ⟨ret_bool (by rw [HR.out]; simp [g1, g2] <;> omega), HBL.out⟩
        · go_wp2
          go_ret
          exact ⟨ret_bool (by rw [HR.out]; simp [g1, g2] <;> omega), HBL.out⟩
      · go_wp2
        go_ret
        exact ⟨ret_bool (by rw [HR.out]; simp [g1]), HBL.out⟩
end Go.Proofs.Ytcbgablnbgpjdaa
