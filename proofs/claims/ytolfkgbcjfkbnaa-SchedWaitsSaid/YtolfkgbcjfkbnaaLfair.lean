/-
  SchedFair: the law's walk.
-/
import Derived.Test.YtolfkgbcjfkbnaaAwake
import Derived.Test.YtolfkgbcjfkbnaaPlain
namespace Go.Proofs.Ytolfkgbcjfkbnaa
open Go.RowKit

theorem or_u32 (a b : Nat) (ha : a < 4294967296) (hb : b < 4294967296) : bits BinOp.or IntKind.u32 (a : Int) (b : Int) = ((a ||| b : Nat) : Int) := by
  have hx : a ||| b < 2 ^ 32 := Nat.or_lt_two_pow (by omega) (by omega)
  have h1 : (BitVec.ofInt 32 (a : Int)).toNat = a := by rw [BitVec.ofInt_natCast, BitVec.toNat_ofNat]; exact Nat.mod_eq_of_lt (by omega)
  have h2 : (BitVec.ofInt 32 (b : Int)).toNat = b := by rw [BitVec.ofInt_natCast, BitVec.toNat_ofNat]; exact Nat.mod_eq_of_lt (by omega)
  show IntKind.u32.wrap ((BitVec.ofInt 32 (a : Int) ||| BitVec.ofInt 32 (b : Int)).toNat : Int) = _
  rw [BitVec.toNat_or, h1, h2, wrap_u32_in _ (by omega) (by omega)]

/-- A task's bit set among others, as the walk writes it. -/
theorem set_bit {a : Int} {t : Int} (h0 : 0 ≤ a) (h1 : a < 4294967296) (t0 : 0 ≤ t) (t1 : t < 32) :
    ∃ b : Int, bits BinOp.or IntKind.u32 a (2 ^ t.toNat % 4294967296) = b ∧ 0 ≤ b ∧ b < 4294967296 ∧ ∀ x, 0 ≤ x → x < 32 → Sq.ready b x = (Sq.ready a x || decide (t = x)) := by
  obtain ⟨a, rfl⟩ := Int.eq_ofNat_of_zero_le h0
  have hp : 2 ^ t.toNat < 4294967296 := by
    have : 2 ^ t.toNat < 2 ^ 32 := Nat.pow_lt_pow_right (by omega) (by omega)
    simpa using this
  have hx : a ||| 2 ^ t.toNat < 2 ^ 32 := Nat.or_lt_two_pow (by omega) (by simpa using hp)
  have hpc : ((2 ^ t.toNat : Nat) : Int) = (2 : Int) ^ t.toNat := by simp
  refine ⟨((a ||| 2 ^ t.toNat : Nat) : Int), ?_, by omega, by omega, fun x x0 x1 => ?_⟩
  · rw [← hpc, Int.emod_eq_of_lt (Int.natCast_nonneg _) (by omega), or_u32 a (2 ^ t.toNat) (by omega) hp]
  · rw [Sq.ready_or x0 x1, Sq.ready_pow t0 x0 x1]

set_option maxHeartbeats 1600000 in
theorem schedFair_w (v : Value) (xs : List Int) (bits : Int) (w : World) (hv : Sl (Value.int .i64) w v xs) (hb0 : 0 ≤ bits) (hb1 : bits < 4294967296) :
    Calls Try.prog 4 #[v, .int .u32 bits] w fun e w' => e = .returned (.bool true) ∧ Below w.heap.size w w' := by
  have hv' := hv
  obtain ⟨a, cap, rfl, h1, h2, h3, h4⟩ := hv'
  have HV := Lib.hid hv
  have HR := Lib.hid h4
  clear hv h3 h4
  by_cases h60 : 60 < xs.length
  · have f1 : (60 : Int) < (xs.length : Int) := by omega
    go_enter Try.func4, Try.ntmps4
    go_wp2_with fail
    refine (awake_w _).mono ?_
    rintro e w1 ⟨rfl, hb1⟩
    go_wp2_with fail
    refine (awake_w _).mono ?_
    rintro e w2 ⟨rfl, hb2⟩
    go_wp2
    go_ret
    exact ⟨rfl, hb1.trans (hb2.mono hb1.size)⟩
  · have f1 : ¬ (60 : Int) < (xs.length : Int) := by omega
    cases hval : Sq.valid xs with
    | false =>
      have HX := Lib.hid hval
      clear hval
      go_enter Try.func4, Try.ntmps4
      go_wp2_with fail
      refine (awake_w _).mono ?_
      rintro e w1 ⟨rfl, hb1⟩
      go_wp2_with fail
      refine (rvalid_sl (HV.out.below hb1 (Nat.le_refl _)) (by omega)).mono ?_
      rintro e w2 ⟨rfl, rfl⟩
      rw [HX.out]
      go_wp2_with fail
      refine (awake_w _).mono ?_
      rintro e w2 ⟨rfl, hb2⟩
      go_wp2
      go_ret
      exact ⟨rfl, hb1.trans (hb2.mono hb1.size)⟩
    | true =>
      have HX := Lib.hid hval
      clear hval
      go_enter Try.func4, Try.ntmps4
      go_wp2_with fail
      refine (awake_w _).mono ?_
      rintro e w1 ⟨rfl, hbl1⟩
      have HV1 := HV.out.below hbl1 (Nat.le_refl _)
      go_wp2_with fail
      refine (rvalid_sl HV1 (by omega)).mono ?_
      rintro e w1' ⟨rfl, rfl⟩
      rw [HX.out]
      go_wp2_with fail
      go_loop [5, 30] (fun n i => ∃ k : Nat, k ≤ xs.length ∧ i = .int .i64 k ∧ n = .int .i64 ((xs.take k).filter (Sq.ready bits)).length) (fun _ i => xs.length - (intOf i).toNat)
      case atStart => exact ⟨0, Nat.zero_le _, rfl, rfl⟩
      case round =>
        obtain ⟨k, hk, rfl, rfl⟩ := hrel
        by_cases hlt : k < xs.length
        · obtain ⟨b, off, rfl, hbb, hcell⟩ := HR.out.form (by omega)
          have hck : w1.cell? ⟨b, off + k, none⟩ = some (.int .i64 xs[k]) := by rw [hbl1.cell (p := ⟨b, off + k, none⟩) hbb]; exact hcell k hlt
          clear hcell
          have HC := ready_w bits xs[k] w1 hb0 hb1
          have hcount : ((xs.take (k + 1)).filter (Sq.ready bits)).length = ((xs.take k).filter (Sq.ready bits)).length + (if Sq.ready bits xs[k] then 1 else 0) := by
            rw [← List.take_append_getElem hlt, List.filter_append, List.length_append]
            cases h : Sq.ready bits xs[k] <;> simp [h]
          have hle : ((xs.take k).filter (Sq.ready bits)).length ≤ 60 := by
            have := List.length_filter_le (Sq.ready bits) (xs.take k)
            simp at this; omega
          generalize ((xs.take k).filter (Sq.ready bits)).length = c at hcount hle ⊢
          have HCT := Lib.hid hcount
          clear hcount
          cases hq : Sq.ready bits xs[k] with
          | true =>
            rw [hq] at HC
            have HQ := Lib.hid hq
            clear hq
            go_wp2_with fail
            refine HC.mono ?_
            rintro e w1' ⟨rfl, rfl⟩
            go_wp2
            go_round
            case rel => exact ⟨k + 1, by omega, by go_num, by rw [HCT.out, HQ.out]; go_num⟩
            case measure => simp [intOf]; omega
          | false =>
            rw [hq] at HC
            have HQ := Lib.hid hq
            clear hq
            go_wp2_with fail
            refine HC.mono ?_
            rintro e w1' ⟨rfl, rfl⟩
            go_wp2
            go_round
            case rel => exact ⟨k + 1, by omega, by go_num, by rw [HCT.out, HQ.out]; go_num⟩
            case measure => simp [intOf]; omega
        · have hkx : k = xs.length := by omega
          subst hkx
          rw [List.take_length]
          have hle : (xs.filter (Sq.ready bits)).length ≤ 60 := by
            have := List.length_filter_le (Sq.ready bits) xs
            omega
          obtain ⟨F, hF⟩ : ∃ F, xs.filter (Sq.ready bits) = F := ⟨_, rfl⟩
          rw [hF] at hle ⊢
          have HF := Lib.hid hF
          clear hF
          have hFr : ∀ x ∈ F, Sq.ready bits x = true ∧ 0 ≤ x ∧ x < 32 := by
            intro x hx
            rw [← HF.out, List.mem_filter] at hx
            have := (Sq.valid_iff.1 HX.out).1 x hx.1
            simp [Sq.task] at this
            exact ⟨hx.2, by omega, this.2⟩
          have hFn : F.Nodup := by rw [← HF.out]; exact (List.filter_sublist).nodup (Sq.valid_iff.1 HX.out).2
          have HFR := Lib.hid hFr
          have HFN := Lib.hid hFn
          clear hFr hFn
          go_wp2_with fail
          go_loopw [7, 8, 44] (fun sv nv i wr => ∃ (j : Nat) (L : List Int) (S : Int), j ≤ F.length ∧ i = .int .i64 j ∧ Sl (Value.int .i64) wr nv L ∧ Sq.valid L = true ∧ L.filter (Sq.ready bits) = F.drop j ++ F.take j ∧ L.length = xs.length ∧
            sv = .int .u32 S ∧ 0 ≤ S ∧ S < 4294967296 ∧ (∀ x, 0 ≤ x → x < 32 → Sq.ready S x = decide (x ∈ F.take j)) ∧ Below w.heap.size w wr) (fun _ _ i _ => F.length - (intOf i).toNat)
          case atStart => exact ⟨0, xs, 0, Nat.zero_le _, rfl, HV1, HX.out, by rw [HF.out]; simp, rfl, rfl, by omega, by omega, fun x _ _ => by rw [Sq.ready_zero]; simp, hbl1⟩
          case round =>
            obtain ⟨j, L, S, hj, rfl, hs, hval, hfil, hlen, rfl, hS0, hS1, hSx, hbl⟩ := hrel
            have HVL := Lib.hid hval
            have HFL := Lib.hid hfil
            have HLL := Lib.hid hlen
            have HSX := Lib.hid hSx
            clear hval hfil hlen hSx
            obtain ⟨a1, cap1, rfl, _, _, _, _⟩ := id hs
            by_cases hlt : j < F.length
            · have hdc : L.filter (Sq.ready bits) = F[j] :: (F.drop (j + 1) ++ F.take j) := by rw [HFL.out, List.drop_eq_getElem_cons hlt]; rfl
              obtain ⟨l', e1, e2, e3, e4⟩ := Sq.next_filter HVL.out hdc
              have hmem : F[j] ∈ F := List.getElem_mem hlt
              obtain ⟨hq, t0, t1⟩ := HFR.out _ hmem
              have hnot : Sq.ready S F[j] = false := by
                rw [HSX.out _ t0 t1, decide_eq_false_iff_not]
                intro hm
                obtain ⟨i, hi, e⟩ := List.mem_take_iff_getElem.1 hm
                exact Sq.nodup_ne HFN.out (by omega) hlt (by omega) e
              have HC1 := ready_w bits F[j]
              have HC2 := ready_w S F[j]
              rw [hq] at HC1
              rw [hnot] at HC2
              obtain ⟨S', eS, hS0', hS1', hSx'⟩ := set_bit hS0 hS1 t0 t1
              have E1 := Lib.hid e1
              have E2 := Lib.hid e2
              have E3 : Hid (l'.filter (Sq.ready bits) = F.drop (j + 1) ++ F.take (j + 1)) := by
                show l'.filter (Sq.ready bits) = _
                rw [e3, List.append_assoc, List.take_append_getElem]
              have E4 := Lib.hid e4
              have E5 : Hid (∀ x, 0 ≤ x → x < 32 → Sq.ready S' x = decide (x ∈ F.take (j + 1))) := by
                intro x x0 x1
                rw [hSx' x x0 x1, HSX.out x x0 x1, ← List.take_append_getElem hlt, Bool.eq_iff_iff]
                simp only [Bool.or_eq_true, decide_eq_true_iff, List.mem_append, List.mem_singleton]
                exact or_congr_right eq_comm
              clear e1 e2 e3 e4 hq hnot hdc hSx' hmem
              generalize F[j] = t at *
              have HS := Lib.hid eS
              have HC1 := Lib.hid HC1
              have HC2 := Lib.hid HC2
              go_wp2_with fail
              refine (by_w bits _).mono ?_
              rintro e w2 ⟨rfl, hc2, hlt2, hb2⟩
              have hs2 := hs.below hb2 (Nat.le_refl _)
              have hbl2 := hbl.trans (hb2.mono hbl.size)
              clear hb2 hlt2
              go_wp2_with fail
              refine (next_sl hs2 (by have := HLL.out; omega) hb0 hb1 hc2 E1.out).mono ?_
              rintro e w3 ⟨v3, rfl, hs3, hb3⟩
              have hbl3 := hbl2.trans (hb3.mono hbl2.size)
              clear hb3 hs2 hc2 hs
              go_wp2_with fail
              refine (HC1.out w3 hb0 hb1).mono ?_
              rintro e w3' ⟨rfl, rfl⟩
              go_wp2_with fail
              refine (HC2.out w3 hS0 hS1).mono ?_
              rintro e w3' ⟨rfl, rfl⟩
              go_wp2
              go_roundw
              case rel => exact ⟨j + 1, l', S', by omega, by go_num, hs3, E2.out, E3.out, by rw [E4.out, HLL.out], by rw [← HS.out], hS0', hS1', E5.out, hbl3⟩
              case measure => simp [intOf]; omega
            · have hjF : j = F.length := by omega
              subst hjF
              have hff := HFL.out
              rw [List.drop_length, List.take_length, List.nil_append] at hff
              cases F with
              | nil =>
                rcases Sq.next_cases (r := Sq.ready bits) HVL.out with ⟨en, _⟩ | ⟨k, hk, _, hp, _⟩
                · have EN := Lib.hid en
                  clear en hff
                  go_wp2_with fail
                  refine (by_w bits _).mono ?_
                  rintro e w2 ⟨rfl, hc2, hlt2, hb2⟩
                  have hs2 := hs.below hb2 (Nat.le_refl _)
                  have hbl2 := hbl.trans (hb2.mono hbl.size)
                  clear hb2 hlt2
                  go_wp2_with fail
                  refine (next_sl hs2 (by have := HLL.out; omega) hb0 hb1 hc2 EN.out).mono ?_
                  rintro e w3 ⟨v3, rfl, hs3, hb3⟩
                  have hbl3 := hbl2.trans (hb3.mono hbl2.size)
                  go_wp2
                  go_ret
                  exact ⟨rfl, hbl3⟩
                · have : L[k] ∈ L.filter (Sq.ready bits) := List.mem_filter.2 ⟨List.getElem_mem hk, hp⟩
                  rw [hff] at this; cases this
              | cons f rest =>
                obtain ⟨l', e1, _, _, _⟩ := Sq.next_filter HVL.out hff
                have E1 := Lib.hid e1
                clear e1 hff
                have hpos : (0 : Int) < (rest.length : Int) + 1 := by omega
                go_wp2_with fail
                refine (by_w bits _).mono ?_
                rintro e w2 ⟨rfl, hc2, hlt2, hb2⟩
                have hs2 := hs.below hb2 (Nat.le_refl _)
                have hbl2 := hbl.trans (hb2.mono hbl.size)
                clear hb2 hlt2
                go_wp2_with fail
                refine (next_sl hs2 (by have := HLL.out; omega) hb0 hb1 hc2 E1.out).mono ?_
                rintro e w3 ⟨v3, rfl, hs3, hb3⟩
                have hbl3 := hbl2.trans (hb3.mono hbl2.size)
                go_wp2
                go_ret
                exact ⟨ret_bool (by simp), hbl3⟩
end Go.Proofs.Ytolfkgbcjfkbnaa
