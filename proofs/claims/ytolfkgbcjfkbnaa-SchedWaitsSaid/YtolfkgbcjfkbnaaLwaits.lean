/-
  SchedWaits: the law's walk.
-/
import Derived.Test.YtolfkgbcjfkbnaaLfair
namespace Go.Proofs.Ytolfkgbcjfkbnaa
open Go.RowKit

set_option maxHeartbeats 1600000 in
theorem schedWaits_w (v u : Value) (xs bs : List Int) (kk : Int) (w : World) (hv : Sl (Value.int .i64) w v xs) (hu : Sl (Value.int .u32) w u bs) (hk0 : 0 ≤ kk) (hk1 : kk ≤ 255)
    (hbs : ∀ b ∈ bs, 0 ≤ b ∧ b < 4294967296) :
    Calls Try.prog 5 #[v, .int .u8 kk, u] w fun e w' => e = .returned (.bool true) ∧ Below w.heap.size w w' := by
  obtain ⟨a, cap, rfl, h1, h2, h3, h4⟩ := id hv
  obtain ⟨c, ccap, rfl, g1, g2, g3, g4⟩ := id hu
  have HV := Lib.hid hv
  have HR := Lib.hid h4
  have HU := Lib.hid g4
  have HBS := Lib.hid hbs
  unfold maxLen at h2 g2
  clear hv hu h3 h4 g3 g4 hbs
  by_cases h0 : xs.length = 0
  · have f1 : ((xs.length : Int) == 0) = true := by simp [h0]
    clear h0
    go_enter Try.func5, Try.ntmps5
    go_wp2_with fail
    refine (awake_w _).mono ?_
    rintro e w1 ⟨rfl, hb1⟩
    go_wp2_with fail
    refine (awake_w _).mono ?_
    rintro e w2 ⟨rfl, hb2⟩
    go_wp2
    go_ret
    exact ⟨rfl, hb1.trans (hb2.mono hb1.size)⟩
  have f0 : ((xs.length : Int) == 0) = false := by rw [beq_eq_false_iff_ne]; omega
  by_cases h60 : 60 < xs.length
  · have f1 : (60 : Int) < (xs.length : Int) := by omega
    go_enter Try.func5, Try.ntmps5
    go_wp2_with fail
    refine (awake_w _).mono ?_
    rintro e w1 ⟨rfl, hb1⟩
    go_wp2_with fail
    refine (awake_w _).mono ?_
    rintro e w2 ⟨rfl, hb2⟩
    go_wp2
    go_ret
    exact ⟨rfl, hb1.trans (hb2.mono hb1.size)⟩
  have f1 : ¬ (60 : Int) < (xs.length : Int) := by omega
  cases hval : Sq.valid xs with
  | false =>
    have HX := Lib.hid hval
    clear hval
    go_enter Try.func5, Try.ntmps5
    go_wp2_with fail
    refine (awake_w _).mono ?_
    rintro e w1 ⟨rfl, hb1⟩
    go_wp2_with fail
    refine (rvalid_sl (HV.out.below hb1 (Nat.le_refl _)) (by omega)).mono ?_
    rintro e w2 ⟨rfl, rfl⟩
    rw [HX.out]
    go_wp2_with fail
    refine (awake_w _).mono ?_
    rintro e w2 ⟨rfl, hb2⟩
    go_wp2
    go_ret
    exact ⟨rfl, hb1.trans (hb2.mono hb1.size)⟩
  | true =>
    have HX := Lib.hid hval
    clear hval
    by_cases hb0 : bs.length = 0
    · have f2 : ((bs.length : Int) == 0) = true := by simp [hb0]
      clear hb0
      go_enter Try.func5, Try.ntmps5
      go_wp2_with fail
      refine (awake_w _).mono ?_
      rintro e w1 ⟨rfl, hb1⟩
      go_wp2_with fail
      refine (rvalid_sl (HV.out.below hb1 (Nat.le_refl _)) (by omega)).mono ?_
      rintro e w2 ⟨rfl, rfl⟩
      rw [HX.out]
      go_wp2_with fail
      refine (awake_w _).mono ?_
      rintro e w2 ⟨rfl, hb2⟩
      go_wp2
      go_ret
      exact ⟨rfl, hb1.trans (hb2.mono hb1.size)⟩
    have f2 : ((bs.length : Int) == 0) = false := by rw [beq_eq_false_iff_ne]; omega
    by_cases hb100 : 100 < bs.length
    · have f3 : (100 : Int) < (bs.length : Int) := by omega
      go_enter Try.func5, Try.ntmps5
      go_wp2_with fail
      refine (awake_w _).mono ?_
      rintro e w1 ⟨rfl, hb1⟩
      go_wp2_with fail
      refine (rvalid_sl (HV.out.below hb1 (Nat.le_refl _)) (by omega)).mono ?_
      rintro e w2 ⟨rfl, rfl⟩
      rw [HX.out]
      go_wp2_with fail
      refine (awake_w _).mono ?_
      rintro e w2 ⟨rfl, hb2⟩
      go_wp2
      go_ret
      exact ⟨rfl, hb1.trans (hb2.mono hb1.size)⟩
    have f3 : ¬ (100 : Int) < (bs.length : Int) := by omega
    obtain ⟨kn, rfl⟩ := Int.eq_ofNat_of_zero_le hk0
    have hkl : kn % xs.length < xs.length := Nat.mod_lt _ (by omega)
    obtain ⟨t, ht⟩ : ∃ t, xs[kn % xs.length]? = some t := ⟨_, List.getElem?_eq_getElem hkl⟩
    have htm : t ∈ xs := List.mem_of_getElem? ht
    have htt := (Sq.valid_iff.1 HX.out).1 t htm
    have t0 : 0 ≤ t := by simp [Sq.task] at htt; omega
    have t1 : t < 32 := by simp [Sq.task] at htt; omega
    obtain ⟨b, off, rfl, hbb, hcell⟩ := HR.out.form (by omega)
    have hck : w.cell? ⟨b, off + kn % xs.length, none⟩ = some (.int .i64 t) := by
      rw [hcell _ hkl]; rw [List.getElem?_eq_getElem hkl] at ht; simp at ht; rw [ht]
    have HT := Lib.hid ht
    have hkl' : ((kn : Int) % (xs.length : Int)).toNat = kn % xs.length := by omega
    have hkl0 : (0 : Int) ≤ (kn : Int) % (xs.length : Int) := by omega
    have hkl1 : (kn : Int) % (xs.length : Int) < (xs.length : Int) := by omega
    clear hcell htm htt ht
    go_enter Try.func5, Try.ntmps5
    go_wp2_with fail
    refine (awake_w _).mono ?_
    rintro e w1 ⟨rfl, hbl1⟩
    have hck1 : w1.cell? ⟨b, off + kn % xs.length, none⟩ = some (.int .i64 t) := by rw [hbl1.cell (p := ⟨b, off + kn % xs.length, none⟩) hbb]; exact hck
    have HV1 := HV.out.below hbl1 (Nat.le_refl _)
    go_wp2_with fail
    refine (rvalid_sl HV1 (by omega)).mono ?_
    rintro e w1' ⟨rfl, rfl⟩
    rw [HX.out]
    go_wp2_with fail
    go_loopw [8, 52] (fun nv i wr => ∃ (k : Nat) (L : List Int) (p : Nat), k ≤ xs.length ∧ i = .int .i64 k ∧ Sl (Value.int .i64) wr nv L ∧ Sq.valid L = true ∧ L.length = xs.length ∧ L[p]? = some t ∧ p + k < xs.length ∧ Below w.heap.size w wr) (fun _ i _ => xs.length - (intOf i).toNat)
    case atStart => exact ⟨0, xs, kn % xs.length, Nat.zero_le _, rfl, HV1, HX.out, rfl, HT.out, by omega, hbl1⟩
    case round =>
      obtain ⟨k, L, p, hk, rfl, hs, hval, hlen, hp, hpk, hbl⟩ := hrel
      have hlt : k < xs.length := by omega
      have hbl' : k % bs.length < bs.length := Nat.mod_lt _ (by omega)
      obtain ⟨b2, off2, rfl, hbb2, hcell2⟩ := HU.out.form (by omega)
      obtain ⟨m, hm⟩ : ∃ m, bs[k % bs.length]? = some m := ⟨_, List.getElem?_eq_getElem hbl'⟩
      obtain ⟨m0, m1⟩ := HBS.out m (List.mem_of_getElem? hm)
      have hck2 : wr.cell? ⟨b2, off2 + k % bs.length, none⟩ = some (.int .u32 m) := by
        rw [hbl.cell (p := ⟨b2, off2 + k % bs.length, none⟩) hbb2, hcell2 _ hbl']
        rw [List.getElem?_eq_getElem hbl'] at hm; simp at hm; rw [hm]
      have hq : ((k : Int) % (bs.length : Int)).toNat = k % bs.length := by omega
      have hq0 : (0 : Int) ≤ (k : Int) % (bs.length : Int) := by omega
      have hq1 : (k : Int) % (bs.length : Int) < (bs.length : Int) := by omega
      obtain ⟨S, eS, hS0, hS1, hSx⟩ := set_bit m0 m1 t0 t1
      have hrt : Sq.ready S t = true := by rw [hSx t t0 t1]; simp
      obtain ⟨l, x, en, hvl, hll, hcase⟩ := Sq.next_ahead hval hp hrt
      have EN := Lib.hid en
      have HVL := Lib.hid hvl
      have HLL := Lib.hid hll
      have HLEN := Lib.hid hlen
      clear hcell2 hm hSx hrt en hvl hll hval hp hlen
      rcases hcase with rfl | ⟨hne, hp0, hpl⟩
      · have q1 : (x == x) = true := by simp
        go_wp2_with fail
        refine (by_w _ _).mono ?_
        rintro e w2 ⟨rfl, hc2, hlt2, hb2⟩
        have hs2 := hs.below hb2 (Nat.le_refl _)
        have hbl2 := hbl.trans (hb2.mono hbl.size)
        clear hb2 hlt2 hs
        go_wp2_with fail
        refine (next_sl hs2 (by have := HLEN.out; omega) hS0 hS1 hc2 EN.out).mono ?_
        rintro e w3 ⟨v3, rfl, hs3, hb3⟩
        have hbl3 := hbl2.trans (hb3.mono hbl2.size)
        go_wp2
        go_ret
        exact ⟨rfl, hbl3⟩
      · have q1 : (x == t) = false := by simp [hne]
        have HPL := Lib.hid hpl
        clear hpl hne
        go_wp2_with fail
        refine (by_w _ _).mono ?_
        rintro e w2 ⟨rfl, hc2, hlt2, hb2⟩
        have hs2 := hs.below hb2 (Nat.le_refl _)
        have hbl2 := hbl.trans (hb2.mono hbl.size)
        clear hb2 hlt2 hs
        go_wp2_with fail
        refine (next_sl hs2 (by have := HLEN.out; omega) hS0 hS1 hc2 EN.out).mono ?_
        rintro e w3 ⟨v3, rfl, hs3, hb3⟩
        have hbl3 := hbl2.trans (hb3.mono hbl2.size)
        clear hb3 hs2 hc2
        go_wp2
        go_roundw
        case rel => exact ⟨k + 1, l, p - 1, by omega, by go_num, hs3, HVL.out, by rw [HLL.out, HLEN.out], HPL.out, by omega, hbl3⟩
        case measure => simp [intOf]; omega
end Go.Proofs.Ytolfkgbcjfkbnaa
