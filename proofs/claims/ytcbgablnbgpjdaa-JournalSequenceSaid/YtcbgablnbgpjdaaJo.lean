/-
  The walk of Read of the journal.
-/
import Derived.Test.YtcbgablnbgpjdaaJn
import Derived.Test.YtcbgablnbgpjdaaApp
namespace Go.Proofs.Ytcbgablnbgpjdaa
open Go.RowKit

/-- What Read answers, of both. -/
def RetRead (T : TypeId) (d : List UInt8) (W : World) (e : Ending) (w' : World) : Prop :=
  ∃ v, e = .returned (.tuple #[.int .i64 (Jr.read d).1, v, .int .i64 (Jr.read d).2.2]) ∧ Wo W.heap.size T [] w' v (Jr.read d).2.1 ∧ Below W.heap.size W w'

theorem retRead_mk {T : TypeId} {d : List UInt8} {W w' : World} {n e : Int} {l : List Jr.Wr} (h : Jr.read d = (n, l, e)) {v : Value} (ho : Wo W.heap.size T [] w' v l) (hb : Below W.heap.size W w') : RetRead T d W (.returned (.tuple #[.int .i64 n, v, .int .i64 e])) w' := by
  unfold RetRead
  rw [h]
  exact ⟨v, rfl, ho, hb⟩

theorem Jr.blk_eq (d : List UInt8) (n : Nat) : Jr.blk d n = (d.drop (n * 128)).take 128 := rfl
theorem Jr.logged_succ (d : List UInt8) (k : Nat) : Jr.logged d (k + 1) = Jr.logged d k ++ [(((Jr.ent (Jr.blk d 1) k).toNat : Int), Jr.blk d (2 + k))] := by
  unfold Jr.logged
  rw [List.range_succ, List.map_append]
  rfl
theorem Jr.seq_lt (d : List UInt8) (hd : d.length = 12288) : (Jr.get (((Jr.blk d 1).drop 16).take 4)).toNat < 4294967296 := by
  have hl := Jr.blk_len d 1 (by omega)
  have h4 : (((Jr.blk d 1).drop 16).take 4).length = 4 := by simp; omega
  rw [Jr.get_nat _ (by omega)]
  have := Jr.horn_lt (((Jr.blk d 1).drop 16).take 4)
  rw [h4] at this
  simpa using this
theorem Jr.u64_ne {a b : UInt64} (h : a ≠ b) : ((a.toNat : Int) != (b.toNat : Int)) = true := by
  rw [bne_iff_ne]
  intro e
  exact h (UInt64.toNat_inj.1 (by omega))

set_option maxRecDepth 100000 in
set_option maxHeartbeats 4000000 in
theorem jread_w {v : Value} {d : List UInt8} {w : World} (hv : Sl eb w v d) : Calls Try.prog 22 #[v] w (RetRead 63 d w) := by
  obtain ⟨a, cap, rfl, hc, hm, hna, -⟩ := id hv
  unfold maxLen at hm
  by_cases hd : d.length = 12288
  rotate_left
  · have HR : Hid (Jr.read d = (0, [], 1)) := if_pos hd
    have hq : ((d.length : Int) != 12288) = true := by rw [bne_iff_ne]; omega
    clear hd
    go_enter Try.func22, Try.ntmps22
    go_wp2_with fail
    go_ret3
    exact retRead_mk HR.out Wo.nil (Below.refl _ _)
  · have HPR := Lib.hid (Jr.pread_eq d)
    have HPD : Hid (Jr.pread d = if Jr.formOk (Jr.blk d 1) = false then (0, [], 4) else if Jr.get (((Jr.blk d 1).drop 20).take 8) ≠ Sum.of (Jr.cov d) then (0, [], 5) else (Jr.seqOf d, Jr.logged d (Jr.cnt (Jr.blk d 1)), 0)) := by
      show _ = _
      unfold Jr.pread
      rw [if_neg (show ¬ d.length ≠ 12288 by simpa using hd)]
    have HSQ := Lib.hid (Jr.seq_lt d hd)
    have hhl := Jr.blk_len d 1 (by omega)
    rw [hd] at hv hc ⊢
    obtain ⟨b, off, rfl, hb, -, -, -⟩ := hv.addr (by omega)
    have hh : Sl eb w (.slice (some ⟨b, off + 128, none⟩) 128 (cap - 128)) (Jr.blk d 1) := hv.cut 128 128 (by omega)
    have HB1 : Hid (∀ W, Calls Try.prog 40 #[.slice (some ⟨b, off, none⟩) 12288 cap, .int .i64 1] W fun e w' => e = .returned (.slice (some ⟨b, off + 128, none⟩) 128 (cap - 128)) ∧ W = w') := fun W => block_w b off cap 1 (by omega) hc (by unfold maxLen; omega) W
    have HBL := Lib.hid (blocks_w hh)
    have HH := Lib.hid hh
    have HV := Lib.hid hv
    clear hh hv
    cases hf : Jr.formOk (Jr.blk d 1) with
    | false =>
      have HR : Hid (Jr.read d = (0, [], 4)) := HPR.out.symm.trans (HPD.out.trans (if_pos hf))
      unfold RetBl at HBL
      rw [hf] at HBL
      clear hf
      go_enter Try.func22, Try.ntmps22
      go_wp2_with (first
        | (go_at_call 40; (with_reducible refine (HB1.out _).mono ?_); rintro e w1 ⟨rfl, rfl⟩)
        | (go_at_call 41; (with_reducible refine HBL.out.mono ?_); rintro e w1 ⟨v1, rfl, -, hb1⟩))
      go_ret3
      exact retRead_mk HR.out Wo.nil hb1
    | true =>
      have HBL2 : Hid (Calls Try.prog 41 #[.slice (some ⟨b, off + 128, none⟩) 128 (cap - 128)] w fun e w' => ∃ v, e = .returned (.tuple #[v, .bool true]) ∧ w'.ownsRow w.heap.size 3 1 v (Jr.cnt (Jr.blk d 1)) ((Jr.bls (Jr.blk d 1) (Jr.cnt (Jr.blk d 1))).map (.int .i64)) ∧ Below w.heap.size w w') := HBL.out.mono fun e w' ⟨v, h1, h2, h3⟩ => ⟨v, by rw [h1, hf], h2 hf, h3⟩
      clear HBL
      have HPD2 : Hid (Jr.pread d = if Jr.get (((Jr.blk d 1).drop 20).take 8) ≠ Sum.of (Jr.cov d) then (0, [], 5) else (Jr.seqOf d, Jr.logged d (Jr.cnt (Jr.blk d 1)), 0)) := HPD.out.trans (if_neg (by rw [hf]; simp))
      have hn11 : Jr.cnt (Jr.blk d 1) ≤ 11 := by
        unfold Jr.formOk Jr.leadOk at hf
        simp only [Bool.and_eq_true, Bool.or_eq_true, decide_eq_true_eq] at hf
        omega
      have HCOV : Hid (Jr.cov d = (Jr.blk d 1).take 20 ++ if Jr.cnt (Jr.blk d 1) = 0 then [] else Jr.slots d) := rfl
      have HSL : Hid ((Jr.slots d).length = 1408) := by show _ = _; unfold Jr.slots; simp; omega
      have HSEQ : Hid (Jr.seqOf d = ((Jr.get (((Jr.blk d 1).drop 16).take 4)).toNat : Int)) := rfl
      have HJS := Lib.hid (jslots_w b off cap hc (by unfold maxLen; omega))
      have HBK : Hid (∀ k : Nat, k ≤ 11 → ∀ W, Calls Try.prog 40 #[.slice (some ⟨b, off, none⟩) 12288 cap, .int .i64 (2 + (k : Int))] W fun e w' => e = .returned (.slice (some ⟨b, off + (2 + k) * 128, none⟩) 128 (cap - (2 + k) * 128)) ∧ W = w') := fun k hk W => by
        have h := block_w b off cap (2 + k) (by omega) hc (by unfold maxLen; omega) W
        rw [show ((2 + k : Nat) : Int) = 2 + (k : Int) by omega] at h
        exact h
      have HC20 : Hid (Sl eb w (.slice (some ⟨b, off + 128, none⟩) 20 (cap - 128)) ((Jr.blk d 1).take 20)) := by
        have h : Sl eb w (.slice (some ⟨b, off + 128, none⟩) 20 (cap - 128)) ((Jr.blk d 1).take 20) := by simpa using HH.out.cut 0 20 (by omega)
        exact h
      have HC28 : Hid (Sl eb w (.slice (some ⟨b, off + 128 + 20, none⟩) 8 (cap - 128 - 20)) (((Jr.blk d 1).drop 20).take 8)) := HH.out.cut 20 8 (by omega)
      have HC16 : Hid (Sl eb w (.slice (some ⟨b, off + 128 + 16, none⟩) 4 (cap - 128 - 16)) (((Jr.blk d 1).drop 16).take 4)) := HH.out.cut 16 4 (by omega)
      have HL20 : Hid (((Jr.blk d 1).take 20).length = 20) := by show _ = _; simp; omega
      have HDL := Lib.hid hd
      have HHL := Lib.hid hhl
      clear hf HPD hd hhl
      generalize hcn : Jr.cnt (Jr.blk d 1) = n at *
      have HCN := Lib.hid hcn
      clear hcn
      obtain ⟨i0, hi, hz0, hz1, hz2⟩ := info_parts Try.info5
      obtain ⟨iJ, hiJ, hzJ0, hzJ1, hzJ2⟩ := info_parts Try.infoJ
      go_enter Try.func22, Try.ntmps22
      go_upto_region 7 with (first
        | (go_at_call 40; (with_reducible refine (HB1.out _).mono ?_); rintro e w1 ⟨rfl, rfl⟩)
        | (go_at_call 41; (with_reducible refine HBL2.out.mono ?_); rintro e w1 ⟨v1, rfl, hol, hb1⟩))
      obtain ⟨a1, c1, rfl⟩ := own_slice hol
      have hs1 := hb1.size
      have HO1 := Lib.hid hol
      have HW1 := Lib.hid hb1
      have HCL := Lib.hid (bclone_w (HC20.out.below hb1 (Nat.le_refl _)) (by rw [HL20.out]; omega))
      rw [HL20.out] at HCL
      clear hol hb1
      go_upto_if 28 with (go_at_call 35; (with_reducible refine HCL.out.mono ?_); rintro e w2 ⟨v2, rfl, ho2, hb2⟩)
      have hs2 := hb2.size
      obtain ⟨a2, c2, rfl⟩ := own_slice ho2
      have HO2 := Lib.hid ho2
      have HW2 := Lib.hid hb2
      clear ho2 hb2
      go_cut [8] (fun s8 W => ∃ v, v = s8 ∧ Sl eb W v (Jr.cov d) ∧ Below w1.heap.size w1 W)
      case first =>
        by_cases h0 : 0 < n
        · have f1 : (0 : Int) < (n : Int) := by omega
          have HCV : Hid (Jr.cov d = (Jr.blk d 1).take 20 ++ Jr.slots d) := HCOV.out.trans (by rw [if_neg (by omega)])
          go_wp2_with (first
            | (go_at_call 36; (with_reducible refine (HJS.out _).mono ?_); rintro e w3 ⟨rfl, rfl⟩)
            | (at_builtin; refine wpList_append_sl eb (fun _ => rfl) rfl _ _ 29 rfl w1.heap.size 5 i0 (.int .u8 0) 1 Try.underlying29 hi hz0 hz1 hz2 rfl (.slice a2 20 c2) 20 ((Jr.blk d 1).take 20) rfl HO2.out (.slice (some ⟨b, off + 256, none⟩) 1408 (cap - 256)) (Jr.slots d) rfl ((HV.out.cut 256 1408 (by omega)).below (HW1.out.trans (HW2.out.mono hs1)) (Nat.le_refl _)) (by rw [HSL.out]; unfold maxLen; omega) (by rw [HSL.out]; omega) hs2 ?_; intro v3 w3 ho3 hs3 hb3))
          go_meet
          exact ⟨_, rfl, by rw [HCV.out]; exact Sl.ofOwn ho3, HW2.out.trans hb3⟩
        · have f1 : ¬ (0 : Int) < (n : Int) := by omega
          have HCV : Hid (Jr.cov d = (Jr.blk d 1).take 20) := HCOV.out.trans (by rw [if_pos (by omega), List.append_nil])
          go_wp2_with fail
          go_meet
          exact ⟨_, rfl, by rw [HCV.out]; exact Sl.ofOwn HO2.out, HW2.out⟩
      case rest =>
        rename World => W3
        obtain ⟨v3, rfl, hsv3, hb3⟩ := hcut
        obtain ⟨a3, c3, hv3, -⟩ := id hsv3
        subst hv3
        have hs3 := hb3.size
        have hlow3 := HW1.out.trans (hb3.mono hs1)
        have HGT := Lib.hid (get_w (HC28.out.below hlow3 (Nat.le_refl _)))
        have HOF := Lib.hid (sof_w hsv3)
        have HB3 := Lib.hid hb3
        have HLOW3 := Lib.hid hlow3
        clear hsv3 hb3 hlow3
        by_cases hs : Jr.get (((Jr.blk d 1).drop 20).take 8) = Sum.of (Jr.cov d)
        rotate_left
        · have HR : Hid (Jr.read d = (0, [], 5)) := HPR.out.symm.trans (HPD2.out.trans (if_pos hs))
          have hq := Jr.u64_ne hs
          clear hs
          generalize (Jr.get (((Jr.blk d 1).drop 20).take 8)).toNat = q1 at *
          generalize (Sum.of (Jr.cov d)).toNat = q2 at *
          go_wp2_with (first
            | (go_at_call 42; (with_reducible refine HGT.out.mono ?_); rintro e w4 ⟨rfl, rfl⟩)
            | (go_at_call 43; (with_reducible refine HOF.out.mono ?_); rintro e w4 ⟨rfl, hb4⟩))
          go_ret3
          exact retRead_mk HR.out Wo.nil (HLOW3.out.trans (hb4.mono (by omega)))
        · have HR : Hid (Jr.read d = (Jr.seqOf d, Jr.logged d n, 0)) := HPR.out.symm.trans (HPD2.out.trans (if_neg (by simpa using hs)))
          rw [← hs] at HOF
          clear hs
          generalize (Jr.get (((Jr.blk d 1).drop 20).take 8)).toNat = q1 at *
          go_upto_region 12 with (first
            | (go_at_call 42; (with_reducible refine HGT.out.mono ?_); rintro e w4 ⟨rfl, rfl⟩)
            | (go_at_call 43; (with_reducible refine HOF.out.mono ?_); rintro e w4 ⟨rfl, hb4⟩))
          have hlow4 := HLOW3.out.trans (hb4.mono (by omega))
          have h14 := HB3.out.trans (hb4.mono hs3)
          have hs14 := h14.size
          have HLOW4 := Lib.hid hlow4
          have HLI : Hid (∀ W, Below w4.heap.size w4 W → Sl (Value.int .i64) W (.slice a1 n c1) (Jr.bls (Jr.blk d 1) n)) := fun W hW => own_sl HO1.out (stepAny h14 hW)
          clear hb4 hlow4 h14
          go_wp2_with fail
          go_loopw [3, 9, 10, 41] (fun s3 _ _ i wr => ∃ (k : Nat) (v : Value), v = s3 ∧ i = .int .i64 k ∧ k ≤ n ∧ Wo w4.heap.size 63 [] wr v (Jr.logged d k) ∧ Below w4.heap.size w4 wr) (fun _ _ _ i _ => n - (intOf i).toNat)
          case atStart => exact ⟨0, _, rfl, rfl, Nat.zero_le _, Wo.nil, Below.refl _ _⟩
          case round =>
            obtain ⟨k, v, rfl, rfl, hk, hwo, hbl⟩ := hrel
            obtain ⟨av, cv, hav, -, -⟩ := hwo.slice
            rw [Jr.logged_len] at hav
            subst hav
            by_cases hlt : k < n
            · have HLS := Lib.hid (Jr.logged_succ d k)
              have hlen := Jr.logged_len d k
              have HLEN := Lib.hid hlen
              obtain ⟨ad, cd, q, -, -, -, hrd⟩ := HLI.out wr hbl
              injection q with q1 q2 q3
              subst q1 q3
              obtain ⟨b9, off9, rfl, hb9, hcell⟩ := hrd.form (by rw [Jr.bls_len]; omega)
              have hck := hcell k (by rw [Jr.bls_len]; exact hlt)
              rw [Jr.bls_get] at hck
              have HWO := Lib.hid hwo
              have HBL9 := Lib.hid hbl
              have hbs := hbl.size
              have HVK : Hid (∀ W, Below wr.heap.size wr W → Sl eb W (.slice (some ⟨b, off + (2 + k) * 128, none⟩) 128 (cap - (2 + k) * 128)) (Jr.blk d (2 + k))) := fun W hW => (HV.out.cut ((2 + k) * 128) 128 (by omega)).below (stepAny (stepAny HLOW4.out hbl) hW) (Nat.le_refl _)
              have HBLEN := Lib.hid (Jr.blk_len d (2 + k) (by rw [HDL.out]; omega))
              have HBKk := Lib.hid (HBK.out k (by omega))
              have HCLk : Hid (∀ W, Below wr.heap.size wr W → Calls Try.prog 35 #[.slice (some ⟨b, off + (2 + k) * 128, none⟩) 128 (cap - (2 + k) * 128)] W fun e w' => ∃ v, e = .returned v ∧ w'.ownsRow W.heap.size 5 1 v 128 ((Jr.blk d (2 + k)).map eb) ∧ Below W.heap.size W w') := fun W hW => by
                have h := bclone_w (HVK.out W hW) (by rw [HBLEN.out]; omega)
                rw [HBLEN.out] at h
                exact h
              have f1 : (0 : Int) ≤ (k : Int) := by omega
              have f2 : (k : Int) < (n : Int) := by omega
              clear hcell hrd q2 hwo hbl hlen
              generalize ((Jr.ent (Jr.blk d 1) k).toNat : Int) = x at *
              generalize Jr.blk d (2 + k) = bs at *
              go_wp2_with (first
                | (go_at_call 40; (with_reducible refine (HBKk.out _).mono ?_); rintro e w5 ⟨rfl, rfl⟩)
                | (go_at_call 35; (with_reducible refine (HCLk.out _ (low_refl _)).mono ?_); rintro e w5 ⟨v5, rfl, ho5, hb5⟩; obtain ⟨a5, c5, rfl⟩ := own_slice ho5)
                | (at_builtin; refine wpList_append_wo rfl _ _ 31 rfl w4.heap.size 63 iJ _ Try.underlying31 hiJ hzJ0 hzJ1 hzJ2 rfl [] (.slice av k cv) (Jr.logged d k) rfl ((HWO.out.below hb5).below (low_alloc _ _)) (by rw [HLEN.out]; omega) w5.heap.size x (.slice a5 128 c5) bs rfl (heap_alloc_new _ _) ((own_av ho5 (by simp) fun b hb => (HWO.out.lt b hb).2).alloc _) (by simp; have := hb5.size; omega) ?_; intro v7 w7 hwo7 hs7 hb7))
              go_roundw
              case rel => exact ⟨k + 1, _, rfl, by go_num, by omega, by rw [HLS.out]; exact hwo7, ((HBL9.out.trans (hb5.mono hbs)).alloc (by have := hb5.size; omega) _).trans hb7⟩
              case measure => simp [intOf]; omega
            · obtain rfl : k = n := by omega
              have HG4 := Lib.hid (get_w (HC16.out.below (stepAny HLOW4.out hbl) (Nat.le_refl _)))
              have HWO := Lib.hid hwo
              have HBL9 := Lib.hid hbl
              have hsq := HSQ.out
              clear hwo hbl
              generalize (Jr.get (((Jr.blk d 1).drop 16).take 4)).toNat = q2 at *
              go_wp2_with (go_at_call 42; (with_reducible refine HG4.out.mono ?_); rintro e w4 ⟨rfl, rfl⟩)
              go_ret3
              rw [HSEQ.out] at HR
              exact retRead_mk HR.out (HWO.out.base (by omega)) (stepAny HLOW4.out HBL9.out)
end Go.Proofs.Ytcbgablnbgpjdaa
