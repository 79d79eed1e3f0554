/-
  The disks of the reference are rows of its own.
-/
import Derived.Test.YtbklmpekpcneeaaBe
set_option linter.unusedVariables false
set_option linter.unusedSimpArgs false
set_option linter.unusedVariables false
namespace Go.Proofs.Ytbklmpekpcneeaa
open Go.RowKit
set_option maxRecDepth 100000

/-- A disk that was answered is a row that was made behind w. -/
def Own (w w' : World) (v' : Value) (D : List UInt8) : Prop := D ≠ [] → ∃ B, w.heap.size ≤ B ∧ w'.ownsRow B 5 1 v' 12288 (D.map eb)
/-- Or it is the disk that was given. -/
def OwnOr (w w' : World) (v v' : Value) (d D : List UInt8) : Prop := D ≠ [] → (∃ B, w.heap.size ≤ B ∧ w'.ownsRow B 5 1 v' 12288 (D.map eb)) ∨ (v' = v ∧ D = d)
theorem Own.step {w W W' : World} {v v' : Value} {d D : List UInt8} (h : Own w W v d) (hd : d ≠ []) (hs : w.heap.size ≤ W.heap.size) (hb : Below W.heap.size W W') (ho : OwnOr W W' v v' d D) : Own w W' v' D := fun hD => by
  rcases ho hD with ⟨B, h1, h2⟩ | ⟨rfl, rfl⟩
  · exact ⟨B, Nat.le_trans hs h1, h2⟩
  · obtain ⟨B, h1, h2⟩ := h hd
    exact ⟨B, h1, own_below h2 hb⟩

set_option maxHeartbeats 4000000 in
theorem rfree_o {v : Value} {d : List UInt8} {w : World} (hv : Sl eb w v d) (hd : d.length = 12288) (n : Int) : Calls Try.prog 37 #[v, .int .i64 n] w fun e w' => ∃ v', e = .returned (.tuple #[v', .int .i64 (Nd.freeN d n).2]) ∧ Sl eb w' v' (Nd.freeN d n).1 ∧ Below w.heap.size w w' ∧ Own w w' v' (Nd.freeN d n).1 := by
  have HV := Lib.hid hv
  obtain ⟨b, off, cap, rfl, hc, hm, hb, -⟩ := hv.disk hd
  have HGT := Lib.hid (rget_w hv hd n)
  have HXL := Lib.hid (Nd.get_bl d n)
  have hfb := fun h => Nd.free_bad (d := d) (n := n) h
  by_cases hg : (Nd.get d n).2 = 0
  rotate_left
  · have HF := Lib.hid (hfb hg)
    generalize (Nd.get d n).2 = ec at *
    generalize (Nd.get d n).1 = x at *
    have f1 : (ec != 0) = true := by rw [bne_iff_ne]; exact hg
    clear hfb hg hv hd hb
    go_enter Try.func37, Try.ntmps37
    go_wp2_with (first
      | (go_at_call 20; (with_reducible refine HGT.out.mono ?_); rintro e w1 ⟨rfl, hb1⟩)
      | (refine wpList_store_part rfl 45 _ _ rfl w1.heap.size 0 14 (ic x) rfl rfl 45 [.int .i64 0, .int .i64 0, .int .i64 0, .int .i64 0, .int .i64 0, .int .i64 0, .int .i64 0, .int .i64 0, .int .i64 0, .int .i64 0, .int .i64 0, .int .i64 0, .int .i64 0, .int .i64 0] (Bk.new w1 _ [.int .i64 0, .int .i64 0, .int .i64 0, .int .i64 0, .int .i64 0, .int .i64 0, .int .i64 0, .int .i64 0, .int .i64 0, .int .i64 0, .int .i64 0, .int .i64 0, .int .i64 0, .int .i64 0]) (ic_len HXL.out) (by simp) Try.sizeRI (ic_one _) ?_; intro w2 hk2 hg2))
    go_ret2
    rw [HF.out]
    exact ⟨_, rfl, Sl.nil _ _, (stepAny hb1 (low_alloc w1 _)).trans (below_of_grown hg2 hb1.size (stepAny hb1 (low_alloc w1 _)).size), fun h => absurd rfl h⟩
  have hg0 := hg
  obtain ⟨m, rfl, hm32, hraw, hF⟩ := Nd.get_some hg
  rw [hg, hraw] at HGT
  rw [hraw] at HXL
  by_cases h0 : m = 0
  · have HF : Hid (Nd.freeN d (m : Int) = ([], 12)) := by subst h0; exact Nd.free_root hg0
    have f1 : ((m : Int) == 0) = true := by rw [h0]; rfl
    generalize Nd.raw d m = x at *
    clear hfb hg hg0 hraw hF hv hd hb h0
    go_enter Try.func37, Try.ntmps37
    go_wp2_with (first
      | (go_at_call 20; (with_reducible refine HGT.out.mono ?_); rintro e w1 ⟨rfl, hb1⟩)
      | (refine wpList_store_part rfl 45 _ _ rfl w1.heap.size 0 14 (ic x) rfl rfl 45 [.int .i64 0, .int .i64 0, .int .i64 0, .int .i64 0, .int .i64 0, .int .i64 0, .int .i64 0, .int .i64 0, .int .i64 0, .int .i64 0, .int .i64 0, .int .i64 0, .int .i64 0, .int .i64 0] (Bk.new w1 _ [.int .i64 0, .int .i64 0, .int .i64 0, .int .i64 0, .int .i64 0, .int .i64 0, .int .i64 0, .int .i64 0, .int .i64 0, .int .i64 0, .int .i64 0, .int .i64 0, .int .i64 0, .int .i64 0]) (ic_len HXL.out) (by simp) Try.sizeRI (ic_one _) ?_; intro w2 hk2 hg2))
    go_ret2
    rw [HF.out]
    exact ⟨_, rfl, Sl.nil _ _, (stepAny hb1 (low_alloc w1 _)).trans (below_of_grown hg2 hb1.size (stepAny hb1 (low_alloc w1 _)).size), fun h => absurd rfl h⟩
  have HFY := Lib.hid (Nd.free_yes hg0 h0)
  have HBK : Hid (∀ i, i < 12 → Nd.bk (Nd.raw d m) i < 96) := fun i hi => hF.bk96 hm32 hi
  have HRZ := Lib.hid (Nd.relTo_zero hd (Nd.raw d m))
  have HRL := Lib.hid (Nd.relTo_len hd (Nd.raw d m))
  have HRS := Lib.hid (fun k hk h => Nd.relTo_step hd (x := Nd.raw d m) HXL.out (k := k) hk h)
  have HRK := Lib.hid (fun k hk h => Nd.relTo_skip (d := d) (x := Nd.raw d m) HXL.out (k := k) hk h)
  have HD := Lib.hid hd
  have f1 : ((m : Int) == 0) = false := by rw [beq_eq_false_iff_ne]; omega
  generalize Nd.raw d m = x at *
  clear hfb hg hg0 hraw hF hv hd hb h0
  go_enter Try.func37, Try.ntmps37
  go_upto_region 2 with (first
    | (go_at_call 20; (with_reducible refine HGT.out.mono ?_); rintro e w1 ⟨rfl, hb1⟩)
    | (refine wpList_store_part rfl 45 _ _ rfl w1.heap.size 0 14 (ic x) rfl rfl 45 [.int .i64 0, .int .i64 0, .int .i64 0, .int .i64 0, .int .i64 0, .int .i64 0, .int .i64 0, .int .i64 0, .int .i64 0, .int .i64 0, .int .i64 0, .int .i64 0, .int .i64 0, .int .i64 0] (Bk.new w1 _ [.int .i64 0, .int .i64 0, .int .i64 0, .int .i64 0, .int .i64 0, .int .i64 0, .int .i64 0, .int .i64 0, .int .i64 0, .int .i64 0, .int .i64 0, .int .i64 0, .int .i64 0, .int .i64 0]) (ic_len HXL.out) (by simp) Try.sizeRI (ic_one _) ?_; intro w2 hk2 hg2))
  rw [splice_all _ _ (by rw [ic_len HXL.out]; rfl)] at hk2
  have hl2 : Below w.heap.size w w2 := (stepAny hb1 (low_alloc w1 _)).trans (below_of_grown hg2 hb1.size (stepAny hb1 (low_alloc w1 _)).size)
  have HK2 := Lib.hid hk2
  have HL2 := Lib.hid hl2
  have HS2 := Lib.hid (HV.out.below hl2 (Nat.le_refl _))
  obtain ⟨bx, hbx⟩ : ∃ y, y = w1.heap.size := ⟨_, rfl⟩
  rw [← hbx] at HK2 ⊢
  clear hbx hb1 hg2 hk2 hl2
  go_wp2_with fail
  go_loopw [8, 9] (fun uv nv wr => ∃ k : Nat, nv = .int .i64 k ∧ k ≤ 12 ∧ Sl eb wr uv (Nd.relTo d x k) ∧ Bk wr bx 45 (ic x) ∧ Below w.heap.size w wr) (fun _ i _ => 12 - (intOf i).toNat)
  case atStart => exact ⟨0, rfl, by omega, by rw [HRZ.out]; exact HS2.out, HK2.out, HL2.out⟩
  case round =>
    clear HK2 HL2 HS2
    obtain ⟨k, rfl, hk, hs, hkb, hl⟩ := hrel
    by_cases hlt : k < 12
    · have z0 : wr.cell? ⟨bx, 2 + k, none⟩ = some (.int .i64 ((Nd.bk x k : Nat) : Int)) := by rw [hkb.cell]; exact ic_bk HXL.out hlt
      have HK := Lib.hid hkb
      have HS := Lib.hid hs
      have HL := Lib.hid hl
      have f5 : (0 : Int) ≤ (k : Int) := by omega
      have f6 : (k : Int) < 12 := by omega
      have hk96 := HBK.out k hlt
      have hsk := HRK.out k hlt
      have hst := HRS.out k hlt
      generalize Nd.bk x k = q at *
      clear hs hl hkb
      by_cases hq : q = 0
      · have HR := Lib.hid (hsk hq)
        have f7 : ((q : Int) != 0) = false := by rw [hq]; rfl
        clear hsk hst hq
        go_wp2_with fail
        go_roundw
        case rel => exact ⟨k + 1, by go_num, by omega, by rw [HR.out]; exact HS.out, HK.out, HL.out⟩
        case measure => simp [intOf]; omega
      · have HR := Lib.hid (hst hq)
        have f7 : ((q : Int) != 0) = true := by rw [bne_iff_ne]; omega
        have HRE := Lib.hid (rrelease_w HS.out (HRL.out k) q hk96)
        clear hsk hst hq
        go_wp2_with (go_at_call 70; (with_reducible refine HRE.out.mono ?_); rintro e w4 ⟨v4, rfl, ho4, hb4⟩; rw [HR.out] at ho4; have hs4 := own_sl0 ho4 (HRL.out _))
        go_roundw
        case rel => exact ⟨k + 1, by go_num, by omega, hs4, HK.out.below hb4 HK.out.lt, stepAny HL.out hb4⟩
        case measure => simp [intOf]; omega
    · obtain rfl : k = 12 := by omega
      have HPT := Lib.hid (show Calls Try.prog 58 #[_, .int .i64 (m : Int), .agg #[.int .i64 0, .int .i64 0, .int .i64 0, .int .i64 0, .int .i64 0, .int .i64 0, .int .i64 0, .int .i64 0, .int .i64 0, .int .i64 0, .int .i64 0, .int .i64 0, .int .i64 0, .int .i64 0]] wr _ from rput_w hs (HRL.out 12) m hm32 Nd.free rfl (by decide))
      have HL := Lib.hid hl
      have HPL : Hid ((Nd.putI (Nd.relTo d x 12) m Nd.free).length = 12288) := by
        show _ = _
        unfold Nd.putI
        rw [Nd.put_len (by rw [Nd.enc_len16 rfl, HRL.out]; unfold Nd.at_; omega), HRL.out]
      clear hs hl hkb
      go_wp2_with (go_at_call 58; (with_reducible refine HPT.out.mono ?_); rintro e w4 ⟨v4, rfl, ho4, hb4⟩; have hs4 := own_sl0 ho4 HPL.out)
      go_ret2
      rw [HFY.out]
      exact ⟨_, rfl, hs4, stepAny HL.out hb4, fun _ => ⟨_, (HL.out).size, ho4⟩⟩


set_option maxHeartbeats 8000000 in
theorem ralloc_o {v : Value} {d : List UInt8} {w : World} (hv : Sl eb w v d) (hd : d.length = 12288) (kd : Int) : Calls Try.prog 35 #[v, .int .i64 kd] w fun e w' => ∃ v', e = .returned (.tuple #[.int .i64 (Nd.alloc d kd).1, v', .int .i64 (Nd.alloc d kd).2.2]) ∧ Sl eb w' v' (Nd.alloc d kd).2.1 ∧ Below w.heap.size w w' ∧ Own w w' v' (Nd.alloc d kd).2.1 := by
  have HV := Lib.hid hv
  obtain ⟨b, off, cap, rfl, hc, hm, hb, -⟩ := hv.disk hd
  have HCK := Lib.hid (rcheck_w hv hd)
  have hbad := fun h => Nd.alloc_chk (d := d) (k := kd) h
  by_cases hck : Nd.check d = 0
  rotate_left
  · have HF := Lib.hid (hbad hck)
    generalize Nd.check d = ec at *
    have f1 : (ec != 0) = true := by rw [bne_iff_ne]; exact hck
    clear hbad hck hv hd hb
    go_enter Try.func35, Try.ntmps35
    go_wp2_with (go_at_call 22; (with_reducible refine HCK.out.mono ?_); rintro e w1 ⟨rfl, hb1⟩)
    go_ret3
    rw [HF.out]
    exact ⟨_, rfl, Sl.nil _ _, hb1, fun h => absurd rfl h⟩
  rw [hck] at HCK
  by_cases hk : kd = 1 ∨ kd = 2
  rotate_left
  · have HF := Lib.hid (Nd.alloc_arg hck (k := kd) (by omega))
    have f1 : (kd != 1) = true := by rw [bne_iff_ne]; omega
    have f2 : (kd != 2) = true := by rw [bne_iff_ne]; omega
    clear hbad hck hv hd hb hk
    go_enter Try.func35, Try.ntmps35
    go_wp2_with (go_at_call 22; (with_reducible refine HCK.out.mono ?_); rintro e w1 ⟨rfl, hb1⟩)
    go_ret3
    rw [HF.out]
    exact ⟨_, rfl, Sl.nil _ _, hb1, fun h => absurd rfl h⟩
  have HRW : Hid (∀ W, Below w.heap.size w W → ∀ n : Nat, n < 32 → Calls Try.prog 47 #[.slice (some ⟨b, off, none⟩) 12288 cap, .int .i64 (n : Int)] W fun e w' => e = .returned (.agg (ic (Nd.raw d n)).toArray) ∧ Below W.heap.size W w') := fun W hW n hn => rraw_w (HV.out.below hW (Nat.le_refl _)) hd n hn
  have HCKD := Lib.hid hck
  have HD := Lib.hid hd
  clear hbad hck hv hd hb
  rcases hk with rfl | rfl
  · skip
    go_enter Try.func35, Try.ntmps35
    go_upto_region 6 with (go_at_call 22; (with_reducible refine HCK.out.mono ?_); rintro e w1 ⟨rfl, hb1⟩)
    have HL1 := Lib.hid hb1
    clear hb1
    go_wp2_with fail
    go_loopw [8] (fun nv wr => ∃ (n : Nat), nv = .int .i64 n ∧ n ≤ 32 ∧ Hid (∀ m, m < n → (Nd.raw d m).kind ≠ 0) ∧ Below w.heap.size w wr) (fun i _ => 32 - (intOf i).toNat)
    case atStart => exact ⟨0, rfl, by omega, fun m h => absurd h (Nat.not_lt_zero _), HL1.out⟩
    case round =>
      clear HL1
      obtain ⟨n, rfl, hn, HN, hl⟩ := hrel
      by_cases hlt : n < 32
      · have HRM := Lib.hid (HRW.out wr hl n hlt)
        have HL := Lib.hid hl
        have f5 : (0 : Int) ≤ (n : Int) := by omega
        have f6 : (n : Int) < 32 := by omega
        have hfile := fun h0 => Nd.alloc_file HCKD.out hlt HN.out h0
        have HNX : Hid ((Nd.raw d n).kind ≠ 0 → ∀ m, m < n + 1 → (Nd.raw d m).kind ≠ 0) := fun h m hm => by
          by_cases e : m = n
          · subst e; exact h
          · exact HN.out m (by omega)
        have HPT : Hid (∀ W, Below w.heap.size w W → Calls Try.prog 58 #[.slice (some ⟨b, off, none⟩) 12288 cap, .int .i64 (n : Int), .agg #[.int .i64 1, .int .i64 0, .int .i64 0, .int .i64 0, .int .i64 0, .int .i64 0, .int .i64 0, .int .i64 0, .int .i64 0, .int .i64 0, .int .i64 0, .int .i64 0, .int .i64 0, .int .i64 0]] W fun e w' => ∃ v', e = .returned v' ∧ w'.ownsRow W.heap.size 5 1 v' 12288 ((Nd.putI d n ⟨1, 0, List.replicate 12 0⟩).map eb) ∧ Below W.heap.size W w') := fun W hW => rput_w (HV.out.below hW (Nat.le_refl _)) HD.out n hlt ⟨1, 0, List.replicate 12 0⟩ rfl (by decide)
        have HPL : Hid ((Nd.putI d n ⟨1, 0, List.replicate 12 0⟩).length = 12288) := by
          show _ = _
          unfold Nd.putI
          rw [Nd.put_len (by rw [Nd.enc_len16 rfl, HD.out]; unfold Nd.at_; omega), HD.out]
        generalize Nd.raw d n = x at *
        clear hl
        by_cases hk : x.kind = 0
        · have HF := Lib.hid (hfile hk)
          have f7 : ((x.kind : Int) != 0) = false := by rw [hk]; rfl
          clear hfile hk HNX
          go_wp2_with (first
            | (go_at_call 47; (with_reducible refine HRM.out.mono ?_); rintro e w2 ⟨rfl, hb2⟩)
            | (refine wpList_kind rfl 45 _ rfl x rfl (Try.kindRI x) ?_)
            | (go_at_call 58; (with_reducible refine (HPT.out _ ((stepAny HL.out hb2).alloc (stepAny HL.out hb2).size _)).mono ?_); rintro e w4 ⟨v4, rfl, ho4, hb4⟩; have hs4 := own_sl0 ho4 HPL.out))
          go_ret3
          rw [HF.out]
          exact ⟨_, rfl, hs4, stepAny ((stepAny HL.out hb2).alloc (stepAny HL.out hb2).size _) hb4, fun _ => ⟨_, (((stepAny HL.out hb2).alloc (stepAny HL.out hb2).size _)).size, ho4⟩⟩
        · have HN2 := Lib.hid (HNX.out hk)
          have f7 : ((x.kind : Int) != 0) = true := by rw [bne_iff_ne]; omega
          clear hfile hk HNX
          go_wp2_with (first
            | (go_at_call 47; (with_reducible refine HRM.out.mono ?_); rintro e w2 ⟨rfl, hb2⟩)
            | (refine wpList_kind rfl 45 _ rfl x rfl (Try.kindRI x) ?_))
          go_roundw
          case rel => exact ⟨n + 1, by go_num, by omega, HN2, stepAny HL.out hb2⟩
          case measure => simp [intOf]; omega
      · obtain rfl : n = 32 := by omega
        have HF := Lib.hid (Nd.alloc_full HCKD.out (k := 1) (.inl rfl) HN.out)
        have HL := Lib.hid hl
        clear hl
        go_wp2_with fail
        go_ret3
        rw [HF.out]
        exact ⟨_, rfl, Sl.nil _ _, HL.out, fun h => absurd rfl h⟩
  · skip
    go_enter Try.func35, Try.ntmps35
    go_upto_region 6 with (go_at_call 22; (with_reducible refine HCK.out.mono ?_); rintro e w1 ⟨rfl, hb1⟩)
    have HL1 := Lib.hid hb1
    clear hb1
    go_wp2_with fail
    go_loopw [8] (fun nv wr => ∃ (n : Nat), nv = .int .i64 n ∧ n ≤ 32 ∧ Hid (∀ m, m < n → (Nd.raw d m).kind ≠ 0) ∧ Below w.heap.size w wr) (fun i _ => 32 - (intOf i).toNat)
    case atStart => exact ⟨0, rfl, by omega, fun m h => absurd h (Nat.not_lt_zero _), HL1.out⟩
    case round =>
      clear HL1
      obtain ⟨n, rfl, hn, HN, hl⟩ := hrel
      by_cases hlt : n < 32
      · have HRM := Lib.hid (HRW.out wr hl n hlt)
        have HL := Lib.hid hl
        have f5 : (0 : Int) ≤ (n : Int) := by omega
        have f6 : (n : Int) < 32 := by omega
        have hnone := fun h0 ht => Nd.alloc_none HCKD.out hlt HN.out h0 ht
        have hdir := fun h0 i h1 h2 ht => Nd.alloc_dir HD.out HCKD.out hlt HN.out h0 (i := i) h1 h2 ht
        have HNX : Hid ((Nd.raw d n).kind ≠ 0 → ∀ m, m < n + 1 → (Nd.raw d m).kind ≠ 0) := fun h m hm => by
          by_cases e : m = n
          · subst e; exact h
          · exact HN.out m (by omega)
        generalize Nd.raw d n = x at *
        clear hl
        by_cases hk : x.kind = 0
        · have HNO := Lib.hid (fun ht => hnone hk ht)
          have HDI := Lib.hid (fun i h1 h2 ht => hdir hk i h1 h2 ht)
          have f7 : ((x.kind : Int) != 0) = false := by rw [hk]; rfl
          clear hnone hdir hk HNX
          go_upto_region 11 with (first
            | (go_at_call 47; (with_reducible refine HRM.out.mono ?_); rintro e w2 ⟨rfl, hb2⟩)
            | (refine wpList_kind rfl 45 _ rfl x rfl (Try.kindRI x) ?_))
          have hk3 : Bk (w2.alloc (.cells #[.int .i64 2, .int .i64 0, .int .i64 0, .int .i64 0, .int .i64 0, .int .i64 0, .int .i64 0, .int .i64 0, .int .i64 0, .int .i64 0, .int .i64 0, .int .i64 0, .int .i64 0, .int .i64 0] 45 (0, 0))) w2.heap.size 45 [.int .i64 2, .int .i64 0, .int .i64 0, .int .i64 0, .int .i64 0, .int .i64 0, .int .i64 0, .int .i64 0, .int .i64 0, .int .i64 0, .int .i64 0, .int .i64 0, .int .i64 0, .int .i64 0] := Bk.new w2 _ [.int .i64 2, .int .i64 0, .int .i64 0, .int .i64 0, .int .i64 0, .int .i64 0, .int .i64 0, .int .i64 0, .int .i64 0, .int .i64 0, .int .i64 0, .int .i64 0, .int .i64 0, .int .i64 0]
          have hl3 : Below w.heap.size w (w2.alloc (.cells #[.int .i64 2, .int .i64 0, .int .i64 0, .int .i64 0, .int .i64 0, .int .i64 0, .int .i64 0, .int .i64 0, .int .i64 0, .int .i64 0, .int .i64 0, .int .i64 0, .int .i64 0, .int .i64 0] 45 (0, 0))) := (stepAny HL.out hb2).alloc (stepAny HL.out hb2).size _
          have hge : w.heap.size ≤ w2.heap.size := (stepAny HL.out hb2).size
          clear hb2
          generalize w2.alloc (.cells #[.int .i64 2, .int .i64 0, .int .i64 0, .int .i64 0, .int .i64 0, .int .i64 0, .int .i64 0, .int .i64 0, .int .i64 0, .int .i64 0, .int .i64 0, .int .i64 0, .int .i64 0, .int .i64 0] 45 (0, 0)) = w3 at *
          obtain ⟨bx, hbx⟩ : ∃ y, y = w2.heap.size := ⟨_, rfl⟩
          rw [← hbx] at hk3 hge ⊢
          have HTK := Lib.hid (rtk_w (HV.out.below hl3 (Nat.le_refl _)) HD.out)
          have HK3 := Lib.hid hk3
          have HL3 := Lib.hid hl3
          have HGE := Lib.hid hge
          clear hbx hk3 hl3 hge
          go_upto_region 14 with (go_at_call 69; (with_reducible refine HTK.out.mono ?_); rintro e w4 h4; rcases h4 with ⟨ht, rfl, hb4⟩ | ⟨i, g, c, hi1, hi2, ht, rfl, ho4, hb4⟩)
          · have HF := Lib.hid (HNO.out ht)
            clear ht
            go_wp2_with fail
            go_ret3
            rw [HF.out]
            exact ⟨_, rfl, Sl.nil _ _, stepAny HL3.out hb4, fun h => absurd rfl h⟩
          · have HF := Lib.hid (HDI.out i hi1 hi2 ht)
            have hzl : (Nd.zeroB (Nd.putB d (Ex.putB (Nd.bits d) i true)) i).length = 12288 := Nd.zeroB_len (Nd.putB_len HD.out (by rw [Ex.length_putB, Nd.bits_len HD.out])) hi2
            have hs4 := own_sl0 ho4 hzl
            have hk4 := HK3.out.below hb4 HK3.out.lt
            have hl4 := stepAny HL3.out hb4
            have hk5 : Bk ((w4.setCell ⟨bx, 1, none⟩ (.int .i64 128)).setCell ⟨bx, 2, none⟩ (.int .i64 (i : Int))) bx 45 (ic ⟨2, 128, (List.replicate 12 0).set 0 i⟩) := (hk4.set 1 (.int .i64 128)).set 2 (.int .i64 (i : Int))
            have hge := HGE.out
            have hl5 : Below w.heap.size w ((w4.setCell ⟨bx, 1, none⟩ (.int .i64 128)).setCell ⟨bx, 2, none⟩ (.int .i64 (i : Int))) := (hl4.setCell (by simp; omega) _).setCell (by simp; omega) _
            have hs5 : Sl eb ((w4.setCell ⟨bx, 1, none⟩ (.int .i64 128)).setCell ⟨bx, 2, none⟩ (.int .i64 (i : Int))) (.slice (some ⟨g, 0, none⟩) 12288 c) (Nd.zeroB (Nd.putB d (Ex.putB (Nd.bits d) i true)) i) := by
              have hgb := (ho4.lt g rfl).1
              have h3 := HK3.out.lt
              have h : w4.ownsRow w.heap.size 5 1 (.slice (some ⟨g, 0, none⟩) 12288 c) 12288 ((Nd.zeroB (Nd.putB d (Ex.putB (Nd.bits d) i true)) i).map eb) := own_base ho4 (by omega)
              have h2 := own_keep h (w' := (w4.setCell ⟨bx, 1, none⟩ (.int .i64 128)).setCell ⟨bx, 2, none⟩ (.int .i64 (i : Int))) (fun j hj => by
                have e : g = j := by simpa [Value.ownBlock] using hj
                subst e
                rw [Below.heap_setCell _ _ _ _ (by simp; omega), Below.heap_setCell _ _ _ _ (by simp; omega)])
              exact own_sl0 h2 hzl
            obtain ⟨z0, z1⟩ : w4.cell? ⟨bx, 1, none⟩ = some (.int .i64 0) ∧ w4.cell? ⟨bx, 2, none⟩ = some (.int .i64 0) := ⟨hk4.cell 1, hk4.cell 2⟩
            have y0 := hk4.frozen 1
            have y1 := hk4.frozen 2
            have HPT := Lib.hid (rput_w hs5 hzl n hlt ⟨2, 128, (List.replicate 12 0).set 0 i⟩ (by simp) (show (128 : Nat) < 65536 by decide))
            have HPL : Hid ((Nd.putI (Nd.zeroB (Nd.putB d (Ex.putB (Nd.bits d) i true)) i) n ⟨2, 128, (List.replicate 12 0).set 0 i⟩).length = 12288) := by
              show _ = _
              unfold Nd.putI
              rw [Nd.put_len (by rw [Nd.enc_len16 (by simp), hzl]; unfold Nd.at_; omega), hzl]
            have HK5 := Lib.hid hk5
            have HL5 := Lib.hid hl5
            have HYL : Hid ((⟨2, 128, (List.replicate 12 0).set 0 i⟩ : Nd.Ino).bl.length = 12) := by show _ = _; simp
            obtain ⟨Y, hY⟩ : ∃ Y : Nd.Ino, ⟨2, 128, (List.replicate 12 0).set 0 i⟩ = Y := ⟨_, rfl⟩
            rw [hY] at HK5 HPT HPL HF HYL
            clear hY
            clear ht hzl hs4 hk4 hl4 hk5 hl5 hs5 ho4 hb4 hge
            go_upto_region 18 with fail
            generalize (w4.setCell ⟨bx, 1, none⟩ (.int .i64 128)).setCell ⟨bx, 2, none⟩ (.int .i64 (i : Int)) = w5 at *
            go_wp2_with (first
              | (refine wpList_load_ino rfl 45 _ rfl bx rfl 45 Y HYL.out HK5.out _ Try.underlying45 rfl Try.sizeRI ?_; unfold iv)
              | (go_at_call 58; (with_reducible refine HPT.out.mono ?_); rintro e w6 ⟨v6, rfl, ho6, hb6⟩; have hs6 := own_sl0 ho6 HPL.out))
            go_ret3
            rw [HF.out]
            exact ⟨_, rfl, hs6, stepAny HL5.out hb6, fun _ => ⟨_, (HL5.out).size, ho6⟩⟩
        · have HN2 := Lib.hid (HNX.out hk)
          have f7 : ((x.kind : Int) != 0) = true := by rw [bne_iff_ne]; omega
          clear hnone hdir hk HNX
          go_wp2_with (first
            | (go_at_call 47; (with_reducible refine HRM.out.mono ?_); rintro e w2 ⟨rfl, hb2⟩)
            | (refine wpList_kind rfl 45 _ rfl x rfl (Try.kindRI x) ?_))
          go_roundw
          case rel => exact ⟨n + 1, by go_num, by omega, HN2, stepAny HL.out hb2⟩
          case measure => simp [intOf]; omega
      · obtain rfl : n = 32 := by omega
        have HF := Lib.hid (Nd.alloc_full HCKD.out (k := 2) (.inr rfl) HN.out)
        have HL := Lib.hid hl
        clear hl
        go_wp2_with fail
        go_ret3
        rw [HF.out]
        exact ⟨_, rfl, Sl.nil _ _, HL.out, fun h => absurd rfl h⟩

set_option maxHeartbeats 8000000 in
theorem rtrunc_o {v : Value} {d : List UInt8} {w : World} (hv : Sl eb w v d) (hd : d.length = 12288) (n s : Int) : Calls Try.prog 39 #[v, .int .i64 n, .int .i64 s] w fun e w' => ∃ v', e = .returned (.tuple #[v', .int .i64 (Nd.truncate d n s).2]) ∧ Sl eb w' v' (Nd.truncate d n s).1 ∧ Below w.heap.size w w' ∧ Own w w' v' (Nd.truncate d n s).1 := by
  have HV := Lib.hid hv
  obtain ⟨b, off, cap, rfl, hc, hm, hb, -⟩ := hv.disk hd
  have HGT := Lib.hid (rget_w hv hd n)
  have HXL := Lib.hid (Nd.get_bl d n)
  have hfb := fun h => Nd.trunc_get (d := d) (n := n) (s := s) h
  by_cases hg : (Nd.get d n).2 = 0
  rotate_left
  · have HF := Lib.hid (hfb hg)
    generalize (Nd.get d n).2 = ec at *
    generalize (Nd.get d n).1 = x at *
    have f1 : (ec != 0) = true := by rw [bne_iff_ne]; exact hg
    clear hfb hg hv hd hb
    go_enter Try.func39, Try.ntmps39
    go_wp2_with (first
      | (go_at_call 20; (with_reducible refine HGT.out.mono ?_); rintro e w1 ⟨rfl, hb1⟩)
      | (refine wpList_store_part rfl 45 _ _ rfl w1.heap.size 0 14 (ic x) rfl rfl 45 [.int .i64 0, .int .i64 0, .int .i64 0, .int .i64 0, .int .i64 0, .int .i64 0, .int .i64 0, .int .i64 0, .int .i64 0, .int .i64 0, .int .i64 0, .int .i64 0, .int .i64 0, .int .i64 0] (Bk.new w1 _ [.int .i64 0, .int .i64 0, .int .i64 0, .int .i64 0, .int .i64 0, .int .i64 0, .int .i64 0, .int .i64 0, .int .i64 0, .int .i64 0, .int .i64 0, .int .i64 0, .int .i64 0, .int .i64 0]) (ic_len HXL.out) (by simp) Try.sizeRI (ic_one _) ?_; intro w2 hk2 hg2))
    go_ret2
    rw [HF.out]
    exact ⟨_, rfl, Sl.nil _ _, (stepAny hb1 (low_alloc w1 _)).trans (below_of_grown hg2 hb1.size (stepAny hb1 (low_alloc w1 _)).size), fun h => absurd rfl h⟩
  have hg0 := hg
  obtain ⟨m, rfl, hm32, hraw, hgood, hrng⟩ := Nd.get_some2 hg
  rw [hg, hraw] at HGT
  rw [hraw] at HXL
  have hkd := fun hk => Nd.trunc_dir (d := d) (m := m) (s := s) hg0 hk
  have hkr := fun hk hs => Nd.trunc_rng (d := d) (m := m) (s := s) hg0 hk hs
  have hky := fun (s : Nat) hk hs => Nd.trunc_yes hd (m := m) (s := s) hg0 hk hs hrng
  generalize hxe : Nd.raw d m = x at *
  clear hfb hg hg0 hraw hxe
  by_cases hk : x.kind = 2
  · have HF := Lib.hid (hkd hk)
    have f1 : ((x.kind : Int) == 2) = true := by rw [hk]; rfl
    clear hkd hkr hky hv hd hb hk hgood hrng
    go_enter Try.func39, Try.ntmps39
    go_upto_region 2 with (first
      | (go_at_call 20; (with_reducible refine HGT.out.mono ?_); rintro e w1 ⟨rfl, hb1⟩)
      | (refine wpList_store_part rfl 45 _ _ rfl w1.heap.size 0 14 (ic x) rfl rfl 45 [.int .i64 0, .int .i64 0, .int .i64 0, .int .i64 0, .int .i64 0, .int .i64 0, .int .i64 0, .int .i64 0, .int .i64 0, .int .i64 0, .int .i64 0, .int .i64 0, .int .i64 0, .int .i64 0] (Bk.new w1 _ [.int .i64 0, .int .i64 0, .int .i64 0, .int .i64 0, .int .i64 0, .int .i64 0, .int .i64 0, .int .i64 0, .int .i64 0, .int .i64 0, .int .i64 0, .int .i64 0, .int .i64 0, .int .i64 0]) (ic_len HXL.out) (by simp) Try.sizeRI (ic_one _) ?_; intro w2 hk2 hg2))
    rw [splice_all _ _ (by rw [ic_len HXL.out]; rfl)] at hk2
    have z0 : w2.cell? ⟨w1.heap.size, 0, none⟩ = some (.int .i64 (x.kind : Int)) := hk2.cell 0
    go_wp2_with fail
    go_ret2
    rw [HF.out]
    exact ⟨_, rfl, Sl.nil _ _, (stepAny hb1 (low_alloc w1 _)).trans (below_of_grown hg2 hb1.size (stepAny hb1 (low_alloc w1 _)).size), fun h => absurd rfl h⟩
  have f1 : ((x.kind : Int) == 2) = false := by rw [beq_eq_false_iff_ne]; omega
  by_cases hs : s < 0 ∨ 1536 < s
  · have HF := Lib.hid (hkr hk hs)
    clear hkd hkr hky hv hd hb hk hgood hrng
    rcases hs with hs | hs
    all_goals
      go_enter Try.func39, Try.ntmps39
      go_upto_region 2 with (first
        | (go_at_call 20; (with_reducible refine HGT.out.mono ?_); rintro e w1 ⟨rfl, hb1⟩)
        | (refine wpList_store_part rfl 45 _ _ rfl w1.heap.size 0 14 (ic x) rfl rfl 45 [.int .i64 0, .int .i64 0, .int .i64 0, .int .i64 0, .int .i64 0, .int .i64 0, .int .i64 0, .int .i64 0, .int .i64 0, .int .i64 0, .int .i64 0, .int .i64 0, .int .i64 0, .int .i64 0] (Bk.new w1 _ [.int .i64 0, .int .i64 0, .int .i64 0, .int .i64 0, .int .i64 0, .int .i64 0, .int .i64 0, .int .i64 0, .int .i64 0, .int .i64 0, .int .i64 0, .int .i64 0, .int .i64 0, .int .i64 0]) (ic_len HXL.out) (by simp) Try.sizeRI (ic_one _) ?_; intro w2 hk2 hg2))
      rw [splice_all _ _ (by rw [ic_len HXL.out]; rfl)] at hk2
      have z0 : w2.cell? ⟨w1.heap.size, 0, none⟩ = some (.int .i64 (x.kind : Int)) := hk2.cell 0
      go_wp2_with fail
      go_ret2
      rw [HF.out]
      exact ⟨_, rfl, Sl.nil _ _, (stepAny hb1 (low_alloc w1 _)).trans (below_of_grown hg2 hb1.size (stepAny hb1 (low_alloc w1 _)).size), fun h => absurd rfl h⟩
  obtain ⟨s, rfl⟩ : ∃ t : Nat, s = t := ⟨s.toNat, by omega⟩
  have hs1 : s ≤ 1536 := by omega
  have HF := Lib.hid (hky s hk hs1)
  have HRNG := Lib.hid hrng
  have HD := Lib.hid hd
  have g1 : (0 : Int) ≤ (s : Int) := by omega
  have g2 : (s : Int) ≤ 1536 := by omega
  obtain ⟨i0, hi0, hz0, hz1, hz2⟩ := info_parts Try.info5
  clear hkd hkr hky hv hd hb hk hgood hrng hs
  go_enter Try.func39, Try.ntmps39
  go_upto_region 2 with (first
    | (go_at_call 20; (with_reducible refine HGT.out.mono ?_); rintro e w1 ⟨rfl, hb1⟩)
    | (refine wpList_store_part rfl 45 _ _ rfl w1.heap.size 0 14 (ic x) rfl rfl 45 [.int .i64 0, .int .i64 0, .int .i64 0, .int .i64 0, .int .i64 0, .int .i64 0, .int .i64 0, .int .i64 0, .int .i64 0, .int .i64 0, .int .i64 0, .int .i64 0, .int .i64 0, .int .i64 0] (Bk.new w1 _ [.int .i64 0, .int .i64 0, .int .i64 0, .int .i64 0, .int .i64 0, .int .i64 0, .int .i64 0, .int .i64 0, .int .i64 0, .int .i64 0, .int .i64 0, .int .i64 0, .int .i64 0, .int .i64 0]) (ic_len HXL.out) (by simp) Try.sizeRI (ic_one _) ?_; intro w2 hk2 hg2))
  rw [splice_all _ _ (by rw [ic_len HXL.out]; rfl)] at hk2
  have hl2 : Below w.heap.size w w2 := (stepAny hb1 (low_alloc w1 _)).trans (below_of_grown hg2 hb1.size (stepAny hb1 (low_alloc w1 _)).size)
  have z0 : w2.cell? ⟨w1.heap.size, 0, none⟩ = some (.int .i64 (x.kind : Int)) := hk2.cell 0
  have HB1 := Lib.hid hb1.size
  obtain ⟨bx, hbx⟩ : ∃ y, y = w1.heap.size := ⟨_, rfl⟩
  rw [← hbx] at hk2 z0 HB1 ⊢
  have hbx2 : bx < w2.heap.size := hk2.lt
  have HK2 := Lib.hid hk2
  have HL2 := Lib.hid hl2
  have HS2 := Lib.hid (HV.out.below hl2 (Nat.le_refl _))
  clear hbx hb1 hg2 hk2 hl2
  go_upto_region 9 with (at_builtin; refine wpList_copy_of rfl _ _ 25 5 rfl i0 Try.underlying25 hi0 hz0 hz1 hz2 w2 rfl rfl (some ⟨b, off, none⟩) cap d 12288 rfl HD.out HS2.out (by omega) ?_; intro v3 w3 ho3 hb3)
  obtain ⟨g3, c3, rfl⟩ := own_form ho3 (by omega)
  have HO3 : Hid (w3.ownsRow w2.heap.size 5 1 (.slice (some ⟨g3, 0, none⟩) 12288 c3) 12288 ((Nd.trD d x s 0).map eb)) := by show _; rw [Nd.trD_zero HD.out]; exact ho3
  have HK3 : Hid (Bk w3 bx 45 (ic (Nd.trX x s 0))) := by show Bk _ _ _ _; rw [Nd.trX_zero HXL.out]; exact HK2.out.below hb3 HK2.out.lt
  have HL3 := Lib.hid (stepAny HL2.out hb3)
  clear ho3 hb3 z0 HK2
  go_wp2_with fail
  go_loopw [10, 11] (fun uv nv wr => ∃ (k g c : Nat), uv = .slice (some ⟨g, 0, none⟩) 12288 c ∧ nv = .int .i64 k ∧ k ≤ 12 ∧ wr.ownsRow w2.heap.size 5 1 (.slice (some ⟨g, 0, none⟩) 12288 c) 12288 ((Nd.trD d x s k).map eb) ∧ Bk wr bx 45 (ic (Nd.trX x s k)) ∧ Below w.heap.size w wr) (fun _ i _ => 12 - (intOf i).toNat)
  case atStart => exact ⟨0, _, _, rfl, rfl, by omega, HO3.out, HK3.out, HL3.out⟩
  case round =>
    clear HO3 HK3 HL3
    obtain ⟨k, g, c, rfl, rfl, hk, ho, hkb, hl⟩ := hrel
    by_cases hlt : k < 12
    · have hbk : Nd.bk (Nd.trX x s k) k = Nd.bk x k := by rw [Nd.trX_bk x s k hlt, if_neg (by omega)]
      have z0 : wr.cell? ⟨bx, 2 + k, none⟩ = some (.int .i64 ((Nd.bk x k : Nat) : Int)) := by rw [hkb.cell, ← hbk]; exact ic_bk (Nd.trX_len _ _ _) hlt
      have y0 := hkb.frozen (2 + k)
      have f5 : (0 : Int) ≤ (k : Int) := by omega
      have f6 : (k : Int) < 12 := by omega
      have f8 : IntKind.i64.wrap ((k : Int) * 128) = (k : Int) * 128 := IntWalk.i64_in _ (by omega)
      have hsx := Nd.trX_step (x := x) s hlt
      have hss := Nd.trX_same (x := x) s hlt
      have hds := fun h => Nd.trD_same (d := d) x s (k := k) h
      have hdr := fun h hs => Nd.trD_step HD.out x s (k := k) h hs
      have hrk := HRNG.out k hlt
      generalize Nd.bk x k = q at *
      clear hbk
      by_cases hq : q = 0
      · have HX2 := Lib.hid (hss hq)
        have HD2 := Lib.hid (hds (.inl hq))
        have HO := Lib.hid ho
        have HK := Lib.hid hkb
        have HL := Lib.hid hl
        have f7 : ((q : Int) != 0) = false := by rw [hq]; rfl
        clear hsx hss hds hdr hrk hq ho hkb hl
        go_wp2_with fail
        go_roundw
        case rel => exact ⟨k + 1, g, c, rfl, by go_num, by omega, by rw [HD2.out]; exact HO.out, by rw [HX2.out]; exact HK.out, HL.out⟩
        case measure => simp [intOf]; omega
      · have f7 : ((q : Int) != 0) = true := by rw [bne_iff_ne]; omega
        by_cases hsk : s ≤ k * 128
        · have HD2 := Lib.hid (hdr hq hsk)
          rw [if_pos hsk] at hsx
          have f9 : (s : Int) ≤ (k : Int) * 128 := by omega
          have hDL := Nd.trD_len HD.out x s k
          have HDL2 := Lib.hid (Nd.trD_len HD.out x s (k + 1))
          have HRE := Lib.hid (rrelease_w (own_sl0 ho hDL) hDL q (by omega))
          have HX2 : Hid (∀ W, Bk W bx 45 (ic (Nd.trX x s k)) → Bk (W.setCell ⟨bx, 2 + k, none⟩ (.int .i64 0)) bx 45 (ic (Nd.trX x s (k + 1)))) := fun W h => by
            rw [hsx, ← ic_setBl]
            exact h.set (2 + k) _
          have HSZ : Hid (w2.heap.size ≤ wr.heap.size) := by
            have h1 := (own_bk' ho).1
            have h2 := (ho.lt g rfl).2
            show _ ≤ _; omega
          have HK := Lib.hid hkb
          have HL := Lib.hid hl
          clear hsx hss hds hdr hrk hq ho hkb hl hDL hsk
          go_upto_region 14 with (go_at_call 70; (with_reducible refine HRE.out.mono ?_); rintro e w4 ⟨v4, rfl, ho4, hb4⟩)
          rw [HD2.out] at ho4
          obtain ⟨g4, c4, rfl⟩ := own_form ho4 (by omega)
          have hk4 := HK.out.below hb4 HK.out.lt
          have z4 : w4.cell? ⟨bx, 2 + k, none⟩ = some (.int .i64 (q : Int)) := by
            rw [hb4.cell (p := ⟨bx, 2 + k, none⟩) HK.out.lt]; exact z0
          have y4 := hk4.frozen (2 + k)
          have HK5 := Lib.hid (HX2.out w4 hk4)
          have HL5 : Hid (Below w.heap.size w (w4.setCell ⟨bx, 2 + k, none⟩ (.int .i64 0))) := (stepAny HL.out hb4).setCell (by simp; exact HB1.out) _
          have HO5 : Hid ((w4.setCell ⟨bx, 2 + k, none⟩ (.int .i64 0)).ownsRow w2.heap.size 5 1 (.slice (some ⟨g4, 0, none⟩) 12288 c4) 12288 ((Nd.trD d x s (k + 1)).map eb)) := own_keep (own_base ho4 HSZ.out) (fun j hj => by
            have e : g4 = j := by simpa [Value.ownBlock] using hj
            subst e
            have h1 := (own_bk' ho4).1
            have h2 := HSZ.out
            rw [Below.heap_setCell _ _ _ _ (by simp; omega)])
          clear ho4 hb4 hk4 z0 y0
          go_wp2_with fail
          go_roundw
          case rel => exact ⟨k + 1, g4, c4, rfl, by go_num, by omega, HO5.out, HK5.out, HL5.out⟩
          case measure => simp [intOf]; omega
        · have HD2 := Lib.hid (hds (.inr hsk))
          rw [if_neg hsk] at hsx
          have HX2 := Lib.hid hsx
          have HO := Lib.hid ho
          have HK := Lib.hid hkb
          have HL := Lib.hid hl
          have f9 : ¬ (s : Int) ≤ (k : Int) * 128 := by omega
          clear hsx hss hds hdr hrk hq ho hkb hl hsk
          go_wp2_with fail
          go_roundw
          case rel => exact ⟨k + 1, g, c, rfl, by go_num, by omega, by rw [HD2.out]; exact HO.out, by rw [HX2.out]; exact HK.out, HL.out⟩
          case measure => simp [intOf]; omega
    · have hk12 : k = 12 := by omega
      have f5 : ¬ (k : Int) < 12 := by omega
      rw [hk12] at ho hkb
      have hwp : Nd.wipe (Nd.trD d x s 12) (Nd.cut x s) s = if s % 128 ≠ 0 ∧ Nd.bk (Nd.trX x s 12) (s / 128) ≠ 0 then Nd.wipeTo (Nd.trD d x s 12) (Nd.bk (Nd.trX x s 12) (s / 128) * 128 + s % 128) (128 - s % 128) else Nd.trD d x s 12 := by
        have e : ∀ i, Nd.bk (Nd.cut x s) i = Nd.bk (Nd.trX x s 12) i := fun i => by unfold Nd.bk; rw [Nd.trX_all]
        unfold Nd.wipe Nd.wipeTo
        rw [e]
      have hdl := Nd.trD_len HD.out x s 12
      have g3 : IntKind.i64.wrap ((s : Int) / 128) = ((s / 128 : Nat) : Int) := by rw [IntWalk.i64_in _ (by omega)]; omega
      by_cases hr : s % 128 = 0
      · have HXW : Hid (Nd.wipe (Nd.trD d x s 12) (Nd.cut x s) s = Nd.trD d x s 12) := by show _ = _; rw [hwp, if_neg (by simp [hr])]
        have g4 : ((s : Int) % 128 != 0) = false := by rw [show (s : Int) % 128 = 0 by omega]; rfl
        have hlx := hdl
        clear hwp hdl hk12 hk hlt hr
        have HLX := Lib.hid hlx
        have hgb := (own_bk' ho).1
        have hk9 : Bk (wr.setCell ⟨bx, 1, none⟩ (.int .i64 (s : Int))) bx 45 (ic (Nd.cut x s)) := by
          have h := hkb.set 1 (.int .i64 (s : Int))
          rw [← Nd.trX_cut]
          exact h
        have hs9 : Sl eb (wr.setCell ⟨bx, 1, none⟩ (.int .i64 (s : Int))) (.slice (some ⟨g, 0, none⟩) 12288 c) (Nd.trD d x s 12) := own_sl0 (own_keep ho (fun j hj => by
          have e : g = j := by simpa [Value.ownBlock] using hj
          subst e
          rw [Below.heap_setCell _ _ _ _ (by simp; omega)])) HLX.out
        have hl9 : Below w.heap.size w (wr.setCell ⟨bx, 1, none⟩ (.int .i64 (s : Int))) := hl.setCell (by simp; exact HB1.out) _
        have z1 : wr.cell? ⟨bx, 1, none⟩ = some (.int .i64 ((Nd.trX x s 12).size : Int)) := hkb.cell 1
        have y1 := hkb.frozen 1
        have HPT := Lib.hid (rput_w hs9 HLX.out m hm32 (Nd.cut x s) (Nd.cut_len x s) (show s < 65536 by omega))
        have HPL : Hid ((Nd.putI (Nd.trD d x s 12) m (Nd.cut x s)).length = 12288) := by
          show _ = _
          unfold Nd.putI
          rw [Nd.put_len (by rw [Nd.enc_len16 (Nd.cut_len x s), HLX.out]; unfold Nd.at_; omega), HLX.out]
        have HCL := Lib.hid (Nd.cut_len x s)
        have HK9 := Lib.hid hk9
        have HL9 := Lib.hid hl9
        rw [HXW.out] at HF
        clear hlx hgb hk9 hs9 hl9 ho hkb hl
        generalize Nd.cut x s = Y at *
        go_upto_region 23 with fail
        generalize wr.setCell ⟨bx, 1, none⟩ (.int .i64 (s : Int)) = w9 at *
        go_wp2_with (first
          | (refine wpList_load_ino rfl 45 _ rfl bx rfl 45 Y HCL.out HK9.out _ Try.underlying45 rfl Try.sizeRI ?_; unfold iv)
          | (go_at_call 58; (with_reducible refine HPT.out.mono ?_); rintro e w10 ⟨v10, rfl, ho10, hb10⟩; have hs10 := own_sl0 ho10 HPL.out))
        go_ret2
        rw [HF.out]
        exact ⟨_, rfl, hs10, stepAny HL9.out hb10, fun _ => ⟨_, (HL9.out).size, ho10⟩⟩
      have hlt12 : s / 128 < 12 := by omega
      have z2 : wr.cell? ⟨bx, 2 + s / 128, none⟩ = some (.int .i64 ((Nd.bk (Nd.trX x s 12) (s / 128) : Nat) : Int)) := by rw [hkb.cell]; exact ic_bk (Nd.trX_len _ _ _) hlt12
      have hq96 : Nd.bk (Nd.trX x s 12) (s / 128) < 96 := by
        rw [Nd.trX_bk x s 12 hlt12]
        split
        · omega
        · have := HRNG.out _ hlt12; omega
      have g4 : ((s : Int) % 128 != 0) = true := by rw [bne_iff_ne]; omega
      have g5 : (0 : Int) ≤ ((s / 128 : Nat) : Int) := by omega
      have g6 : ((s / 128 : Nat) : Int) < 12 := by omega
      have g7 : (s : Int) % 128 = ((s % 128 : Nat) : Int) := by omega
      have hr128 : s % 128 < 128 := by omega
      generalize Nd.bk (Nd.trX x s 12) (s / 128) = q at *
      obtain ⟨t, ht⟩ : ∃ t, s / 128 = t := ⟨_, rfl⟩
      obtain ⟨r, hre⟩ : ∃ r, s % 128 = r := ⟨_, rfl⟩
      rw [ht] at z2 g3 g5 g6
      rw [hre] at hwp hr g7 hr128
      clear ht hre g4
      have g4 : ((r : Int) != 0) = true := by rw [bne_iff_ne]; omega
      by_cases hq : q = 0
      · have HXW : Hid (Nd.wipe (Nd.trD d x s 12) (Nd.cut x s) s = Nd.trD d x s 12) := by show _ = _; rw [hwp, if_neg (by simp [hq])]
        have g8 : ((q : Int) != 0) = false := by rw [hq]; rfl
        have hlx := hdl
        clear hwp hdl hk12 hk hlt hr hq hq96 hlt12
        have HLX := Lib.hid hlx
        have hgb := (own_bk' ho).1
        have hk9 : Bk (wr.setCell ⟨bx, 1, none⟩ (.int .i64 (s : Int))) bx 45 (ic (Nd.cut x s)) := by
          have h := hkb.set 1 (.int .i64 (s : Int))
          rw [← Nd.trX_cut]
          exact h
        have hs9 : Sl eb (wr.setCell ⟨bx, 1, none⟩ (.int .i64 (s : Int))) (.slice (some ⟨g, 0, none⟩) 12288 c) (Nd.trD d x s 12) := own_sl0 (own_keep ho (fun j hj => by
          have e : g = j := by simpa [Value.ownBlock] using hj
          subst e
          rw [Below.heap_setCell _ _ _ _ (by simp; omega)])) HLX.out
        have hl9 : Below w.heap.size w (wr.setCell ⟨bx, 1, none⟩ (.int .i64 (s : Int))) := hl.setCell (by simp; exact HB1.out) _
        have z1 : wr.cell? ⟨bx, 1, none⟩ = some (.int .i64 ((Nd.trX x s 12).size : Int)) := hkb.cell 1
        have y1 := hkb.frozen 1
        have HPT := Lib.hid (rput_w hs9 HLX.out m hm32 (Nd.cut x s) (Nd.cut_len x s) (show s < 65536 by omega))
        have HPL : Hid ((Nd.putI (Nd.trD d x s 12) m (Nd.cut x s)).length = 12288) := by
          show _ = _
          unfold Nd.putI
          rw [Nd.put_len (by rw [Nd.enc_len16 (Nd.cut_len x s), HLX.out]; unfold Nd.at_; omega), HLX.out]
        have HCL := Lib.hid (Nd.cut_len x s)
        have HK9 := Lib.hid hk9
        have HL9 := Lib.hid hl9
        rw [HXW.out] at HF
        clear hlx hgb hk9 hs9 hl9 ho hkb hl
        generalize Nd.cut x s = Y at *
        go_upto_region 23 with fail
        generalize wr.setCell ⟨bx, 1, none⟩ (.int .i64 (s : Int)) = w9 at *
        go_wp2_with (first
          | (refine wpList_load_ino rfl 45 _ rfl bx rfl 45 Y HCL.out HK9.out _ Try.underlying45 rfl Try.sizeRI ?_; unfold iv)
          | (go_at_call 58; (with_reducible refine HPT.out.mono ?_); rintro e w10 ⟨v10, rfl, ho10, hb10⟩; have hs10 := own_sl0 ho10 HPL.out))
        go_ret2
        rw [HF.out]
        exact ⟨_, rfl, hs10, stepAny HL9.out hb10, fun _ => ⟨_, (HL9.out).size, ho10⟩⟩
      have g8 : ((q : Int) != 0) = true := by rw [bne_iff_ne]; omega
      rw [if_pos ⟨hr, hq⟩] at hwp
      have HXW := Lib.hid hwp
      have HO := Lib.hid ho
      have HK := Lib.hid hkb
      have HL := Lib.hid hl
      have HDL := Lib.hid hdl
      have HBK := Lib.hid (rblock0_w g c q hq96 (own_bk' ho).2.1 (own_bk' ho).2.2.1 wr)
      have hcm := (own_bk' ho).2.2.1
      have hcn := (own_bk' ho).2.1
      unfold maxLen at hcm
      clear hwp hdl hk12 hk hlt hr hq hlt12 ho hkb hl
      go_upto_region 19 with (go_at_call 51; (with_reducible refine HBK.out.mono ?_); rintro e w' ⟨rfl, rfl⟩)
      clear z2
      go_wp2_with fail
      go_loopw [14] (fun nv wl => ∃ (j : Nat), nv = .int .i64 ((r + j : Nat) : Int) ∧ r + j ≤ 128 ∧ wl.ownsRow w2.heap.size 5 1 (.slice (some ⟨g, 0, none⟩) 12288 c) 12288 ((Nd.wipeTo (Nd.trD d x s 12) (q * 128 + r) j).map eb) ∧ Bk wl bx 45 (ic (Nd.trX x s 12)) ∧ Below w.heap.size w wl) (fun i _ => 128 - (intOf i).toNat)
      case atStart => exact ⟨0, by first | rfl | (simp; exact g7), by omega, by rw [Nd.wipeTo_zero]; exact HO.out, HK.out, HL.out⟩
      case round =>
        clear HO HK HL
        rename World => wl
        obtain ⟨j, rfl, hj, ho, hkb, hl⟩ := hrel
        have hwl := Nd.wipeTo_len HDL.out (p := q * 128 + r) (k := j) (by omega)
        by_cases hlt : r + j < 128
        · have hst := Nd.wipeTo_step HDL.out (p := q * 128 + r) (k := j) (by omega)
          obtain ⟨y0, y1⟩ := own_cell8 (i := q * 128 + r + j) ho (by omega) hwl
          generalize (Nd.wipeTo (Nd.trD d x s 12) (q * 128 + r) j)[q * 128 + r + j] = old at y0
          have ho2 := own_store8 (i := q * 128 + r + j) (c := 0) ho
          rw [hst] at ho2
          have hgb := (own_bk' ho).1
          have hk2 : Bk (wl.setCell ⟨g, q * 128 + r + j, none⟩ (eb 0)) bx 45 (ic (Nd.trX x s 12)) := hkb.far (by simp; omega) _
          have hl2 : Below w.heap.size w (wl.setCell ⟨g, q * 128 + r + j, none⟩ (eb 0)) := hl.setCell (by have := HL2.out.size; simp; omega) _
          have HO2 := Lib.hid ho2
          have HK2 := Lib.hid hk2
          have HL2' := Lib.hid hl2
          rw [Nat.add_assoc] at y0 y1 HO2 HK2 HL2'
          unfold eb at y0 HO2 HK2 HL2'
          have f5 : (0 : Int) ≤ ((r + j : Nat) : Int) := by omega
          have f6 : ((r + j : Nat) : Int) < 128 := by omega
          have HSU : Hid (r + (j + 1) = r + j + 1) := rfl
          clear hst ho2 hgb hk2 hl2 ho hkb hl hwl
          obtain ⟨rj, hrj⟩ : ∃ y, r + j = y := ⟨_, rfl⟩
          rw [hrj] at y0 y1 f5 f6 HO2 HK2 HL2' HSU hj hlt ⊢
          clear hrj
          go_wp2_with fail
          go_roundw
          case rel => exact ⟨j + 1, by rw [HSU.out]; go_num, by rw [HSU.out]; omega, HO2.out, HK2.out, HL2'.out⟩
          case measure => simp [intOf]; omega
        · obtain rfl : j = 128 - r := by omega
          have f5 : ¬ ((r + (128 - r) : Nat) : Int) < 128 := by omega
          have hlx := hwl
          clear hwl hj hlt
          have HLX := Lib.hid hlx
          have hgb := (own_bk' ho).1
          have hk9 : Bk (wl.setCell ⟨bx, 1, none⟩ (.int .i64 (s : Int))) bx 45 (ic (Nd.cut x s)) := by
            have h := hkb.set 1 (.int .i64 (s : Int))
            rw [← Nd.trX_cut]
            exact h
          have hs9 : Sl eb (wl.setCell ⟨bx, 1, none⟩ (.int .i64 (s : Int))) (.slice (some ⟨g, 0, none⟩) 12288 c) (Nd.wipeTo (Nd.trD d x s 12) (q * 128 + r) (128 - r)) := own_sl0 (own_keep ho (fun j hj => by
            have e : g = j := by simpa [Value.ownBlock] using hj
            subst e
            rw [Below.heap_setCell _ _ _ _ (by simp; omega)])) HLX.out
          have hl9 : Below w.heap.size w (wl.setCell ⟨bx, 1, none⟩ (.int .i64 (s : Int))) := hl.setCell (by simp; exact HB1.out) _
          have z1 : wl.cell? ⟨bx, 1, none⟩ = some (.int .i64 ((Nd.trX x s 12).size : Int)) := hkb.cell 1
          have y1 := hkb.frozen 1
          have HPT := Lib.hid (rput_w hs9 HLX.out m hm32 (Nd.cut x s) (Nd.cut_len x s) (show s < 65536 by omega))
          have HPL : Hid ((Nd.putI (Nd.wipeTo (Nd.trD d x s 12) (q * 128 + r) (128 - r)) m (Nd.cut x s)).length = 12288) := by
            show _ = _
            unfold Nd.putI
            rw [Nd.put_len (by rw [Nd.enc_len16 (Nd.cut_len x s), HLX.out]; unfold Nd.at_; omega), HLX.out]
          have HCL := Lib.hid (Nd.cut_len x s)
          have HK9 := Lib.hid hk9
          have HL9 := Lib.hid hl9
          rw [HXW.out] at HF
          clear hlx hgb hk9 hs9 hl9 ho hkb hl
          generalize Nd.cut x s = Y at *
          go_upto_region 23 with fail
          generalize wl.setCell ⟨bx, 1, none⟩ (.int .i64 (s : Int)) = w9 at *
          go_wp2_with (first
            | (refine wpList_load_ino rfl 45 _ rfl bx rfl 45 Y HCL.out HK9.out _ Try.underlying45 rfl Try.sizeRI ?_; unfold iv)
            | (go_at_call 58; (with_reducible refine HPT.out.mono ?_); rintro e w10 ⟨v10, rfl, ho10, hb10⟩; have hs10 := own_sl0 ho10 HPL.out))
          go_ret2
          rw [HF.out]
          exact ⟨_, rfl, hs10, stepAny HL9.out hb10, fun _ => ⟨_, (HL9.out).size, ho10⟩⟩

set_option maxHeartbeats 16000000 in
theorem rwrite_o {v u : Value} {d s : List UInt8} {w : World} (hv : Sl eb w v d) (hd : d.length = 12288) (n o : Int) (hu : Sl eb w u s) (hsl : s.length ≤ 100000) : Calls Try.prog 38 #[v, .int .i64 n, .int .i64 o, u] w fun e w' => ∃ v', e = .returned (.tuple #[v', .int .i64 (Nd.write d n o s).2]) ∧ Sl eb w' v' (Nd.write d n o s).1 ∧ Below w.heap.size w w' ∧ Own w w' v' (Nd.write d n o s).1 := by
  have HV := Lib.hid hv
  have HU := Lib.hid hu
  obtain ⟨b, off, cap, rfl, hc, hm, hb, -⟩ := hv.disk hd
  obtain ⟨au, cu, rfl, -, -, -, hru⟩ := id hu
  have HRU := Lib.hid hru
  have HGT := Lib.hid (rget_w hv hd n)
  have HXL := Lib.hid (Nd.get_bl d n)
  have hfb := fun h => Nd.write_get (d := d) (n := n) (o := o) (s := s) h
  clear hru hu
  by_cases hg : (Nd.get d n).2 = 0
  rotate_left
  · have HF := Lib.hid (hfb hg)
    generalize (Nd.get d n).2 = ec at *
    generalize (Nd.get d n).1 = x at *
    have f1 : (ec != 0) = true := by rw [bne_iff_ne]; exact hg
    clear hfb hg hv hd hb
    go_enter Try.func38, Try.ntmps38
    go_wp2_with (first
      | (go_at_call 20; (with_reducible refine HGT.out.mono ?_); rintro e w1 ⟨rfl, hb1⟩)
      | (refine wpList_store_part rfl 45 _ _ rfl w1.heap.size 0 14 (ic x) rfl rfl 45 [.int .i64 0, .int .i64 0, .int .i64 0, .int .i64 0, .int .i64 0, .int .i64 0, .int .i64 0, .int .i64 0, .int .i64 0, .int .i64 0, .int .i64 0, .int .i64 0, .int .i64 0, .int .i64 0] (Bk.new w1 _ [.int .i64 0, .int .i64 0, .int .i64 0, .int .i64 0, .int .i64 0, .int .i64 0, .int .i64 0, .int .i64 0, .int .i64 0, .int .i64 0, .int .i64 0, .int .i64 0, .int .i64 0, .int .i64 0]) (ic_len HXL.out) (by simp) Try.sizeRI (ic_one _) ?_; intro w2 hk2 hg2))
    go_ret2
    rw [HF.out]
    exact ⟨_, rfl, Sl.nil _ _, (stepAny hb1 (low_alloc w1 _)).trans (below_of_grown hg2 hb1.size (stepAny hb1 (low_alloc w1 _)).size), fun h => absurd rfl h⟩
  have hg0 := hg
  obtain ⟨m, rfl, hm32, hraw, hgood, hrng⟩ := Nd.get_some2 hg
  rw [hg, hraw] at HGT
  rw [hraw] at HXL
  have hneg := fun ho => Nd.write_neg (d := d) (m := m) (o := o) (s := s) hg0 ho
  have hnil := fun (o : Nat) => Nd.write_nil (d := d) (m := m) (o := o) hg0
  have hbig := fun (o : Nat) hs hb => Nd.write_big (d := d) (m := m) (o := o) (s := s) hg0 hs hb
  have hful := fun (o i : Nat) hs hb hi h1 h2 h0 hl => Nd.write_full (d := d) (m := m) (o := o) (i := i) (s := s) hg0 hs hb hi h1 h2 h0 hl
  have hyes := fun (o i : Nat) hs hb h2 hl => Nd.write_yes hd (m := m) (o := o) (i := i) (s := s) hg0 hs hb h2 hl hrng
  generalize hxe : Nd.raw d m = x at *
  have hxs : x.size ≤ 1536 := hgood.2.1
  have HRNG := Lib.hid hrng
  have HD := Lib.hid hd
  have HNEG := Lib.hid hneg
  have HNIL := Lib.hid hnil
  have HBIG := Lib.hid hbig
  have HFUL := Lib.hid hful
  have HYES := Lib.hid hyes
  have HXS := Lib.hid hxs
  clear hfb hg hg0 hraw hxe hgood hrng hneg hnil hbig hful hyes hv hd hb hxs
  have hmo : Nd.most x ≤ 1536 ∧ 0 ≤ Nd.most x := by unfold Nd.most; split <;> omega
  obtain ⟨i0, hi0, hz0, hz1, hz2⟩ := info_parts Try.info5
  go_enter Try.func38, Try.ntmps38
  go_upto_region 2 with (first
    | (go_at_call 20; (with_reducible refine HGT.out.mono ?_); rintro e w1 ⟨rfl, hb1⟩)
    | (refine wpList_store_part rfl 45 _ _ rfl w1.heap.size 0 14 (ic x) rfl rfl 45 [.int .i64 0, .int .i64 0, .int .i64 0, .int .i64 0, .int .i64 0, .int .i64 0, .int .i64 0, .int .i64 0, .int .i64 0, .int .i64 0, .int .i64 0, .int .i64 0, .int .i64 0, .int .i64 0] (Bk.new w1 _ [.int .i64 0, .int .i64 0, .int .i64 0, .int .i64 0, .int .i64 0, .int .i64 0, .int .i64 0, .int .i64 0, .int .i64 0, .int .i64 0, .int .i64 0, .int .i64 0, .int .i64 0, .int .i64 0]) (ic_len HXL.out) (by simp) Try.sizeRI (ic_one _) ?_; intro w2 hk2 hg2))
  rw [splice_all _ _ (by rw [ic_len HXL.out]; rfl)] at hk2
  have hl2 : Below w.heap.size w w2 := (stepAny hb1 (low_alloc w1 _)).trans (below_of_grown hg2 hb1.size (stepAny hb1 (low_alloc w1 _)).size)
  have z0 : w2.cell? ⟨w1.heap.size, 0, none⟩ = some (.int .i64 (x.kind : Int)) := hk2.cell 0
  have HB1 := Lib.hid hb1.size
  obtain ⟨bx, hbx⟩ : ∃ y, y = w1.heap.size := ⟨_, rfl⟩
  rw [← hbx] at hk2 z0 HB1 ⊢
  have hbx2 : bx < w2.heap.size := hk2.lt
  have HK2 := Lib.hid hk2
  have HL2 := Lib.hid hl2
  have HS2 := Lib.hid (HV.out.below hl2 (Nat.le_refl _))
  clear hbx hb1 hg2 hk2 hl2
  go_upto_if 28 with fail
  go_cut [12] (fun s12 W' => s12 = .int .i64 (Nd.most x : Int) ∧ W' = w2)
  case first =>
    by_cases hk : x.kind = 2
    · have f1 : ((x.kind : Int) == 2) = true := by rw [hk]; rfl
      have HM : Hid (Nd.most x = 128) := by show _ = _; unfold Nd.most; rw [if_pos hk]
      clear hk
      go_wp2_with fail
      go_meet
      exact ⟨by rw [HM.out]; rfl, rfl⟩
    · have f1 : ((x.kind : Int) == 2) = false := by rw [beq_eq_false_iff_ne]; omega
      have HM : Hid (Nd.most x = 1536) := by show _ = _; unfold Nd.most; rw [if_neg hk]
      clear hk
      go_wp2_with fail
      go_meet
      exact ⟨by rw [HM.out]; rfl, rfl⟩
  case rest =>
    obtain ⟨rfl, hwc⟩ := hcut
    rw [hwc]
    obtain ⟨M, hM⟩ : ∃ M, Nd.most x = M := ⟨_, rfl⟩
    rw [hM] at hmo ⊢
    have HMX : Hid (M = Nd.most x) := hM.symm
    clear hM hwc
    by_cases ho : o < 0
    · have HF := Lib.hid (HNEG.out ho)
      go_wp2_with fail
      go_ret2
      rw [HF.out]
      exact ⟨_, rfl, Sl.nil _ _, HL2.out, fun h => absurd rfl h⟩
    obtain ⟨o, rfl⟩ : ∃ t : Nat, o = t := ⟨o.toNat, by omega⟩
    have g1 : (0 : Int) ≤ (o : Int) := by omega
    clear ho HNEG HGT z0
    go_upto_region 10 with (at_builtin; refine wpList_copy_of rfl _ _ 25 5 rfl i0 Try.underlying25 hi0 hz0 hz1 hz2 w2 rfl rfl (some ⟨b, off, none⟩) cap d 12288 rfl HD.out HS2.out (by omega) ?_; intro v3 w3 ho3 hb3)
    obtain ⟨g3, c3, rfl⟩ := own_form ho3 (by omega)
    by_cases hs0 : s = []
    · have HF : Hid (Nd.write d (m : Int) (o : Int) s = (d, 0)) := by show _ = _; rw [hs0]; exact HNIL.out o
      have f1 : ((s.length : Int) == 0) = true := by rw [hs0]; rfl
      have hs3 := own_sl0 ho3 HD.out
      have hl3 := stepAny HL2.out hb3
      clear hs0
      go_wp2_with fail
      go_ret2
      rw [HF.out]
      exact ⟨_, rfl, hs3, hl3, fun _ => ⟨_, HL2.out.size, ho3⟩⟩
    have hsp : 0 < s.length := List.length_pos_iff.2 hs0
    have f1 : ((s.length : Int) == 0) = false := by rw [beq_eq_false_iff_ne]; omega
    have f2 : IntKind.i64.wrap ((M : Int) - (o : Int)) = (M : Int) - (o : Int) ∨ (M : Int) < (o : Int) := by
      by_cases h : (M : Int) < (o : Int)
      · exact .inr h
      · exact .inl (IntWalk.i64_in _ (by omega))
    by_cases hbg : M < o + s.length
    · have HF := Lib.hid (HBIG.out o hs0 (by rw [← HMX.out]; exact hbg))
      have hl3 := stepAny HL2.out hb3
      by_cases h1 : (M : Int) < (o : Int)
      · clear hs0 f2
        go_wp2_with fail
        go_ret2
        rw [HF.out]
        exact ⟨_, rfl, Sl.nil _ _, hl3, fun h => absurd rfl h⟩
      · have f3 := f2.resolve_right h1
        have f4 : (M : Int) - (o : Int) < (s.length : Int) := by omega
        clear hs0 f2
        go_wp2_with fail
        go_ret2
        rw [HF.out]
        exact ⟨_, rfl, Sl.nil _ _, hl3, fun h => absurd rfl h⟩
    have f3 := f2.resolve_right (by omega)
    have f4 : ¬ (M : Int) < (o : Int) := by omega
    have f5 : ¬ (M : Int) - (o : Int) < (s.length : Int) := by omega
    have hbg' : ¬ Nd.most x < o + s.length := by rw [← HMX.out]; exact hbg
    have HFU := Lib.hid (fun i hi h1 h2 h0 hl => HFUL.out o i hs0 hbg' hi h1 h2 h0 hl)
    have HYE := Lib.hid (fun i h2 hl => HYES.out o i hs0 hbg' h2 hl)
    have hst := Nd.wr_start (x := x) (len := s.length) (off := o) HD.out
    have HO3 : Hid (w3.ownsRow w2.heap.size 5 1 (.slice (some ⟨g3, 0, none⟩) 12288 c3) 12288 ((Nd.wrD d x o s.length (o / 128)).map eb)) := by show _; rw [hst.2]; exact ho3
    have HK3 : Hid (Bk w3 bx 45 (ic (Nd.wrX d x o s.length (o / 128)))) := by show Bk _ _ _ _; rw [hst.1]; exact HK2.out.below hb3 HK2.out.lt
    have HL3 := Lib.hid (stepAny HL2.out hb3)
    have HFR : Hid ((Nd.fr x o s.length (o / 128)).length ≤ (Nd.fb d).length) := by show _ ≤ _; rw [Nd.fr_start]; simp
    obtain ⟨N, hN⟩ : ∃ N, s.length = N := ⟨_, rfl⟩
    have h1536 : o + N ≤ 1536 := by omega
    have g2 : IntKind.i64.wrap ((o : Int) / 128) = ((o / 128 : Nat) : Int) := by rw [IntWalk.i64_in _ (by omega)]; omega
    have g3' : IntKind.i64.wrap ((o : Int) + (N : Int)) = (o : Int) + (N : Int) := IntWalk.i64_in _ (by omega)
    rw [hN] at f1 f5 HFU HYE HO3 HK3 HFR hsp hbg HU ⊢
    have HN := Lib.hid hN
    clear hst hs0 f2 hbg' hN ho3 hb3 HFUL HYES HBIG HNIL HMX
    go_upto_region 14 with fail
    clear f1 f3 f4 f5
    go_wp2_with fail
    go_loopw [11, 13, 14] (fun _ uv iv wr => ∃ (i g c : Nat), uv = .slice (some ⟨g, 0, none⟩) 12288 c ∧ iv = .int .i64 (i : Int) ∧ o / 128 ≤ i ∧ i ≤ 12 ∧ wr.ownsRow w2.heap.size 5 1 (.slice (some ⟨g, 0, none⟩) 12288 c) 12288 ((Nd.wrD d x o N i).map eb) ∧ Bk wr bx 45 (ic (Nd.wrX d x o N i)) ∧ Hid ((Nd.fr x o N i).length ≤ (Nd.fb d).length) ∧ Below w.heap.size w wr) (fun _ _ i _ => 12 - (intOf i).toNat)
    case atStart => exact ⟨o / 128, _, _, rfl, rfl, Nat.le_refl _, by omega, HO3.out, HK3.out, HFR, HL3.out⟩
    case round =>
      clear HO3 HK3 HL3 HFR
      obtain ⟨i, g, c, rfl, rfl, hi0', hi12, ho, hkb, HFR, hl⟩ := hrel
      have e1 : IntKind.i64.wrap ((i : Int) * 128) = (i : Int) * 128 := IntWalk.i64_in _ (by omega)
      by_cases hlt : i * 128 < o + N
      · have hi : i < 12 := by omega
        have hbk := Nd.wr_bk (d := d) HXL.out (off := o) (len := N) (i := i)
        have z0 : wr.cell? ⟨bx, 2 + i, none⟩ = some (.int .i64 ((Nd.bk x i : Nat) : Int)) := by rw [hkb.cell, ← hbk]; exact ic_bk (Nd.wrX_len HXL.out i) hi
        have f5 : (0 : Int) ≤ (i : Int) := by omega
        have f6 : (i : Int) < 12 := by omega
        have f7 : (i : Int) * 128 < (o : Int) + (N : Int) := by omega
        have hsa := fun h0 => Nd.wr_same (d := d) (x := x) (off := o) (len := N) hi hi0' hlt h0
        have hfs := Nd.fr_step (x := x) (off := o) (len := N) hi hi0' hlt
        have hsp := fun h0 hl => Nd.wr_step HD.out (x := x) (off := o) (len := N) hi hi0' hlt h0 hl
        have hfu := fun h0 hl => HFU.out i hi hi0' hlt h0 hl
        have htk := Nd.wr_take HD.out (x := x) (off := o) (len := N) i
        have hwb := Nd.wrD_bits HD.out (x := x) (off := o) (len := N) i
        generalize Nd.bk x i = q at *
        clear hbk
        by_cases hq : q = 0
        · have f8 : ((q : Int) == 0) = true := by rw [hq]; rfl
          rw [if_pos hq] at hfs
          have hDL := Nd.wrD_len HD.out (x := x) (off := o) (len := N) i
          have htk0 := rtk_w (own_sl0 ho hDL) hDL
          have HSZ : Hid (w2.heap.size ≤ wr.heap.size) := by
            have h1 := (own_bk' ho).1
            have h2 := (ho.lt g rfl).2
            show _ ≤ _; omega
          have HK := Lib.hid hkb
          have HL := Lib.hid hl
          have Z0 := Lib.hid z0
          have HZ4 : Hid (∀ W, Below wr.heap.size wr W → W.cell? ⟨bx, 2 + i, none⟩ = some (.int .i64 (q : Int)) ∧ W.frozen? ⟨bx, 2 + i, none⟩ = false) := fun W hW => ⟨by rw [hW.cell (p := ⟨bx, 2 + i, none⟩) HK.out.lt]; exact Z0.out, (HK.out.below hW HK.out.lt).frozen _⟩
          by_cases hfl : (Nd.fr x o N i).length < (Nd.fb d).length
          · obtain ⟨hX, hDD⟩ := hsp hq hfl
            rw [dif_pos hfl] at htk
            have hkm := Nd.fb_mem (d := d) (List.getElem_mem hfl)
            generalize (Nd.fb d)[(Nd.fr x o N i).length] = kk at *
            have HX2 : Hid (∀ W, Bk W bx 45 (ic (Nd.wrX d x o N i)) → Bk (W.setCell ⟨bx, 2 + i, none⟩ (.int .i64 (kk : Int))) bx 45 (ic (Nd.wrX d x o N (i + 1)))) := fun W h => by
              rw [← hX, ← ic_setBl]
              exact h.set (2 + i) _
            have HDD : Hid (Nd.zeroB (Nd.putB (Nd.wrD d x o N i) (Ex.putB (Nd.bits (Nd.wrD d x o N i)) kk true)) kk = Nd.wrD d x o N (i + 1)) := by show _ = _; rw [hwb]; exact hDD
            have HTK : Hid (Calls Try.prog 69 #[.slice (some ⟨g, 0, none⟩) 12288 c] wr fun e w' => ∃ g4 c4, e = .returned (.tuple #[.int .i64 (kk : Int), .slice (some ⟨g4, 0, none⟩) 12288 c4, .int .i64 0]) ∧ w'.ownsRow wr.heap.size 5 1 (.slice (some ⟨g4, 0, none⟩) 12288 c4) 12288 ((Nd.wrD d x o N (i + 1)).map eb) ∧ Below wr.heap.size wr w') := htk0.mono fun e w' h => by
              rcases h with ⟨ht, -, -⟩ | ⟨k4, g4, c4, -, -, ht, he, ho4, hb4⟩
              · rw [htk] at ht; simp at ht
              · have e4 : kk = k4 := by rw [htk] at ht; simp at ht; exact ht.1
                subst e4
                rw [HDD.out] at ho4
                exact ⟨g4, c4, he, ho4, hb4⟩
            have HFR2 : Hid ((Nd.fr x o N (i + 1)).length ≤ (Nd.fb d).length) := by show _ ≤ _; rw [hfs, List.length_append]; simp; omega
            clear hsa hfs hsp hfu htk htk0 hwb hq ho hkb hl hDL hX hDD hfl
            go_upto_region 19 with (go_at_call 69; (with_reducible refine HTK.out.mono ?_); rintro e w4 ⟨g4, c4, rfl, ho4, hb4⟩; obtain ⟨z4, y4⟩ := HZ4.out _ hb4)
            have hk4 := HK.out.below hb4 HK.out.lt
            have HK5 := Lib.hid (HX2.out w4 hk4)
            have HL5 : Hid (Below w.heap.size w (w4.setCell ⟨bx, 2 + i, none⟩ (.int .i64 (kk : Int)))) := (stepAny HL.out hb4).setCell (by simp; exact HB1.out) _
            have HO5 : Hid ((w4.setCell ⟨bx, 2 + i, none⟩ (.int .i64 (kk : Int))).ownsRow w2.heap.size 5 1 (.slice (some ⟨g4, 0, none⟩) 12288 c4) 12288 ((Nd.wrD d x o N (i + 1)).map eb)) := own_keep (own_base ho4 HSZ.out) (fun j hj => by
              have e : g4 = j := by simpa [Value.ownBlock] using hj
              subst e
              have h1 := (own_bk' ho4).1
              have h2 := HSZ.out
              rw [Below.heap_setCell _ _ _ _ (by simp; omega)])
            clear ho4 hb4 hk4 z4 y4
            go_wp2_with fail
            go_roundw
            case rel => exact ⟨i + 1, g4, c4, rfl, by go_num, by omega, by omega, HO5.out, HK5.out, HFR2, HL5.out⟩
            case measure => simp [intOf]; omega
          · have HF := Lib.hid (hfu hq hfl)
            rw [dif_neg hfl] at htk
            have HTK : Hid (Calls Try.prog 69 #[.slice (some ⟨g, 0, none⟩) 12288 c] wr fun e w' => e = .returned (.tuple #[.int .i64 0, .slice none 0 0, .int .i64 13]) ∧ Below wr.heap.size wr w') := htk0.mono fun e w' h => by
              rcases h with ⟨-, he, hb4⟩ | ⟨k4, g4, c4, -, -, ht, -, -, -⟩
              · exact ⟨he, hb4⟩
              · rw [htk] at ht; simp at ht
            clear hsa hfs hsp hfu htk htk0 hwb hq ho hkb hl hDL hfl
            go_wp2_with (go_at_call 69; (with_reducible refine HTK.out.mono ?_); rintro e w4 ⟨rfl, hb4⟩; obtain ⟨z4, y4⟩ := HZ4.out _ hb4)
            go_ret2
            rw [HF.out]
            exact ⟨_, rfl, Sl.nil _ _, (stepAny HL.out hb4).setCell (by simp; exact HB1.out) _, fun h => absurd rfl h⟩
        · obtain ⟨hX, hDD⟩ := hsa hq
          rw [if_neg hq] at hfs
          have f8 : ((q : Int) == 0) = false := by rw [beq_eq_false_iff_ne]; omega
          have HX2 := Lib.hid hX
          have HD2 := Lib.hid hDD
          have HFS := Lib.hid hfs
          have HO := Lib.hid ho
          have HK := Lib.hid hkb
          have HL := Lib.hid hl
          clear hsa hfs hsp hfu htk hwb hq ho hkb hl hX hDD
          go_wp2_with fail
          go_roundw
          case rel => exact ⟨i + 1, g, c, rfl, by go_num, by omega, by omega, by rw [HD2.out]; exact HO.out, by rw [HX2.out]; exact HK.out, by show Hid (_ ≤ _); rw [HFS.out]; exact HFR, HL.out⟩
          case measure => simp [intOf]; omega
      · have f7 : ¬ (i : Int) * 128 < (o : Int) + (N : Int) := by omega
        have hF := HYE.out i (by omega) HFR.out
        have hXL := Nd.wrX_len (d := d) HXL.out (off := o) (len := N) i
        have hX96 := fun j (hj : j < 12) => Nd.wrX_rng (d := d) HXL.out HRNG.out (o := o) (N := N) (i := i) HFR.out hj
        have hXS := Nd.wrX_size d x o N i
        have hDL := Nd.wrD_len HD.out (x := x) (off := o) (len := N) i
        obtain ⟨bd, od, rfl, hbd, hcd⟩ := HRU.out.form (by rw [HN.out]; exact hsp)
        have HCD : Hid (∀ W, Below w.heap.size w W → ∀ k (hk : k < s.length), W.cell? ⟨bd, od + k, none⟩ = some (.int .u8 (s[k].toNat : Int))) := fun W hW k hk => by rw [hW.cell (p := ⟨bd, od + k, none⟩) hbd]; exact hcd k hk
        go_upto_region 21 with fail
        clear e1 f7 hi0' hi12 hi0 hz0 hz1 hz2
        generalize Nd.wrX d x o N i = X at *
        generalize Nd.wrD d x o N i = D at *
        have HF := Lib.hid hF
        have HX96 := Lib.hid hX96
        have HXL2 := Lib.hid hXL
        have HDL := Lib.hid hDL
        have HXS2 : Hid (X.size ≤ 1536) := by show _ ≤ _; rw [hXS]; exact HXS.out
        have HO := Lib.hid ho
        have HK := Lib.hid hkb
        have HL := Lib.hid hl
        have hcm := (own_bk' ho).2.2.1
        have hcn := (own_bk' ho).2.1
        have HBK := Lib.hid (fun q hq W => rblock0_w g c q hq hcn hcm W)
        have hgb := (own_bk' ho).1
        have hgw : g ≠ bd := by have := HL2.out.size; omega
        have hgx : bx ≠ g := by omega
        have hgw' : bd ≠ g := fun h => hgw h.symm
        have hgl : w.heap.size ≤ g := by have := HL2.out.size; omega
        unfold maxLen at hcm
        clear hF hX96 hXL hDL hXS ho hkb hl hcd HFR hlt HFU HYE
        go_wp2_with fail
        go_loopw [15, 16] (fun kv _ wl => ∃ (k : Nat), kv = .int .i64 (k : Int) ∧ k ≤ N ∧ wl.ownsRow w2.heap.size 5 1 (.slice (some ⟨g, 0, none⟩) 12288 c) 12288 ((Nd.pour X D o (s.take k)).map eb) ∧ Bk wl bx 45 (ic X) ∧ Below w.heap.size w wl) (fun k _ _ => N - (intOf k).toNat)
        case atStart => exact ⟨0, rfl, by omega, by rw [List.take_zero]; exact HO.out, HK.out, HL.out⟩
        case round =>
          clear HO HK HL
          rename World => wl
          obtain ⟨k, rfl, hk, ho, hkb, hl⟩ := hrel
          have hpl : (Nd.pour X D o (s.take k)).length = 12288 := by rw [Nd.pour_len]; exact HDL.out
          by_cases hlt : k < N
          · have hks : k < s.length := by rw [HN.out]; exact hlt
            have hstp := Nd.pourTo_step X D s o hks
            have y1 := HCD.out wl hl k hks
            obtain ⟨p, hp⟩ : ∃ p, o + k = p := ⟨_, rfl⟩
            rw [hp] at hstp
            obtain ⟨tt, htt⟩ : ∃ t, p / 128 = t := ⟨_, rfl⟩
            obtain ⟨r, hre⟩ : ∃ r, p % 128 = r := ⟨_, rfl⟩
            rw [htt, hre] at hstp
            have ht12 : tt < 12 := by omega
            have hr128 : r < 128 := by omega
            have e1 : IntKind.i64.wrap ((o : Int) + (k : Int)) = (p : Int) := by rw [IntWalk.i64_in _ (by omega)]; omega
            have e2 : IntKind.i64.wrap ((p : Int) / 128) = (tt : Int) := by rw [IntWalk.i64_in _ (by omega)]; omega
            have e3 : ((p : Int) % 128).toNat = r := by omega
            have e6 : p % 128 = r := hre
            have e7 : IntKind.i64.wrap ((p : Int) % 128) = (r : Int) := by rw [IntWalk.i64_in _ (by omega)]; omega
            have e8 : Int.tmod (p : Int) 128 = (r : Int) := by rw [Int.tmod_eq_emod_of_nonneg (by omega)]; omega
            have e9 : (p : Int) % 128 = (r : Int) := by omega
            have e4 : (0 : Int) ≤ (p : Int) % 128 := by omega
            have e5 : (p : Int) % 128 < 128 := by omega
            have z0 : wl.cell? ⟨bx, 2 + tt, none⟩ = some (.int .i64 ((Nd.bk X tt : Nat) : Int)) := by rw [hkb.cell]; exact ic_bk HXL2.out ht12
            have hq96 := HX96.out tt ht12
            generalize Nd.bk X tt = q at *
            obtain ⟨y0, yf⟩ := own_cell8 (i := q * 128 + r) ho (by omega) hpl
            have hst8 := own_store8 (i := q * 128 + r) (c := s[k]) ho
            rw [hstp] at hst8
            generalize (Nd.pour X D o (s.take k))[q * 128 + r] = old at y0
            generalize s[k] = cc at *
            unfold eb at y0 hst8
            have HO2 : Hid (((wl.setCell ⟨g, q * 128 + r, none⟩ (.int .u8 (cc.toNat : Int))).drew).ownsRow w2.heap.size 5 1 (.slice (some ⟨g, 0, none⟩) 12288 c) 12288 ((Nd.pour X D o (s.take (k + 1))).map eb)) := own_keep hst8 fun _ _ => rfl
            have HK2' : Hid (Bk ((wl.setCell ⟨g, q * 128 + r, none⟩ (.int .u8 (cc.toNat : Int))).drew) bx 45 (ic X)) := (hkb.far (by simpa using hgx) _).keep rfl
            have HL2' : Hid (Below w.heap.size w ((wl.setCell ⟨g, q * 128 + r, none⟩ (.int .u8 (cc.toNat : Int))).drew)) := (hl.setCell (by simpa using hgl) _).drew
            have HBQ := Lib.hid (HBK.out q hq96)
            have z0d : wl.drew.cell? ⟨bx, 2 + tt, none⟩ = some (.int .i64 (q : Int)) := z0
            have y0d : wl.drew.cell? ⟨g, q * 128 + r, none⟩ = some (.int .u8 (old.toNat : Int)) := y0
            have yfd : wl.drew.frozen? ⟨g, q * 128 + r, none⟩ = false := yf
            have y1d : wl.drew.cell? ⟨bd, od + k, none⟩ = some (.int .u8 (cc.toNat : Int)) := y1
            have f5 : (0 : Int) ≤ (k : Int) := by omega
            have f6 : (k : Int) < (N : Int) := by omega
            have f7 : (0 : Int) ≤ (tt : Int) := by omega
            have f8 : (tt : Int) < 12 := by omega
            have f9 : (0 : Int) ≤ (r : Int) := by omega
            have f10 : (r : Int) < 128 := by omega
            clear hp htt hre hstp hst8 ho hkb hl hpl hks ht12
            go_upto_region 25 with fail
            go_region_held3 (fun w' => w'.cell? ⟨bx, 2 + tt, none⟩ = some (.int .i64 (q : Int)) ∧ w'.cell? ⟨bd, od + k, none⟩ = some (.int .u8 (cc.toNat : Int))) (first | exact ⟨by with_reducible assumption, by with_reducible assumption⟩ | exact ⟨(cell_far hgx).trans z0, (cell_far hgw').trans y1⟩ | go_keep) ((go_at_call 51; (with_reducible refine (HBQ.out _).mono ?_); rintro e w' ⟨rfl, rfl⟩))
            all_goals (go_wp2_with fail)
            all_goals go_roundw
            case rel => exact ⟨k + 1, by go_num, by omega, HO2.out, HK2'.out, HL2'.out⟩
            case measure => simp [intOf]; omega
          · obtain rfl : k = N := by omega
            rw [List.take_of_length_le (by rw [HN.out]; exact Nat.le_refl _)] at ho hpl
            have HDX := Lib.hid hpl
            obtain ⟨mz, hmz⟩ : ∃ y, max X.size (o + k) = y := ⟨_, rfl⟩
            have HMZ : Hid ((if (X.size : Int) < (o : Int) + (k : Int) then (o : Int) + (k : Int) else (X.size : Int)) = (mz : Int)) := by show _ = _; rw [← hmz]; split <;> omega
            have hmz3 : mz < 65536 := by have := HXS2.out; omega
            rw [hmz] at HF
            have hk9 : Bk (wl.setCell ⟨bx, 1, none⟩ (.int .i64 (mz : Int))) bx 45 (ic ⟨X.kind, mz, X.bl⟩) := hkb.set 1 (.int .i64 (mz : Int))
            have hs9 : Sl eb (wl.setCell ⟨bx, 1, none⟩ (.int .i64 (mz : Int))) (.slice (some ⟨g, 0, none⟩) 12288 c) (Nd.pour X D o s) := own_sl0 (own_keep ho (fun j hj => by
              have e : g = j := by simpa [Value.ownBlock] using hj
              subst e
              rw [Below.heap_setCell _ _ _ _ (by simp; omega)])) HDX.out
            have hl9 : Below w.heap.size w (wl.setCell ⟨bx, 1, none⟩ (.int .i64 (mz : Int))) := hl.setCell (by simp; exact HB1.out) _
            have z1 : wl.cell? ⟨bx, 1, none⟩ = some (.int .i64 (X.size : Int)) := hkb.cell 1
            have y1 := hkb.frozen 1
            have HYL : Hid ((⟨X.kind, mz, X.bl⟩ : Nd.Ino).bl.length = 12) := HXL2.out
            have HPT := Lib.hid (rput_w hs9 HDX.out m hm32 ⟨X.kind, mz, X.bl⟩ HYL.out hmz3)
            have HPL : Hid ((Nd.putI (Nd.pour X D o s) m ⟨X.kind, mz, X.bl⟩).length = 12288) := by
              show _ = _
              unfold Nd.putI
              rw [Nd.put_len (by rw [Nd.enc_len16 HYL.out, HDX.out]; unfold Nd.at_; omega), HDX.out]
            have HK9 := Lib.hid hk9
            have HL9 := Lib.hid hl9
            clear hk9 hs9 hl9 ho hkb hl hpl hk hlt hmz
            generalize (⟨X.kind, mz, X.bl⟩ : Nd.Ino) = Y at *
            go_upto_region 27 with fail
            rw [HMZ.out]
            generalize wl.setCell ⟨bx, 1, none⟩ (.int .i64 (mz : Int)) = w9 at *
            go_wp2_with (first
              | (refine wpList_load_ino rfl 45 _ rfl bx rfl 45 Y HYL.out HK9.out _ Try.underlying45 rfl Try.sizeRI ?_; unfold iv)
              | (go_at_call 58; (with_reducible refine HPT.out.mono ?_); rintro e w10 ⟨v10, rfl, ho10, hb10⟩; have hs10 := own_sl0 ho10 HPL.out))
            go_ret2
            rw [HF.out]
            exact ⟨_, rfl, hs10, stepAny HL9.out hb10, fun _ => ⟨_, (HL9.out).size, ho10⟩⟩

theorem rdo0_o {v : Value} {d s : List UInt8} {w : World} (hv : Sl eb w v d) (hd : d.length = 12288) (n o : Int) {ax : Option Addr} {cx : Nat} (hs : Sl eb w (.slice ax s.length cx) s) (hsl : s.length ≤ 100000) : Calls Try.prog 31 #[v, .agg #[.int .i64 0, .int .i64 n, .int .i64 o, .slice ax s.length cx]] w fun e w' => ∃ v', e = .returned v' ∧ Sl eb w' v' (Nd.doOp d (0, n, o, s)) ∧ Below w.heap.size w w' ∧ OwnOr w w' v v' d (Nd.doOp d (0, n, o, s)) := by
  have HV := Lib.hid hv
  have hst : Nd.step d (0, n, o, s) = (Nd.alloc d n).2 := by unfold Nd.step; simp
  obtain ⟨D, ec, hde⟩ : ∃ D ec, (Nd.alloc d n).2 = (D, ec) := ⟨_, _, rfl⟩
  have hdo : Nd.doOp d (0, n, o, s) = if ec = 0 then D else d := by unfold Nd.doOp; rw [hst, hde]
  obtain ⟨W1, hW1⟩ : ∃ W, W = w.alloc (.cells #[.int .i64 0, .int .i64 n, .int .i64 o, .slice ax s.length cx] 55 (0, 0)) := ⟨_, rfl⟩
  have hl1 : Below w.heap.size w W1 := by rw [hW1]; exact low_alloc _ _
  have hk1 : Bk W1 w.heap.size 55 [.int .i64 0, .int .i64 n, .int .i64 o, .slice ax s.length cx] := by rw [hW1]; exact Bk.new w _ [.int .i64 0, .int .i64 n, .int .i64 o, .slice ax s.length cx]
  have HW1 := Lib.hid hW1
  have HL1 := Lib.hid hl1
  obtain ⟨z0, z1, z2, z3⟩ : W1.cell? ⟨w.heap.size, 0, none⟩ = some (.int .i64 0) ∧ W1.cell? ⟨w.heap.size, 1, none⟩ = some (.int .i64 n) ∧ W1.cell? ⟨w.heap.size, 2, none⟩ = some (.int .i64 o) ∧ W1.cell? ⟨w.heap.size, 3, none⟩ = some (.slice ax s.length cx) := ⟨hk1.cell 0, hk1.cell 1, hk1.cell 2, hk1.cell 3⟩
  have HC : Hid (Calls Try.prog 35 #[v, .int .i64 n] W1 fun e w' => ∃ r0 v', e = .returned (.tuple #[.int .i64 r0, v', .int .i64 ec]) ∧ Sl eb w' v' D ∧ Below W1.heap.size W1 w' ∧ Own W1 w' v' D) := (ralloc_o (hv.below hl1 (Nat.le_refl _)) hd n).mono fun e w' h => by
    obtain ⟨v', rfl, hs', hb, hown⟩ := h
    have h1 := congrArg Prod.fst hde
    have h2 := congrArg Prod.snd hde
    simp only at h1 h2
    rw [h1] at hs' hown
    exact ⟨_, v', by rw [h2], hs', hb, hown⟩
  have HDO := Lib.hid hdo
  clear hv hW1 hl1 hk1 hst hde hdo hs
  by_cases hec : ec = 0
  · subst hec
    rw [if_pos rfl] at HDO
    go_enter Try.func31, Try.ntmps31
    go_upto_region 1 with fail
    rw [← HW1.out]
    go_wp2_with (go_at_call 35; (with_reducible refine HC.out.mono ?_); rintro e w4 ⟨r0, v4, rfl, hs4, hb4, hw4⟩)
    go_ret
    rw [HDO.out]
    exact ⟨_, rfl, hs4, stepAny HL1.out hb4, fun h => Or.inl ((hw4 h).imp fun B hB => ⟨Nat.le_trans HL1.out.size hB.1, hB.2⟩)⟩
  · rw [if_neg hec] at HDO
    have f1 : (ec != 0) = true := by rw [bne_iff_ne]; exact hec
    clear hec
    go_enter Try.func31, Try.ntmps31
    go_upto_region 1 with fail
    rw [← HW1.out]
    go_wp2_with (go_at_call 35; (with_reducible refine HC.out.mono ?_); rintro e w4 ⟨r0, v4, rfl, hs4, hb4, hw4⟩)
    go_ret
    rw [HDO.out]
    exact ⟨_, rfl, HV.out.below (stepAny HL1.out hb4) (Nat.le_refl _), stepAny HL1.out hb4, fun _ => Or.inr ⟨rfl, rfl⟩⟩


theorem rdo1_o {v : Value} {d s : List UInt8} {w : World} (hv : Sl eb w v d) (hd : d.length = 12288) (n o : Int) {ax : Option Addr} {cx : Nat} (hs : Sl eb w (.slice ax s.length cx) s) (hsl : s.length ≤ 100000) : Calls Try.prog 31 #[v, .agg #[.int .i64 1, .int .i64 n, .int .i64 o, .slice ax s.length cx]] w fun e w' => ∃ v', e = .returned v' ∧ Sl eb w' v' (Nd.doOp d (1, n, o, s)) ∧ Below w.heap.size w w' ∧ OwnOr w w' v v' d (Nd.doOp d (1, n, o, s)) := by
  have HV := Lib.hid hv
  have hst : Nd.step d (1, n, o, s) = Nd.freeN d n := by unfold Nd.step; simp
  obtain ⟨D, ec, hde⟩ : ∃ D ec, Nd.freeN d n = (D, ec) := ⟨_, _, rfl⟩
  have hdo : Nd.doOp d (1, n, o, s) = if ec = 0 then D else d := by unfold Nd.doOp; rw [hst, hde]
  obtain ⟨W1, hW1⟩ : ∃ W, W = w.alloc (.cells #[.int .i64 1, .int .i64 n, .int .i64 o, .slice ax s.length cx] 55 (0, 0)) := ⟨_, rfl⟩
  have hl1 : Below w.heap.size w W1 := by rw [hW1]; exact low_alloc _ _
  have hk1 : Bk W1 w.heap.size 55 [.int .i64 1, .int .i64 n, .int .i64 o, .slice ax s.length cx] := by rw [hW1]; exact Bk.new w _ [.int .i64 1, .int .i64 n, .int .i64 o, .slice ax s.length cx]
  have HW1 := Lib.hid hW1
  have HL1 := Lib.hid hl1
  obtain ⟨z0, z1, z2, z3⟩ : W1.cell? ⟨w.heap.size, 0, none⟩ = some (.int .i64 1) ∧ W1.cell? ⟨w.heap.size, 1, none⟩ = some (.int .i64 n) ∧ W1.cell? ⟨w.heap.size, 2, none⟩ = some (.int .i64 o) ∧ W1.cell? ⟨w.heap.size, 3, none⟩ = some (.slice ax s.length cx) := ⟨hk1.cell 0, hk1.cell 1, hk1.cell 2, hk1.cell 3⟩
  have HC : Hid (Calls Try.prog 37 #[v, .int .i64 n] W1 fun e w' => ∃ v', e = .returned (.tuple #[v', .int .i64 ec]) ∧ Sl eb w' v' D ∧ Below W1.heap.size W1 w' ∧ Own W1 w' v' D) := (rfree_o (hv.below hl1 (Nat.le_refl _)) hd n).mono fun e w' h => by
    obtain ⟨v', rfl, hs', hb, hown⟩ := h
    have h1 := congrArg Prod.fst hde
    have h2 := congrArg Prod.snd hde
    simp only at h1 h2
    rw [h1] at hs' hown
    exact ⟨v', by rw [h2], hs', hb, hown⟩
  have HDO := Lib.hid hdo
  clear hv hW1 hl1 hk1 hst hde hdo hs
  by_cases hec : ec = 0
  · subst hec
    rw [if_pos rfl] at HDO
    go_enter Try.func31, Try.ntmps31
    go_upto_region 1 with fail
    rw [← HW1.out]
    go_wp2_with (go_at_call 37; (with_reducible refine HC.out.mono ?_); rintro e w4 ⟨v4, rfl, hs4, hb4, hw4⟩)
    go_ret
    rw [HDO.out]
    exact ⟨_, rfl, hs4, stepAny HL1.out hb4, fun h => Or.inl ((hw4 h).imp fun B hB => ⟨Nat.le_trans HL1.out.size hB.1, hB.2⟩)⟩
  · rw [if_neg hec] at HDO
    have f1 : (ec != 0) = true := by rw [bne_iff_ne]; exact hec
    clear hec
    go_enter Try.func31, Try.ntmps31
    go_upto_region 1 with fail
    rw [← HW1.out]
    go_wp2_with (go_at_call 37; (with_reducible refine HC.out.mono ?_); rintro e w4 ⟨v4, rfl, hs4, hb4, hw4⟩)
    go_ret
    rw [HDO.out]
    exact ⟨_, rfl, HV.out.below (stepAny HL1.out hb4) (Nat.le_refl _), stepAny HL1.out hb4, fun _ => Or.inr ⟨rfl, rfl⟩⟩


theorem rdo2_o {v : Value} {d s : List UInt8} {w : World} (hv : Sl eb w v d) (hd : d.length = 12288) (n o : Int) {ax : Option Addr} {cx : Nat} (hs : Sl eb w (.slice ax s.length cx) s) (hsl : s.length ≤ 100000) : Calls Try.prog 31 #[v, .agg #[.int .i64 2, .int .i64 n, .int .i64 o, .slice ax s.length cx]] w fun e w' => ∃ v', e = .returned v' ∧ Sl eb w' v' (Nd.doOp d (2, n, o, s)) ∧ Below w.heap.size w w' ∧ OwnOr w w' v v' d (Nd.doOp d (2, n, o, s)) := by
  have HV := Lib.hid hv
  have hst : Nd.step d (2, n, o, s) = Nd.write d n o s := by unfold Nd.step; simp
  obtain ⟨D, ec, hde⟩ : ∃ D ec, Nd.write d n o s = (D, ec) := ⟨_, _, rfl⟩
  have hdo : Nd.doOp d (2, n, o, s) = if ec = 0 then D else d := by unfold Nd.doOp; rw [hst, hde]
  obtain ⟨W1, hW1⟩ : ∃ W, W = w.alloc (.cells #[.int .i64 2, .int .i64 n, .int .i64 o, .slice ax s.length cx] 55 (0, 0)) := ⟨_, rfl⟩
  have hl1 : Below w.heap.size w W1 := by rw [hW1]; exact low_alloc _ _
  have hk1 : Bk W1 w.heap.size 55 [.int .i64 2, .int .i64 n, .int .i64 o, .slice ax s.length cx] := by rw [hW1]; exact Bk.new w _ [.int .i64 2, .int .i64 n, .int .i64 o, .slice ax s.length cx]
  have HW1 := Lib.hid hW1
  have HL1 := Lib.hid hl1
  obtain ⟨z0, z1, z2, z3⟩ : W1.cell? ⟨w.heap.size, 0, none⟩ = some (.int .i64 2) ∧ W1.cell? ⟨w.heap.size, 1, none⟩ = some (.int .i64 n) ∧ W1.cell? ⟨w.heap.size, 2, none⟩ = some (.int .i64 o) ∧ W1.cell? ⟨w.heap.size, 3, none⟩ = some (.slice ax s.length cx) := ⟨hk1.cell 0, hk1.cell 1, hk1.cell 2, hk1.cell 3⟩
  have HC : Hid (Calls Try.prog 38 #[v, .int .i64 n, .int .i64 o, .slice ax s.length cx] W1 fun e w' => ∃ v', e = .returned (.tuple #[v', .int .i64 ec]) ∧ Sl eb w' v' D ∧ Below W1.heap.size W1 w' ∧ Own W1 w' v' D) := (rwrite_o (hv.below hl1 (Nat.le_refl _)) hd n o (hs.below hl1 (Nat.le_refl _)) hsl).mono fun e w' h => by
    obtain ⟨v', rfl, hs', hb, hown⟩ := h
    have h1 := congrArg Prod.fst hde
    have h2 := congrArg Prod.snd hde
    simp only at h1 h2
    rw [h1] at hs' hown
    exact ⟨v', by rw [h2], hs', hb, hown⟩
  have HDO := Lib.hid hdo
  clear hv hW1 hl1 hk1 hst hde hdo hs
  by_cases hec : ec = 0
  · subst hec
    rw [if_pos rfl] at HDO
    go_enter Try.func31, Try.ntmps31
    go_upto_region 1 with fail
    rw [← HW1.out]
    go_wp2_with (go_at_call 38; (with_reducible refine HC.out.mono ?_); rintro e w4 ⟨v4, rfl, hs4, hb4, hw4⟩)
    go_ret
    rw [HDO.out]
    exact ⟨_, rfl, hs4, stepAny HL1.out hb4, fun h => Or.inl ((hw4 h).imp fun B hB => ⟨Nat.le_trans HL1.out.size hB.1, hB.2⟩)⟩
  · rw [if_neg hec] at HDO
    have f1 : (ec != 0) = true := by rw [bne_iff_ne]; exact hec
    clear hec
    go_enter Try.func31, Try.ntmps31
    go_upto_region 1 with fail
    rw [← HW1.out]
    go_wp2_with (go_at_call 38; (with_reducible refine HC.out.mono ?_); rintro e w4 ⟨v4, rfl, hs4, hb4, hw4⟩)
    go_ret
    rw [HDO.out]
    exact ⟨_, rfl, HV.out.below (stepAny HL1.out hb4) (Nat.le_refl _), stepAny HL1.out hb4, fun _ => Or.inr ⟨rfl, rfl⟩⟩


theorem rdo3_o {v : Value} {d s : List UInt8} {w : World} (hv : Sl eb w v d) (hd : d.length = 12288) (n o : Int) {ax : Option Addr} {cx : Nat} (hs : Sl eb w (.slice ax s.length cx) s) (hsl : s.length ≤ 100000) : Calls Try.prog 31 #[v, .agg #[.int .i64 3, .int .i64 n, .int .i64 o, .slice ax s.length cx]] w fun e w' => ∃ v', e = .returned v' ∧ Sl eb w' v' (Nd.doOp d (3, n, o, s)) ∧ Below w.heap.size w w' ∧ OwnOr w w' v v' d (Nd.doOp d (3, n, o, s)) := by
  have HV := Lib.hid hv
  have hst : Nd.step d (3, n, o, s) = Nd.truncate d n o := by unfold Nd.step; simp
  obtain ⟨D, ec, hde⟩ : ∃ D ec, Nd.truncate d n o = (D, ec) := ⟨_, _, rfl⟩
  have hdo : Nd.doOp d (3, n, o, s) = if ec = 0 then D else d := by unfold Nd.doOp; rw [hst, hde]
  obtain ⟨W1, hW1⟩ : ∃ W, W = w.alloc (.cells #[.int .i64 3, .int .i64 n, .int .i64 o, .slice ax s.length cx] 55 (0, 0)) := ⟨_, rfl⟩
  have hl1 : Below w.heap.size w W1 := by rw [hW1]; exact low_alloc _ _
  have hk1 : Bk W1 w.heap.size 55 [.int .i64 3, .int .i64 n, .int .i64 o, .slice ax s.length cx] := by rw [hW1]; exact Bk.new w _ [.int .i64 3, .int .i64 n, .int .i64 o, .slice ax s.length cx]
  have HW1 := Lib.hid hW1
  have HL1 := Lib.hid hl1
  obtain ⟨z0, z1, z2, z3⟩ : W1.cell? ⟨w.heap.size, 0, none⟩ = some (.int .i64 3) ∧ W1.cell? ⟨w.heap.size, 1, none⟩ = some (.int .i64 n) ∧ W1.cell? ⟨w.heap.size, 2, none⟩ = some (.int .i64 o) ∧ W1.cell? ⟨w.heap.size, 3, none⟩ = some (.slice ax s.length cx) := ⟨hk1.cell 0, hk1.cell 1, hk1.cell 2, hk1.cell 3⟩
  have HC : Hid (Calls Try.prog 39 #[v, .int .i64 n, .int .i64 o] W1 fun e w' => ∃ v', e = .returned (.tuple #[v', .int .i64 ec]) ∧ Sl eb w' v' D ∧ Below W1.heap.size W1 w' ∧ Own W1 w' v' D) := (rtrunc_o (hv.below hl1 (Nat.le_refl _)) hd n o).mono fun e w' h => by
    obtain ⟨v', rfl, hs', hb, hown⟩ := h
    have h1 := congrArg Prod.fst hde
    have h2 := congrArg Prod.snd hde
    simp only at h1 h2
    rw [h1] at hs' hown
    exact ⟨v', by rw [h2], hs', hb, hown⟩
  have HDO := Lib.hid hdo
  clear hv hW1 hl1 hk1 hst hde hdo hs
  by_cases hec : ec = 0
  · subst hec
    rw [if_pos rfl] at HDO
    go_enter Try.func31, Try.ntmps31
    go_upto_region 1 with fail
    rw [← HW1.out]
    go_wp2_with (go_at_call 39; (with_reducible refine HC.out.mono ?_); rintro e w4 ⟨v4, rfl, hs4, hb4, hw4⟩)
    go_ret
    rw [HDO.out]
    exact ⟨_, rfl, hs4, stepAny HL1.out hb4, fun h => Or.inl ((hw4 h).imp fun B hB => ⟨Nat.le_trans HL1.out.size hB.1, hB.2⟩)⟩
  · rw [if_neg hec] at HDO
    have f1 : (ec != 0) = true := by rw [bne_iff_ne]; exact hec
    clear hec
    go_enter Try.func31, Try.ntmps31
    go_upto_region 1 with fail
    rw [← HW1.out]
    go_wp2_with (go_at_call 39; (with_reducible refine HC.out.mono ?_); rintro e w4 ⟨v4, rfl, hs4, hb4, hw4⟩)
    go_ret
    rw [HDO.out]
    exact ⟨_, rfl, HV.out.below (stepAny HL1.out hb4) (Nat.le_refl _), stepAny HL1.out hb4, fun _ => Or.inr ⟨rfl, rfl⟩⟩


theorem rdo_o {v : Value} {d : List UInt8} {x : Nd.Op} {w : World} (hv : Sl eb w v d) (hd : d.length = 12288) {ax : Option Addr} {cx : Nat} (hs : Sl eb w (.slice ax x.2.2.2.length cx) x.2.2.2) (hsl : x.2.2.2.length ≤ 100000) : Calls Try.prog 31 #[v, .agg #[.int .i64 x.1, .int .i64 x.2.1, .int .i64 x.2.2.1, .slice ax x.2.2.2.length cx]] w fun e w' => ∃ v', e = .returned v' ∧ Sl eb w' v' (Nd.doOp d x) ∧ Below w.heap.size w w' ∧ OwnOr w w' v v' d (Nd.doOp d x) := by
  obtain ⟨k, n, o, s⟩ := x
  simp only at hs hsl ⊢
  by_cases h0 : k = 0
  · subst h0; exact rdo0_o hv hd n o hs hsl
  by_cases h1 : k = 1
  · subst h1; exact rdo1_o hv hd n o hs hsl
  by_cases h2 : k = 2
  · subst h2; exact rdo2_o hv hd n o hs hsl
  by_cases h3 : k = 3
  · subst h3; exact rdo3_o hv hd n o hs hsl
  have hdo : Nd.doOp d (k, n, o, s) = d := by unfold Nd.doOp Nd.step; simp [h0, h1, h2, h3]
  obtain ⟨W1, hW1⟩ : ∃ W, W = w.alloc (.cells #[.int .i64 k, .int .i64 n, .int .i64 o, .slice ax s.length cx] 55 (0, 0)) := ⟨_, rfl⟩
  have hl1 : Below w.heap.size w W1 := by rw [hW1]; exact low_alloc _ _
  have hk1 : Bk W1 w.heap.size 55 [.int .i64 k, .int .i64 n, .int .i64 o, .slice ax s.length cx] := by rw [hW1]; exact Bk.new w _ [.int .i64 k, .int .i64 n, .int .i64 o, .slice ax s.length cx]
  have HW1 := Lib.hid hW1
  have HL1 := Lib.hid hl1
  have z0 : W1.cell? ⟨w.heap.size, 0, none⟩ = some (.int .i64 k) := hk1.cell 0
  have HV := Lib.hid hv
  have HDO := Lib.hid hdo
  have f0 : (k == 0) = false := by simpa using h0
  have f1 : (k == 1) = false := by simpa using h1
  have f2 : (k == 2) = false := by simpa using h2
  have f3 : (k == 3) = false := by simpa using h3
  clear hv hW1 hl1 hk1 hdo hs h0 h1 h2 h3
  go_enter Try.func31, Try.ntmps31
  go_upto_region 1 with fail
  rw [← HW1.out]
  go_wp2_with fail
  go_ret
  rw [HDO.out]
  exact ⟨_, rfl, HV.out.below HL1.out (Nat.le_refl _), HL1.out, fun _ => Or.inr ⟨rfl, rfl⟩⟩


set_option maxHeartbeats 4000000 in
theorem rdisk_o {v : Value} {l : List Nd.Op} {w : World} (hv : Oq w v l) (hf : Nd.few l = true) : Calls Try.prog 13 #[v] w fun e w' => ∃ v', e = .returned v' ∧ Sl eb w' v' (Nd.disk l) ∧ Below w.heap.size w w' ∧ Own w w' v' (Nd.disk l) := by
  obtain ⟨a, cap, rfl, hc, hm, -, hop⟩ := hv.open
  have HOP := Lib.hid hop
  have HFM := Lib.hid (rformat_w w)
  have hfl : ∀ x ∈ l, x.2.2.2.length ≤ 1600 := by
    unfold Nd.few at hf
    rw [Bool.and_eq_true, decide_eq_true_eq] at hf
    exact hf.1
  have HFL := Lib.hid hfl
  have HDS := Lib.hid (fun k hk => Nd.dk_step l (k := k) hk)
  have HDA := Lib.hid (fun k h h1 h2 => Nd.dk_all (l := l) (k := k) h h1 h2)
  have HDL : Hid (∀ k, k ≤ 30 → (Nd.dk l k).length = 12288) := fun k hk => (Nd.dk_ok l hk).1
  unfold maxLen at hm
  clear hop hv hf hfl
  go_enter Try.func13, Try.ntmps13
  go_upto_region 2 with (go_at_call 24; (with_reducible refine HFM.out.mono ?_); rintro e w1 ⟨g1, c1, rfl, ho1, hb1⟩)
  have HS1 : Hid (Sl eb w1 (.slice (some ⟨g1, 0, none⟩) 12288 c1) (Nd.dk l 0)) := own_sl0 ho1 Nd.format_len
  have HB1 := Lib.hid hb1
  have HO1 : Hid (Own w w1 (.slice (some ⟨g1, 0, none⟩) 12288 c1) (Nd.dk l 0)) := fun _ => ⟨_, Nat.le_refl _, ho1⟩
  clear ho1 hb1
  go_wp2_with fail
  go_loopw [3, 4] (fun uv nv wr => ∃ k : Nat, nv = .int .i64 k ∧ k ≤ l.length ∧ k ≤ 30 ∧ Sl eb wr uv (Nd.dk l k) ∧ Below w.heap.size w wr ∧ Own w wr uv (Nd.dk l k)) (fun _ i _ => 30 - (intOf i).toNat)
  case atStart => exact ⟨0, rfl, Nat.zero_le _, by omega, HS1.out, HB1.out, HO1.out⟩
  case round =>
    clear HS1 HB1 HO1
    obtain ⟨k, rfl, hk, hk30, hs, hb, how⟩ := hrel
    have hne : Nd.dk l k ≠ [] := fun e => by
      have := HDL.out k hk30
      rw [e] at this
      exact absurd this (by decide)
    have HOW := Lib.hid how
    have HNE := Lib.hid hne
    clear how hne
    by_cases hlt : k < l.length
    · by_cases h30 : k < 30
      · obtain ⟨b, off, a', c', rfl, hbl, hat, hsd⟩ := HOP.out k hlt
        obtain ⟨z0, z1, z2, z3⟩ := hat.below hb hbl
        have HDO := Lib.hid (rdo_o (x := l[k]) hs (HDL.out k hk30) (hsd.below hb (Nat.le_refl _)) (Nat.le_trans (HFL.out _ (List.getElem_mem hlt)) (by decide)))
        rw [HDS.out k hlt] at HDO
        have f1 : (0 : Int) ≤ (k : Int) := by omega
        have f2 : (k : Int) < (l.length : Int) := by omega
        have f3 : (k : Int) < 30 := by omega
        have HB := Lib.hid hb
        generalize l[k] = x at *
        clear hs hb hat hsd
        go_wp2_with (go_at_call 31; (with_reducible refine HDO.out.mono ?_); rintro e w2 ⟨v2, rfl, hs2, hb2, hw2⟩)
        go_roundw
        case rel => exact ⟨k + 1, by go_num, by omega, by omega, hs2, stepAny HB.out hb2, HOW.out.step HNE.out HB.out.size hb2 hw2⟩
        case measure => simp [intOf]; omega
      · have HE := Lib.hid (HDA.out k (.inr (by omega)) hk hk30)
        have f2 : (k : Int) < (l.length : Int) := by omega
        have f3 : ¬ (k : Int) < 30 := by omega
        rw [HE.out] at hs
        have HS := Lib.hid hs
        have HB := Lib.hid hb
        clear hs hb
        go_wp2_with fail
        go_ret
        exact ⟨_, rfl, HS.out, HB.out, by rw [← HE.out]; exact HOW.out⟩
    · have HE := Lib.hid (HDA.out k (.inl (by omega)) hk hk30)
      have f2 : ¬ (k : Int) < (l.length : Int) := by omega
      rw [HE.out] at hs
      have HS := Lib.hid hs
      have HB := Lib.hid hb
      clear hs hb
      go_wp2_with fail
      go_ret
      exact ⟨_, rfl, HS.out, HB.out, by rw [← HE.out]; exact HOW.out⟩
end Go.Proofs.Ytbklmpekpcneeaa
