/-
  The walk of Format of inodes.
-/
import Derived.Test.YtbklmpekpcneeaaBg
set_option linter.unusedVariables false
set_option linter.unusedSimpArgs false
namespace Nd
theorem vformat_plain : putB (doneTo blank ((List.replicate 32 free).set 0 rootI) 32) (fmtTo 19) = format := by
  have hl : ∀ x ∈ (List.replicate 32 free).set 0 rootI, x.bl.length = 12 := fun x hx => by
    rcases List.mem_or_eq_of_mem_set hx with h | h
    · rw [List.eq_of_mem_replicate h]; rfl
    · rw [h]; rfl
  have hdl := doneTo_len blank_len hl 32 (Nat.le_refl _)
  refine ext_g (by rw [putB_len hdl (fmtTo_len 19), format_len]) fun i hi => ?_
  rw [putB_g hdl (fmtTo_len 19), format_g, doneTo_g blank_len hl 32 (Nat.le_refl _), fmtTo_all]
  have ha : at_ 0 = 1792 := rfl
  rw [ha]
  by_cases h1 : 1664 ≤ i ∧ i < 1676
  · rw [if_pos h1, if_neg (by omega), if_pos h1]
  rw [if_neg h1, if_neg h1]
  by_cases h2 : 1792 ≤ i ∧ i < 1792 + 16
  · rw [if_pos (by omega), if_pos h2, show (i - 1792) / 16 = 0 by omega, show (i - 1792) % 16 = i - 1792 by omega]
    rfl
  rw [if_neg h2]
  by_cases h3 : 1792 ≤ i ∧ i < 1792 + 16 * 32
  · rw [if_pos h3, blank_g, if_neg (by omega), if_neg (by omega)]
    have e : ((List.replicate 32 free).set 0 rootI).getD ((i - 1792) / 16) free = free := by
      rw [List.getD_eq_getElem?_getD, List.getElem?_set_ne (by omega), List.getElem?_replicate, if_pos (by omega)]
      rfl
    rw [e]
    have hz : ∀ j, j < 16 → g (enc free) j = 0 := by decide
    exact hz _ (Nat.mod_lt _ (by decide))
  · rw [if_neg h3]
end Nd
namespace Go.Proofs.Ytbklmpekpcneeaa
open Go.RowKit
set_option maxRecDepth 100000

set_option maxHeartbeats 8000000 in
theorem vformat_w (w : World) : Calls Try.prog 23 #[] w fun e w' => ∃ v', e = .returned v' ∧ Sl eb w' v' Nd.format ∧ Below w.heap.size w w' := by
  obtain ⟨i0, hi0, hz0, hz1, hz2⟩ := info_parts Try.info5
  have hszu : (Try.prog.info? 5).map (·.size) = some 1 := by kernel_rfl
  have hm1 : (Instr.makeSlice 25 (.int .i64 12288) (.int .i64 12288)).run Try.prog w = .ok (.slice (some ⟨w.heap.size, 0, none⟩) 12288 12288) (w.alloc (.cells ((List.replicate 12288 (0 : UInt8)).map eb).toArray 5 (0, 0))) := by
    have h := run_make (P := Try.prog) w 25 5 i0 (.int .u8 0) Try.underlying25 hi0 hz0 .i64 .i64 12288 12288 (by decide) (by decide) (by rw [hz2]; decide) (by decide)
    rw [hz1] at h
    rw [show (List.replicate 12288 (0 : UInt8)).map eb = List.replicate 12288 (.int .u8 0) by rw [List.map_replicate]; rfl, ← toList_made]
    exact h
  have hm2 : ∀ W : World, (Instr.makeSlice 25 (.int .i64 12) (.int .i64 12)).run Try.prog W = .ok (.slice (some ⟨W.heap.size, 0, none⟩) 12 12) (W.alloc (.cells ((List.replicate 12 (0 : UInt8)).map eb).toArray 5 (0, 0))) := fun W => by
    have h := run_make (P := Try.prog) W 25 5 i0 (.int .u8 0) Try.underlying25 hi0 hz0 .i64 .i64 12 12 (by decide) (by decide) (by rw [hz2]; decide) (by decide)
    rw [hz1] at h
    rw [show (List.replicate 12 (0 : UInt8)).map eb = List.replicate 12 (.int .u8 0) by rw [List.map_replicate]; rfl, ← toList_made]
    exact h
  have HB12 : Hid (∀ W : World, (W.alloc (.cells ((List.replicate 12 (0 : UInt8)).map eb).toArray 5 (0, 0))).ownsRow W.heap.size 5 1 (.slice (some ⟨W.heap.size, 0, none⟩) 12 12) (Nd.fmtTo 0).length ((Nd.fmtTo 0).map eb)) := fun W => by
    have h0 : Nd.fmtTo 0 = List.replicate 12 (0 : UInt8) := rfl
    rw [h0]
    obtain ⟨Z, hZ⟩ : ∃ Z, Z = List.replicate 12 (0 : UInt8) := ⟨_, rfl⟩
    have hZl : Z.length = 12 := by rw [hZ, List.length_replicate]
    rw [← hZ]
    have h := Bk.own (Bk.new W 5 (Z.map eb)) (Nat.le_refl _) (by simp [maxLen, hZl])
    rw [List.length_map, hZl] at h
    rw [hZl]
    exact h
  generalize hzb : ((List.replicate 12 (0 : UInt8)).map eb).toArray = ZB at hm2 HB12
  have hlen : ((List.replicate 12288 (0 : UInt8)).map eb).length = 12288 := by rw [List.length_map, List.length_replicate]
  obtain ⟨W0, hW0⟩ : ∃ W, W = w.alloc (.cells ((List.replicate 12288 (0 : UInt8)).map eb).toArray 5 (0, 0)) := ⟨_, rfl⟩
  obtain ⟨g, hg⟩ : ∃ y, y = w.heap.size := ⟨_, rfl⟩
  have hk0 : Bk W0 g 5 ((List.replicate 12288 (0 : UInt8)).map eb) := by rw [hW0, hg]; exact Bk.new w _ _
  have hsp : splice ((List.replicate 12288 (0 : UInt8)).map eb) 0 (([82, 70, 83, 49] : List UInt8).map eb) = (Jr.put (List.replicate 12288 0) 0 [82, 70, 83, 49]).map eb := by
    unfold splice Jr.put
    simp only [List.map_append, List.map_take, List.map_drop, List.length_map, List.append_assoc]
  have hl0 : Below w.heap.size w W0 := by rw [hW0]; exact low_alloc _ _
  rw [← hW0, ← hg] at hm1
  have hgw : w.heap.size ≤ g := by omega
  generalize (List.replicate 12288 (0 : UInt8)).map eb = ZL at *
  have HBL1 := Lib.hid Nd.blank_len1
  have HIDL := Lib.hid Nd.idle_len
  have HBL : Hid (Jr.put (Jr.put (List.replicate 12288 0) 0 [82, 70, 83, 49]) 128 (Jr.idle 0) = Nd.blank) := rfl
  generalize Jr.put (List.replicate 12288 0) 0 [82, 70, 83, 49] = D1 at *
  have HE : Hid (∀ W, Calls Try.prog 55 #[.int .i64 0] W fun e w' => ∃ a c, e = .returned (.tuple #[.slice a 128 c, .int .i64 0]) ∧ Sl eb w' (.slice a 128 c) (Jr.idle 0) ∧ Below W.heap.size W w') := fun W => (empty_w 0 (by decide) (by decide) W).mono fun e w' h => by
    obtain ⟨v, rfl, ho, hb⟩ := h
    have e : Jr.empty 0 = (Jr.idle 0, 0) := if_neg (by decide)
    rw [e] at ho ⊢
    have hs := own_sl0 ho rfl
    obtain ⟨a, c, rfl, -⟩ := id hs
    simp only [HIDL.out] at hs ⊢
    exact ⟨a, c, rfl, hs, hb⟩
  have HFR : Hid ((Try.zeroCells85.setIfInBounds 0 (.slice (some ⟨g, 0, none⟩) 12288 12288)) = (vc (.slice (some ⟨g, 0, none⟩) 12288 12288) (List.replicate 32 Nd.free) (.slice none 0 0)).toArray) := by
    show _ = _
    kernel_rfl
  have HFF := Lib.hid full_free
  generalize hFR : List.replicate 32 Nd.free = FR at HFR HFF
  have HFI := Lib.hid hFR
  have HSP := Lib.hid hsp
  have HLEN := Lib.hid hlen
  have HK0 := Lib.hid hk0
  have HL0 := Lib.hid hl0
  clear hlen hk0 hsp hl0 hW0 hg hzb hFR
  go_enter Try.func23, Try.ntmps23
  go_upto_region 2 with (refine Go.Great.wpList_boxTo rfl 85 (.tmp 6) rfl (some 7) rfl W0.heap.size rfl (vc (.slice (some ⟨g, 0, none⟩) 12288 12288) FR (.slice none 0 0)).toArray HFR.out ?_)
  obtain ⟨W2, hW2⟩ : ∃ W, W = W0.alloc (.cells (vc (.slice (some ⟨g, 0, none⟩) 12288 12288) FR (.slice none 0 0)).toArray 85 (0, 0)) := ⟨_, rfl⟩
  obtain ⟨a, ha⟩ : ∃ y, y = W0.heap.size := ⟨_, rfl⟩
  have hv2 : Vw W2 a (.slice (some ⟨g, 0, none⟩) 12288 12288) (.slice none 0 0) FR := ⟨by rw [hW2, ha]; exact Bk.new W0 _ _, HFF.out⟩
  have hlw : Below W0.heap.size W0 W2 := by rw [hW2]; exact low_alloc _ _
  have hk2 := HK0.out.below hlw HK0.out.lt
  have hb2 : Below w.heap.size w W2 := stepAny HL0.out hlw
  have hag : a ≠ g := by rw [ha]; exact Nat.ne_of_gt HK0.out.lt
  have hwa : w.heap.size ≤ a := by rw [ha]; exact HL0.out.size
  rw [← hW2, ← ha]
  clear hW2 ha hm1 hlw
  have z0 := hv2.disk
  have HV2 := Lib.hid hv2
  have HK2 := Lib.hid hk2
  have HB2 := Lib.hid hb2
  clear hv2 hk2 hb2
  go_upto_region 3 with (refine wpList_copy_str rfl (.tmp 11) (.const (.string ⟨#[82, 70, 83, 49]⟩)) 25 9 rfl 5 Try.underlying25 hszu g 0 12288 12288 _ [82, 70, 83, 49] rfl rfl rfl ZL 5 HK2.out (by simp) (by rw [HLEN.out]; simp) ?_; intro w3 hk3 hg3)
  rw [HSP.out] at hk3
  have hgl2 := HK2.out.lt
  have hv3 := HV2.out.but (But.grown hg3 (Nat.le_of_lt hgl2)) hag
  have hb3 : Below w.heap.size w w3 := HB2.out.trans (below_of_grown hg3 hgw HB2.out.size)
  have ho3 : w3.ownsRow w.heap.size 5 1 (.slice (some ⟨g, 0, none⟩) 12288 12288) 12288 (D1.map eb) := by
    have h := bk_own (base := w.heap.size) (n := 12288) (cap := 12288) hgw (Nat.le_refl _) (by decide) hk3 (by rw [List.length_map]; exact HBL1.out)
    rw [List.take_of_length_le (by rw [List.length_map, HBL1.out]; exact Nat.le_refl _)] at h
    exact h
  have HO3 := Lib.hid ho3
  have HV3 := Lib.hid hv3
  have HB3 := Lib.hid hb3
  clear hk3 hg3 hgl2 hv3 hb3 ho3 HK2 HV2 HB2 HSP HLEN HK0 HL0 z0
  go_upto_region 4 with (go_at_call 55; (with_reducible refine (HE.out _).mono ?_); rintro e w4 ⟨a2, c2, rfl, hs2, hb4⟩)
  have hv4 := HV3.out.below hb4 HV3.out.k.lt
  have ho4 := own_below HO3.out hb4
  have HB4 := Lib.hid (stepAny HB3.out hb4)
  have HBK : Hid (Calls Try.prog 43 #[.pointer (some ⟨a, 0, none⟩), .int .i64 1] w4 fun e w' => e = .returned (.slice (some ⟨g, 128, none⟩) 128 12160) ∧ w4 = w') := vblock_w g a 0 12288 1 (by decide) (Nat.le_refl _) (by decide) hv4.disk
  have HV4 := Lib.hid hv4
  have HO4 := Lib.hid ho4
  have HS2 := Lib.hid hs2
  clear hv4 ho4 hs2 hb4 HE HB3 HO3 HV3
  go_upto_region 5 with (first
    | (go_at_call 43; (with_reducible refine HBK.out.mono ?_); rintro e w' ⟨rfl, rfl⟩)
    | (refine wpList_copy_own8 rfl (.tmp 18) (.tmp 19) 25 25 rfl 5 Try.underlying25 hszu w.heap.size g 12288 12288 D1 HO4.out 128 128 12160 rfl (by omega) (.slice a2 128 c2) (Jr.idle 0) rfl HS2.out ?_; intro w5 ho5 hg5))
  rw [List.take_of_length_le (by rw [HIDL.out]; exact Nat.le_refl _), HBL.out] at ho5
  have hgl4 := (HO4.out.lt g rfl).2
  have hv5 := HV4.out.but (But.grown hg5 (Nat.le_of_lt hgl4)) hag
  have hb5 : Below w.heap.size w w5 := HB4.out.trans (below_of_grown hg5 hgw HB4.out.size)
  have HO5 := Lib.hid ho5
  have HV5 := Lib.hid hv5
  have HB5 := Lib.hid hb5
  clear ho5 hg5 hgl4 hv5 hb5 HO4 HV4 HB4 HS2 HBK
  go_upto_region 6 with (refine wpList_store_vino rfl 42 _ _ rfl a 0 _ rfl rfl Nd.rootI rfl rfl HV5.out (by decide) Try.sizeII ?_; intro w6 hv6 hg6)
  have hal5 := HV5.out.k.lt
  have hbut6 : But a w5 w6 := But.grown hg6 (Nat.le_of_lt hal5)
  have ho6 := own_keep HO5.out (w' := w6) (fun j hj => by
    have e : g = j := by simpa [Value.ownBlock] using hj
    subst e
    exact hbut6.rest g (HO5.out.lt g rfl).2 (fun e => hag e.symm))
  have hb6 : Below w.heap.size w w6 := HB5.out.trans (below_of_grown hg6 hwa HB5.out.size)
  obtain ⟨L, hL⟩ : ∃ L, L = FR.set 0 Nd.rootI := ⟨_, rfl⟩
  rw [← hL] at hv6
  have HL := Lib.hid hL
  have hv7 := hv6.below (low_alloc w6 (.cells ZB 5 (0, 0))) hv6.k.lt
  have hgl6 := (ho6.lt g rfl).2
  have hal6 := hv6.k.lt
  obtain ⟨z1, y1⟩ := hv7.bits
  have HV6 := Lib.hid hv6
  have HO6 := Lib.hid ho6
  have HB6 := Lib.hid hb6
  clear hbut6 ho6 hb6 hv6 hg6 hL hv7 hal5 HO5 HV5 HB5
  go_upto_region 7 with fail
  have hs6 : (w6.setCell ⟨a, 449, none⟩ (.slice (some ⟨w6.heap.size, 0, none⟩) 12 12)).heap.size = w6.heap.size := by simp
  have hv8 := (HV6.out.set_bits (.slice (some ⟨w6.heap.size, 0, none⟩) 12 12)).below (low_alloc (w6.setCell ⟨a, 449, none⟩ (.slice (some ⟨w6.heap.size, 0, none⟩) 12 12)) (.cells ZB 5 (0, 0))) (by rw [hs6]; exact HV6.out.k.lt)
  have ho8 := own_below (own_keep HO6.out (w' := w6.setCell ⟨a, 449, none⟩ (.slice (some ⟨w6.heap.size, 0, none⟩) 12 12)) (fun j hj => by
    have e : g = j := by simpa [Value.ownBlock] using hj
    subst e
    exact Below.heap_setCell _ _ _ _ (fun e => hag e.symm))) (low_alloc (w6.setCell ⟨a, 449, none⟩ (.slice (some ⟨w6.heap.size, 0, none⟩) 12 12)) (.cells ZB 5 (0, 0)))
  have hb8 := stepAny (HB6.out.setCell (p := ⟨a, 449, none⟩) hwa (.slice (some ⟨w6.heap.size, 0, none⟩) 12 12)) (low_alloc (w6.setCell ⟨a, 449, none⟩ (.slice (some ⟨w6.heap.size, 0, none⟩) 12 12)) (.cells ZB 5 (0, 0)))
  have hav0 := HB12.out (w6.setCell ⟨a, 449, none⟩ (.slice (some ⟨w6.heap.size, 0, none⟩) 12 12))
  rw [hs6] at hav0
  have hav8 := (own_fresh hav0).less (Y := fun b => b = g ∨ b = a) (fun b _ (hy : b = g ∨ b = a) => hy.elim (fun e => e ▸ hgl6) (fun e => e ▸ hal6))
  clear hav0 hs6
  generalize (w6.setCell ⟨a, 449, none⟩ (.slice (some ⟨w6.heap.size, 0, none⟩) 12 12)).alloc (.cells ZB 5 (0, 0)) = w8 at hv8 ho8 hb8 hav8 ⊢
  have HV8 := Lib.hid hv8
  have HO8 := Lib.hid ho8
  have HB8 := Lib.hid hb8
  have HAV8 := Lib.hid hav8
  have HHA : Hid (∀ W v (B : List UInt8) (k : Nat), Sl eb W v B → B.length = 12 → k < 96 → Calls Try.prog 56 #[v, .int .i64 (k : Int), .bool true] W fun e w' => ∃ v', e = .returned (.tuple #[v', .int .i64 0]) ∧ Av (fun b => b < W.heap.size) (fun W => Sl eb W v' (Ex.putB B k true)) w' ∧ Below W.heap.size W w') := fun W v B k hv hB hk => by
    have h := eset_w (k : Int) true hv (by omega) (by omega)
    rw [show Ex.setR B (k : Int) true = (Ex.putB B k true, 0) by unfold Ex.setR; rw [if_pos (by omega), Int.toNat_natCast]] at h
    exact h
  clear hv8 ho8 hb8 hav8 z1 y1 HV6 HO6 HB6 hgl6 hal6
  go_wp2_with fail
  go_loopw [31] (fun i wr => ∃ (k : Nat) (bv : Value), i = .int .i64 k ∧ k ≤ 19 ∧ Vw wr a (.slice (some ⟨g, 0, none⟩) 12288 12288) bv L ∧ wr.ownsRow w.heap.size 5 1 (.slice (some ⟨g, 0, none⟩) 12288 12288) 12288 (Nd.blank.map eb) ∧ Av (fun b => b = g ∨ b = a) (fun W => Sl eb W bv (Nd.fmtTo k)) wr ∧ Below w.heap.size w wr) (fun i _ => 19 - (intOf i).toNat)
  case atStart => exact ⟨0, _, rfl, by omega, HV8.out, HO8.out, HAV8.out, HB8.out⟩
  case round =>
    rename World => wr
    obtain ⟨k, bv, rfl, hk, hv, ho, hav, hb⟩ := hrel
    have ha := hv.k.lt
    have hgl := (ho.lt g rfl).2
    have HV := Lib.hid hv
    have HO := Lib.hid ho
    have HAV := Lib.hid hav
    have HB := Lib.hid hb
    by_cases hlt : k < 19
    · have f5 : (k : Int) < 19 := by omega
      have HST := Lib.hid (HHA.out wr bv _ k (Av.here hav) (Nd.fmtTo_len k) (by omega))
      obtain ⟨z1, y1⟩ := hv.bits
      clear hv ho hav hb
      go_wp2_with (go_at_call 56; (with_reducible refine HST.out.mono ?_); rintro e w9 ⟨v9, rfl, hs9, hb9⟩; obtain ⟨u2, c2, rfl, -⟩ := id (Av.here hs9); have hv9 := HV.out.below hb9 ha; clear z1 y1; obtain ⟨z1, y1⟩ := hv9.bits)
      go_roundw
      case rel =>
        refine ⟨k + 1, _, by go_num, by omega, hv9.set_bits _, own_keep (own_below HO.out hb9) (fun j hj => ?_), ?_, (stepAny HB.out hb9).setCell (p := ⟨a, 449, none⟩) hwa _⟩
        · have e : g = j := by simpa [Value.ownBlock] using hj
          subst e
          exact Below.heap_setCell _ _ _ _ (fun e => hag e.symm)
        · rw [← Nd.fmtTo_step]
          exact (Av.set (p := ⟨a, 449, none⟩) hs9 ha _).less (fun b _ (hy : b = g ∨ b = a) => hy.elim (fun e => e ▸ hgl) (fun e => e ▸ ha))
      case measure => simp [intOf]; omega
    · have f5 : ¬ (k : Int) < 19 := by omega
      have hk19 : k = 19 := by omega
      rw [hk19] at hav
      have HFULL : Hid (Nd.putB (Nd.doneTo Nd.blank L 32) (Nd.fmtTo 19) = Nd.format) := by
        show _ = _
        rw [HL.out, ← HFI.out]
        exact Nd.vformat_plain
      have HDN := Lib.hid (vdone_w hv ho Nd.blank_len hag (hav.less (fun b _ hy => Or.inl hy)) (Nd.fmtTo_len 19))
      clear hv ho hav hb hk19 hlt
      go_wp2_with (go_at_call 44; (with_reducible refine HDN.out.mono ?_); rintro e w9 ⟨rfl, ho9, hb9⟩)
      go_ret
      rw [HFULL.out] at ho9
      exact ⟨_, rfl, own_sl0 ho9 Nd.format_len, HB.out.trans (hb9.low.mono hgw)⟩
end Go.Proofs.Ytbklmpekpcneeaa
