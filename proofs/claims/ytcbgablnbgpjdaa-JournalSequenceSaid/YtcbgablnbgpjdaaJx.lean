/-
  The walks of Same, Home and Full of the reference.
-/
import Derived.Test.YtcbgablnbgpjdaaJw
namespace Jr
theorem full_take (l : List Wr) (k : Nat) (hk : k < l.length) (h20 : k < 20) : full (l.take (k + 1)) = full (l.take k) ++ [(l[k].1, l[k].2.take 128 ++ List.replicate (128 - l[k].2.length) 0)] := by
  unfold full
  rw [List.take_take, List.take_take, Nat.min_eq_right (by omega), Nat.min_eq_right (by omega), List.take_succ_eq_append_getElem hk, List.map_append]
  rfl
theorem full_len (l : List Wr) : (full l).length = min 20 l.length := by simp [full]
theorem full_all (l : List Wr) (k : Nat) (h : l.length ≤ k ∨ 20 ≤ k) : full (l.take k) = full l := by
  unfold full
  rw [List.take_take]
  rcases h with h | h
  · by_cases h2 : 20 ≤ k
    · rw [Nat.min_eq_left h2]
    · rw [Nat.min_eq_right (by omega), List.take_of_length_le h, List.take_of_length_le (by omega)]
  · rw [Nat.min_eq_left h]
theorem put_zero (bs : List UInt8) : put (List.replicate 128 0) 0 (bs.take 128) = bs.take 128 ++ List.replicate (128 - bs.length) 0 := by
  unfold put
  rw [List.take_zero, List.nil_append, List.drop_replicate, List.length_take, Nat.zero_add]
  congr 2
  omega
end Jr
namespace Go.Proofs.Ytcbgablnbgpjdaa
open Go.RowKit

set_option maxRecDepth 100000 in
set_option maxHeartbeats 1600000 in
theorem rsame_t {v1 v2 : Value} {ls : List Jr.Wr} {w : World} (ha : Wp w v1 ls) (hb : Wp w v2 ls) : Calls Try.prog 17 #[v1, v2] w fun e w' => e = .returned (.bool true) ∧ Below w.heap.size w w' := by
  obtain ⟨a1, cap1, rfl, h11, h12, -, hop1⟩ := ha.open
  obtain ⟨a2, cap2, rfl, h21, h22, -, hop2⟩ := hb.open
  have HOP1 := Lib.hid hop1
  have HOP2 := Lib.hid hop2
  unfold maxLen at h12 h22
  clear ha hb hop1 hop2
  go_enter Try.func17, Try.ntmps17
  go_wp2_with fail
  go_loopw [5] (fun i wr => ∃ k : Nat, i = .int .i64 k ∧ k ≤ ls.length ∧ Below w.heap.size w wr) (fun i _ => ls.length - (intOf i).toNat)
  case atStart => exact ⟨0, rfl, Nat.zero_le _, Below.refl _ _⟩
  case round =>
    obtain ⟨k, rfl, hk, hbl⟩ := hrel
    by_cases hlt : k < ls.length
    · obtain ⟨b, off, a', c', rfl, hbw, ⟨x0, x1⟩, hsx⟩ := HOP1.out k hlt
      obtain ⟨b2, off2, a2', c2', rfl, hbw2, ⟨u0, u1⟩, hsu⟩ := HOP2.out k hlt
      have hbd := hbl.drew
      have y0 : wr.drew.cell? ⟨b, off + k * 2, none⟩ = some (.int .i64 ls[k].1) := by rw [hbd.cell (p := ⟨b, off + k * 2, none⟩) hbw]; exact x0
      have y1 : wr.drew.cell? ⟨b, off + k * 2 + 1, none⟩ = some (.slice a' ls[k].2.length c') := by rw [hbd.cell (p := ⟨b, off + k * 2 + 1, none⟩) hbw]; exact x1
      have z0 : wr.drew.cell? ⟨b2, off2 + k * 2, none⟩ = some (.int .i64 ls[k].1) := by rw [hbd.cell (p := ⟨b2, off2 + k * 2, none⟩) hbw2]; exact u0
      have z1 : wr.drew.cell? ⟨b2, off2 + k * 2 + 1, none⟩ = some (.slice a2' ls[k].2.length c2') := by rw [hbd.cell (p := ⟨b2, off2 + k * 2 + 1, none⟩) hbw2]; exact u1
      have hc1 := conv_sl (hsx.below hbd (Nat.le_refl _))
      have hc2 := conv_sl (hsu.below hbd (Nat.le_refl _))
      have f1 : (0 : Int) ≤ (k : Int) := by omega
      have f2 : (k : Int) < (ls.length : Int) := by omega
      have HBL := Lib.hid hbl
      clear x0 x1 u0 u1 hsx hsu hbl hbd
      generalize ls[k].1 = n at *
      generalize ls[k].2.length = m at *
      generalize ls[k].2 = bs at *
      go_wp2_with fail
      go_region
      all_goals
        go_wp2_with fail
        go_roundw
        case rel => exact ⟨k + 1, by go_num, by omega, HBL.out.drew⟩
        case measure => simp [intOf]; omega
    · have HBL := Lib.hid hbl
      clear hbl
      go_wp2_with fail
      go_ret
      exact ⟨rfl, HBL.out⟩

theorem str_cat (a b : List UInt8) : (⟨a.toArray⟩ : ByteArray) ++ ⟨b.toArray⟩ = ⟨(a ++ b).toArray⟩ := by
  apply ByteArray.ext
  simp

set_option maxHeartbeats 800000 in
theorem rhomestr_w {v : Value} {d : List UInt8} {w : World} (hv : Sl eb w v d) (hd : d.length = 12288) : Calls Try.prog 30 #[v] w fun e w' => e = .returned (.string ⟨(Jr.homeOf d).toArray⟩) ∧ Below w.heap.size w w' := by
  obtain ⟨a, cap, rfl, hc, hm, hna, -⟩ := id hv
  unfold maxLen at hm
  rw [hd] at hv hc ⊢
  obtain ⟨b0, off0, rfl, hb0, -, -, -⟩ := hv.addr (by omega)
  have hc1 : (convert 29 9 (.slice (some ⟨b0, off0, none⟩) 128 cap)).run Try.prog w.drew = .ok (.string ⟨(d.take 128).toArray⟩) w.drew := conv_sl (w := w.drew) (by simpa using Sl.below (hv.cut 0 128 (by omega)) (low_drew w) (Nat.le_refl _))
  have hc2 : (convert 29 9 (.slice (some ⟨b0, off0 + 1664, none⟩) 10624 (cap - 1664))).run Try.prog w.drew = .ok (.string ⟨(d.drop 1664).toArray⟩) w.drew := conv_sl (w := w.drew) (by
    have h := Sl.below (hv.cut 1664 10624 (by omega)) (low_drew w) (Nat.le_refl _)
    rw [List.take_of_length_le (by rw [List.length_drop, hd]; omega)] at h
    exact h)
  have HE : Hid ((⟨(d.take 128).toArray⟩ : ByteArray) ++ ⟨(d.drop 1664).toArray⟩ = ⟨(Jr.homeOf d).toArray⟩) := str_cat _ _
  have hl1 : (d.take 128).length = 128 := by rw [List.length_take]; omega
  have hl2 : (d.drop 1664).length = 10624 := by rw [List.length_drop]; omega
  have s1 : (⟨(d.take 128).toArray⟩ : ByteArray).size = 128 := hl1
  have s2 : (⟨(d.drop 1664).toArray⟩ : ByteArray).size = 10624 := hl2
  clear hd hv
  generalize (⟨(d.take 128).toArray⟩ : ByteArray) = t1 at *
  generalize (⟨(d.drop 1664).toArray⟩ : ByteArray) = t2 at *
  go_enter Try.func30, Try.ntmps30
  go_wp2_with fail
  go_region
  all_goals
    go_wp2_with fail
    go_ret
    exact ⟨congrArg (fun s => Ending.returned (.string s)) HE.out, low_drew w⟩

set_option maxRecDepth 100000 in
set_option maxHeartbeats 1600000 in
theorem rfull_w {v : Value} {ls : List Jr.Wr} {w : World} {L : List Nat} (hL : ∀ b ∈ L, b < w.heap.size) (hv : Wp w v ls) (hbl8 : ∀ i (h : i < ls.length), ls[i].2.length ≤ 1000) :
    Calls Try.prog 21 #[v] w fun e w' => ∃ v', e = .returned v' ∧ Wo w.heap.size 66 L w' v' (Jr.full ls) ∧ Below w.heap.size w w' := by
  obtain ⟨a, cap, rfl, h1, h2, h3, hop⟩ := hv.open
  have HOP := Lib.hid hop
  have HLB := Lib.hid hL
  clear hL
  have HB8 := Lib.hid hbl8
  have HFT := Lib.hid (fun k hk h20 => Jr.full_take ls k hk h20)
  have HFA := Lib.hid (fun k h => Jr.full_all ls k h)
  obtain ⟨i0, hi, hz0, hz1, hz2⟩ := info_parts Try.info5
  obtain ⟨iJ, hiJ, hzJ0, hzJ1, hzJ2⟩ := info_parts Try.infoR
  have hszu : (Try.prog.info? 5).map (·.size) = some 1 := by kernel_rfl
  have hm1 : ∀ W : World, (Instr.makeSlice 29 (.int .i64 128) (.int .i64 128)).run Try.prog W = .ok (.slice (some ⟨W.heap.size, 0, none⟩) 128 128) (W.alloc (.cells ((List.replicate 128 (0 : UInt8)).map eb).toArray 5 (0, 0))) := fun W => by
    have h := run_make (P := Try.prog) W 29 5 i0 (.int .u8 0) Try.underlying29 hi hz0 .i64 .i64 128 128 (by decide) (by decide) (by rw [hz2]; decide) (by decide)
    rw [hz1] at h
    rw [show (List.replicate 128 (0 : UInt8)).map eb = List.replicate 128 (.int .u8 0) by simp [eb], ← toList_made]
    exact h
  have HMO : Hid (∀ W : World, (W.alloc (.cells ((List.replicate 128 (0 : UInt8)).map eb).toArray 5 (0, 0))).ownsRow W.heap.size 5 1 (.slice (some ⟨W.heap.size, 0, none⟩) 128 128) 128 ((List.replicate 128 (0 : UInt8)).map eb)) := fun W => by
    have h := Bk.own (Bk.new W 5 ((List.replicate 128 (0 : UInt8)).map eb)) (Nat.le_refl _) (by simp [maxLen])
    simpa using h
  generalize hzz : ((List.replicate 128 (0 : UInt8)).map eb).toArray = ZA at hm1 HMO
  clear hop hv hbl8 hzz
  go_enter Try.func21, Try.ntmps21
  go_wp2_with fail
  go_loopw [3, 4, 5] (fun s3 i _ wr => ∃ (k : Nat) (v : Value), v = s3 ∧ i = .int .i64 k ∧ k ≤ ls.length ∧ k ≤ 20 ∧ Wo w.heap.size 66 L wr v (Jr.full (ls.take k)) ∧ Below w.heap.size w wr) (fun _ i _ _ => ls.length - (intOf i).toNat)
  case atStart => exact ⟨0, _, rfl, rfl, Nat.zero_le _, Nat.zero_le _, Wo.nil, Below.refl _ _⟩
  case round =>
    obtain ⟨k, v, rfl, rfl, hk, hk20, hwo, hbl⟩ := hrel
    have HWO := Lib.hid hwo
    have HBL := Lib.hid hbl
    have hbs := hbl.size
    have HLK : Hid ((Jr.full (ls.take k)).length ≤ 20) := by show _ ≤ _; rw [Jr.full_len]; exact Nat.min_le_left _ _
    by_cases hlt : k < ls.length ∧ k < 20
    · obtain ⟨g1, g2⟩ := hlt
      obtain ⟨b, off, a', c', rfl, hbw, ⟨x0, x1⟩, hsx⟩ := HOP.out k g1
      have HB8k := Lib.hid (HB8.out k g1)
      have HFTk := Lib.hid (HFT.out k g1 g2)
      have hlow1 := HBL.out.alloc hbs (.cells ZA 5 (0, 0))
      have y0 : ∀ W, Below w.heap.size w W → W.cell? ⟨b, off + k * 2, none⟩ = some (.int .i64 ls[k].1) := fun W hW => (hW.cell (p := ⟨b, off + k * 2, none⟩) hbw).trans x0
      have y1 : (wr.alloc (.cells ZA 5 (0, 0))).cell? ⟨b, off + k * 2 + 1, none⟩ = some (.slice a' ls[k].2.length c') := (hlow1.cell (p := ⟨b, off + k * 2 + 1, none⟩) hbw).trans x1
      have HY0 := Lib.hid y0
      have HS := Lib.hid (hsx.below hlow1 (Nat.le_refl _))
      have f1 : (0 : Int) ≤ (k : Int) := by omega
      have f2 : (k : Int) < (ls.length : Int) := by omega
      have HLOW1 := Lib.hid hlow1
      have HPZ := Lib.hid (Jr.put_zero ls[k].2)
      clear hwo hbl x0 x1 hsx y0 hlow1
      generalize ls[k].1 = n at *
      generalize ls[k].2 = bs at *
      go_upto_region 7 with (refine wpList_copy_own8 rfl (.tmp 17) (.tmp 22) 29 29 rfl 5 Try.underlying29 hszu wr.heap.size wr.heap.size 128 128 (List.replicate 128 0) (HMO.out wr) 0 128 128 rfl (by omega) (.slice a' bs.length c') bs rfl HS.out ?_; intro w5 ho5 hg5)
      rw [HPZ.out] at ho5
      have hl5 : Below wr.heap.size wr w5 := (low_alloc wr _).trans (below_of_grown hg5 (Nat.le_refl _) (by simp))
      have hy0 := HY0.out w5 (HBL.out.trans (hl5.mono hbs))
      have HO5 := Lib.hid ho5
      have HL5 := Lib.hid hl5
      clear ho5 hg5 y1
      go_wp2_with (at_builtin; refine wpList_append_wo rfl _ _ 22 rfl w.heap.size 66 iJ _ Try.underlying22 hiJ hzJ0 hzJ1 hzJ2 rfl L v (Jr.full (ls.take k)) rfl ((HWO.out.below HL5.out).below (low_alloc _ _)) (by have := HLK.out; omega) w5.heap.size n (.slice (some ⟨wr.heap.size, 0, none⟩) 128 128) (bs.take 128 ++ List.replicate (128 - bs.length) 0) rfl (heap_alloc_new _ _) ((own_av HO5.out (fun b hb => Nat.lt_of_lt_of_le (HLB.out b hb) hbs) fun b hb => (HWO.out.lt b hb).2).alloc _) (by simp; have := hl5.size; omega) ?_; intro v7 w7 hwo7 hs7 hb7)
      go_roundw
      case rel => exact ⟨k + 1, _, rfl, by go_num, by omega, by omega, by rw [HFTk.out]; exact hwo7, ((HBL.out.trans (HL5.out.mono hbs)).alloc (by have := hl5.size; omega) _).trans hb7⟩
      case measure => simp [intOf]; omega
    · have HFE := Lib.hid (HFA.out k (by omega))
      clear hwo hbl
      by_cases g1 : k < ls.length
      · have g2 : ¬ k < 20 := by omega
        have g3 : ¬ (k : Int) < 20 := by omega
        go_wp2_with fail
        go_ret
        exact ⟨_, rfl, by rw [← HFE.out]; exact HWO.out, HBL.out⟩
      · go_wp2_with fail
        go_ret
        exact ⟨_, rfl, by rw [← HFE.out]; exact HWO.out, HBL.out⟩
end Go.Proofs.Ytcbgablnbgpjdaa
