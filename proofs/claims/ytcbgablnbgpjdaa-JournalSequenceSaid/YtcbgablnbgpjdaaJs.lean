/-
  The walk of home of the reference.
-/
import Derived.Test.YtcbgablnbgpjdaaJr
namespace Go.Proofs.Ytcbgablnbgpjdaa
open Go.RowKit

theorem take_snoc {α : Type} (l : List α) (k : Nat) (hk : k < l.length) : l.take (k + 1) = l.take k ++ [l[k]] := List.take_succ_eq_append_getElem hk

set_option maxRecDepth 100000 in
set_option maxHeartbeats 4000000 in
theorem rhome_w (seq : Int) {v : Value} {ls : List Jr.Wr} {w : World} (hv : Wp w v ls) (hl : ls.length ≤ 1000) (h128 : ∀ i (h : i < ls.length), ls[i].2.length = 128) :
    Calls Try.prog 38 #[.int .i64 seq, v] w fun e w' => ∃ v', e = .returned v' ∧ Wo w.heap.size 66 [] w' v' (Jr.homes seq ls) ∧ Below w.heap.size w w' := by
  obtain ⟨a, cap, rfl, h1, h2, h3, hop⟩ := hv.open
  have HOP := Lib.hid hop
  have H128 := Lib.hid h128
  have HTS := Lib.hid (fun k hk => take_snoc ls k hk)
  have HHM : Hid (Jr.homes seq ls = ls ++ [(1, Jr.idle seq)]) := rfl
  generalize Jr.homes seq ls = hm at *
  obtain ⟨i0, hi, hz0, hz1, hz2⟩ := info_parts Try.info5
  obtain ⟨iJ, hiJ, hzJ0, hzJ1, hzJ2⟩ := info_parts Try.infoR
  clear hop hv h128
  go_enter Try.func38, Try.ntmps38
  go_wp2_with fail
  go_loopw [5, 6] (fun s5 i wr => ∃ (k : Nat) (v : Value), v = s5 ∧ i = .int .i64 k ∧ k ≤ ls.length ∧ Wo w.heap.size 66 [] wr v (ls.take k) ∧ Below w.heap.size w wr) (fun _ i _ => ls.length - (intOf i).toNat)
  case atStart => exact ⟨0, _, rfl, rfl, Nat.zero_le _, Wo.nil, Below.refl _ _⟩
  case round =>
    obtain ⟨k, v, rfl, rfl, hk, hwo, hbl⟩ := hrel
    have hlk : (ls.take k).length = k := by rw [List.length_take]; omega
    obtain ⟨av, cv, hav, -, -⟩ := hwo.slice
    rw [hlk] at hav
    subst hav
    have HLK := Lib.hid hlk
    have HWO := Lib.hid hwo
    have HBL := Lib.hid hbl
    have hbs := hbl.size
    by_cases hlt : k < ls.length
    · obtain ⟨b, off, a', c', rfl, hbw, ⟨x0, x1⟩, hsx⟩ := HOP.out k hlt
      have hl8 := H128.out k hlt
      have HTSk := Lib.hid (HTS.out k hlt)
      have HKK : Hid (ls[k] = (ls[k].1, ls[k].2)) := rfl
      rw [hl8] at x1 hsx
      have HL8 := Lib.hid hl8
      have HX0 : Hid (∀ W, Below w.heap.size w W → W.cell? ⟨b, off + k * 2, none⟩ = some (.int .i64 ls[k].1) ∧ W.cell? ⟨b, off + k * 2 + 1, none⟩ = some (.slice a' 128 c')) := fun W hW => ⟨(hW.cell (p := ⟨b, off + k * 2, none⟩) hbw).trans x0, (hW.cell (p := ⟨b, off + k * 2 + 1, none⟩) hbw).trans x1⟩
      have HRD : Hid (∀ W, Below w.heap.size w W → Sl eb W (.slice a' 128 c') ls[k].2) := fun W hW => hsx.below hW (Nat.le_refl _)
      have f1 : (0 : Int) ≤ (k : Int) := by omega
      have f2 : (k : Int) < (ls.length : Int) := by omega
      obtain ⟨y0, y1⟩ := HX0.out wr.drew HBL.out.drew
      clear hlk hwo hbl x0 x1 hsx hl8
      generalize ls[k].1 = n at *
      generalize ls[k].2 = bs at *
      go_wp2_with fail
      go_region_held3 (fun w' => w'.cell? ⟨b, off + k * 2, none⟩ = some (.int .i64 n) ∧ w'.cell? ⟨b, off + k * 2 + 1, none⟩ = some (.slice a' 128 c')) (first | exact ⟨by with_reducible assumption, by with_reducible assumption⟩ | (exact HX0.out _ (HBL.out.alloc hbs _).drew) | go_keep) ((first
        | (refine step_append_sl eb (fun _ => rfl) rfl (.tmp 19) (.tmp 24) 29 rfl wr.heap.size 5 i0 (.int .u8 0) 1 Try.underlying29 hi hz0 hz1 hz2 rfl (.slice (some ⟨wr.heap.size, 0, none⟩) 0 0) 0 [] rfl (World.ownsRow_made wr #[] 0 (Nat.le_refl _) (Nat.zero_le _) rfl) (.slice a' 128 c') bs rfl (HRD.out _ (HBL.out.alloc hbs _).drew) (by rw [HL8.out]; unfold maxLen; omega) (by rw [HL8.out]; omega) (by simp) ?_; intro v5 w5 ho5 hs5 hb5; rw [HL8.out, Nat.zero_add, List.nil_append] at ho5; obtain ⟨a5, c5, rfl⟩ := own_slice ho5; have hb5' := (low_adrew wr _).trans hb5; obtain ⟨y50, y51⟩ := HX0.out w5 (HBL.out.trans (hb5'.mono hbs)))
        | (refine step_append_wo rfl (.tmp 13) (.tmp 27) 22 rfl w.heap.size 66 iJ _ Try.underlying22 hiJ hzJ0 hzJ1 hzJ2 rfl [] (.slice av k cv) (ls.take k) rfl ((HWO.out.below hb5').below (low_alloc _ _)) (by rw [HLK.out]; omega) w5.heap.size n (.slice a5 128 c5) bs rfl (heap_alloc_new _ _) ((own_av ho5 (by simp) fun b hb => (HWO.out.lt b hb).2).alloc _) (by simp; have := hb5'.size; omega) ?_; intro v7 w7 hwo7 hs7 hb7; have hb7' := ((HBL.out.trans (hb5'.mono hbs)).alloc (by have := hb5'.size; omega) _).trans hb7; obtain ⟨y70, y71⟩ := HX0.out w7 hb7')))
      all_goals
        go_wp2_with fail
        go_roundw
        case rel => exact ⟨k + 1, _, rfl, by go_num, by omega, by rw [HTSk.out, HKK.out]; exact hwo7, hb7'⟩
        case measure => simp [intOf]; omega
    · obtain rfl : k = ls.length := by omega
      have HH := Lib.hid (rheader_w seq (ls := []) (sl := []) (Wp.nil (w := wr)) (by simp) (Sl.nil eb wr) (by simp))
      clear hlk hwo hbl
      go_wp2_with (first
        | (go_at_call 33; (with_reducible refine HH.out.mono ?_); rintro e w5 ⟨v5, rfl, ho5, hb5⟩; obtain ⟨a5, c5, rfl⟩ := own_slice ho5)
        | (at_builtin; refine wpList_append_wo rfl _ _ 22 rfl w.heap.size 66 iJ _ Try.underlying22 hiJ hzJ0 hzJ1 hzJ2 rfl [] (.slice av ls.length cv) (ls.take ls.length) rfl ((HWO.out.below hb5).below (low_alloc _ _)) (by rw [HLK.out]; omega) w5.heap.size 1 (.slice a5 128 c5) (Jr.head seq [] []) rfl (heap_alloc_new _ _) ((own_av ho5 (by simp) fun b hb => (HWO.out.lt b hb).2).alloc _) (by simp; have := hb5.size; omega) ?_; intro v7 w7 hwo7 hs7 hb7))
      go_ret
      refine ⟨_, rfl, ?_, ((HBL.out.trans (hb5.mono hbs)).alloc (by have := hb5.size; omega) _).trans hb7⟩
      rw [HHM.out]
      rw [List.take_length] at hwo7
      exact hwo7
end Go.Proofs.Ytcbgablnbgpjdaa
