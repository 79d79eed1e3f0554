/-
  The walks of Recover of both.
-/
import Derived.Test.YtcbgablnbgpjdaaJs
import Derived.Test.YtcbgablnbgpjdaaPb
namespace Go.Proofs.Ytcbgablnbgpjdaa
open Go.RowKit

theorem RetRead.at {T : TypeId} {d : List UInt8} {W w' : World} {e : Ending} {n c : Int} {l : List Jr.Wr} (h : RetRead T d W e w') (hr : Jr.read d = (n, l, c)) : ∃ a k, e = .returned (.tuple #[.int .i64 n, .slice a l.length k, .int .i64 c]) ∧ Wo W.heap.size T [] w' (.slice a l.length k) l ∧ Below W.heap.size W w' := by
  unfold RetRead at h
  rw [hr] at h
  obtain ⟨v, h1, h2, h3⟩ := h
  obtain ⟨a, k, rfl, -⟩ := h2.slice
  exact ⟨a, k, h1, h2, h3⟩
theorem RetApply.at {d : List UInt8} {ls : List Jr.Wr} {W w' : World} {e : Ending} {r : List UInt8} {c : Int} (h : RetApply d ls W e w') (hr : Jr.apply d ls = (r, c)) : ∃ a k, e = .returned (.tuple #[.slice a r.length k, .int .i64 c]) ∧ w'.ownsRow W.heap.size 5 1 (.slice a r.length k) r.length (r.map eb) ∧ Below W.heap.size W w' := by
  unfold RetApply at h
  rw [hr] at h
  obtain ⟨v, h1, h2, h3⟩ := h
  obtain ⟨a, k, rfl⟩ := own_slice h2
  exact ⟨a, k, h1, h2, h3⟩

/-- What Recover answers. -/
def RetRec (d : List UInt8) (W : World) (e : Ending) (w' : World) : Prop :=
  ∃ v, e = .returned (.tuple #[v, .bool (Jr.recover d).2.1, .int .i64 (Jr.recover d).2.2]) ∧ w'.ownsRow W.heap.size 5 1 v (Jr.recover d).1.length ((Jr.recover d).1.map eb) ∧ Below W.heap.size W w'
theorem retRec_mk {d : List UInt8} {W w' : World} {r : List UInt8} {q : Bool} {c : Int} (h : Jr.recover d = (r, q, c)) {v : Value} {n : Nat} (hn : n = r.length) (ho : w'.ownsRow W.heap.size 5 1 v n (r.map eb)) (hb : Below W.heap.size W w') : RetRec d W (.returned (.tuple #[v, .bool q, .int .i64 c])) w' := by
  unfold RetRec
  rw [h]
  subst hn
  exact ⟨v, rfl, ho, hb⟩
theorem Jr.recover_at {d : List UInt8} {n c : Int} {l : List Jr.Wr} (h : Jr.read d = (n, l, c)) : Jr.recover d = if c ≠ 0 then ([], false, c) else if l = [] then (d, false, 0) else (Jr.app d (Jr.homes n l), true, 0) := by
  unfold Jr.recover
  rw [h]

set_option maxRecDepth 100000 in
set_option maxHeartbeats 1600000 in
theorem jrecover_w {v : Value} {d : List UInt8} {w : World} (hv : Sl eb w v d) : Calls Try.prog 28 #[v] w (RetRec d w) := by
  obtain ⟨a, cap, rfl, hc, hm, hna, -⟩ := id hv
  obtain ⟨⟨n, l, c⟩, hr⟩ : ∃ x, Jr.read d = x := ⟨_, rfl⟩
  have HREC := Lib.hid (Jr.recover_at hr)
  have HRD : Hid (Calls Try.prog 22 #[.slice a d.length cap] w fun e w' => ∃ a k, e = .returned (.tuple #[.int .i64 n, .slice a l.length k, .int .i64 c]) ∧ Wo w.heap.size 63 [] w' (.slice a l.length k) l ∧ Below w.heap.size w w') := (jread_w hv).mono fun _ _ h => h.at hr
  by_cases hc0 : c = 0
  rotate_left
  · have HR : Hid (Jr.recover d = ([], false, c)) := HREC.out.trans (if_pos hc0)
    have hq : (c != 0) = true := by simp [hc0]
    clear hr hc0
    go_enter Try.func28, Try.ntmps28
    go_wp2_with (go_at_call 22; (with_reducible refine HRD.out.mono ?_); rintro e w1 ⟨a1, k1, rfl, ho1, hb1⟩)
    go_ret3
    exact retRec_mk HR.out rfl (World.ownsRow_nil _ _ _ _) hb1
  · subst hc0
    obtain ⟨hd, -, -, h11, hval⟩ := Jr.read_ok hr
    have HR0 := Lib.hid (HREC.out.trans (if_neg (by simp)))
    have HDL := Lib.hid hd
    have HV := Lib.hid hv
    have HAH := Lib.hid (Jr.apply_all hd (Jr.homes_fit hval n))
    have HHM : Hid (Jr.homes n l = l ++ [(1, Jr.idle n)]) := rfl
    have hl11 : l.length ≤ 11 := by
      obtain ⟨-, -, e, -⟩ := Jr.read_ok hr
      rw [e, Jr.logged_len]; exact h11
    have HHLEN : Hid ((Jr.homes n l).length ≤ 12) := by show _ ≤ _; unfold Jr.homes; simp; omega
    clear hr hval hd hv
    by_cases hl : l.length = 0
    · have HR : Hid (Jr.recover d = (d, false, 0)) := HR0.out.trans (if_pos (List.eq_nil_of_length_eq_zero hl))
      have hq : ((l.length : Int) == 0) = true := by rw [hl]; rfl
      have hlt : l.length < 1 := by omega
      clear hl
      go_enter Try.func28, Try.ntmps28
      go_wp2_with (first
        | (go_at_call 22; (with_reducible refine HRD.out.mono ?_); rintro e w1 ⟨a1, k1, rfl, ho1, hb1⟩)
        | (go_at_call 35; refine (bclone_w (HV.out.below hb1 (Nat.le_refl _)) (by rw [HDL.out]; omega)).mono ?_; rintro e w2 ⟨v2, rfl, ho2, hb2⟩))
      go_ret3
      exact retRec_mk HR.out rfl (own_base ho2 hb1.size) (stepAny hb1 hb2)
    · have HR : Hid (Jr.recover d = (Jr.app d (Jr.homes n l), true, 0)) := HR0.out.trans (if_neg (fun e => hl (by rw [e]; rfl)))
      have hq : ((l.length : Int) == 0) = false := by rw [beq_eq_false_iff_ne]; omega
      have hlt : 0 < l.length := by omega
      obtain ⟨iJ, hiJ, hzJ0, hzJ1, hzJ2⟩ := info_parts Try.infoJ
      have HHD := Lib.hid (fun W => header_w (ByteArray.mk #[74, 82, 78, 48]) 48 (by rfl) n (bl := []) (sl := []) (Sl.nil (Value.int .i64) W) (by simp) (Sl.nil eb W) (by simp))
      clear hl
      go_enter Try.func28, Try.ntmps28
      go_upto_region 6 with (go_at_call 22; (with_reducible refine HRD.out.mono ?_); rintro e w1 ⟨a1, k1, rfl, ho1, hb1⟩)
      have HO1 := Lib.hid ho1
      have HB1 := Lib.hid hb1
      clear ho1 hb1
      go_wp2_with (first
        | (go_at_call 37; (with_reducible refine (HHD.out _).mono ?_); rintro e w5 ⟨v5, rfl, ho5, hb5⟩; obtain ⟨a5, c5, rfl⟩ := own_slice ho5)
        | (at_builtin; refine wpList_append_wo rfl _ _ 31 rfl w.heap.size 63 iJ _ Try.underlying31 hiJ hzJ0 hzJ1 hzJ2 rfl [] (.slice a1 l.length k1) l rfl ((HO1.out.below hb5).below (low_alloc _ _)) (by omega) w5.heap.size 1 (.slice a5 128 c5) (Jr.mk 48 [] n []) rfl (heap_alloc_new _ _) ((own_av ho5 (by simp) fun b hb => (HO1.out.lt b hb).2).alloc _) (by simp; have := hb5.size; have := HB1.out.size; omega) ?_; intro v7 w7 hwo7 hs7 hb7; have hb7' := ((HB1.out.trans (hb5.mono HB1.out.size)).alloc (by have := hb5.size; have := HB1.out.size; omega) _).trans hb7; have hwh : Wo w.heap.size 63 [] w7 v7 (Jr.homes n l) := by rw [HHM.out]; exact hwo7)
        | (go_at_call 23; refine ((japply_w (HV.out.below hb7' (Nat.le_refl _)) hwh.wp (by have := HHLEN.out; omega)).mono (fun _ _ h => h.at HAH.out)).mono ?_; rintro e w8 ⟨a8, k8, rfl, ho8, hb8⟩))
      go_ret3
      exact retRec_mk HR.out rfl (own_base ho8 hb7'.size) (stepAny hb7' hb8)

set_option maxRecDepth 100000 in
set_option maxHeartbeats 1600000 in
theorem rrecover_w {v : Value} {d : List UInt8} {w : World} (hv : Sl eb w v d) : Calls Try.prog 29 #[v] w (RetRec d w) := by
  obtain ⟨a, cap, rfl, hc, hm, hna, -⟩ := id hv
  obtain ⟨⟨n, l, c⟩, hr⟩ : ∃ x, Jr.read d = x := ⟨_, rfl⟩
  have HREC := Lib.hid (Jr.recover_at hr)
  have HRD : Hid (Calls Try.prog 27 #[.slice a d.length cap] w fun e w' => ∃ a k, e = .returned (.tuple #[.int .i64 n, .slice a l.length k, .int .i64 c]) ∧ Wo w.heap.size 66 [] w' (.slice a l.length k) l ∧ Below w.heap.size w w') := (rread_w hv).mono fun _ _ h => h.at hr
  by_cases hc0 : c = 0
  rotate_left
  · have HR : Hid (Jr.recover d = ([], false, c)) := HREC.out.trans (if_pos hc0)
    have hq : (c != 0) = true := by simp [hc0]
    clear hr hc0
    go_enter Try.func29, Try.ntmps29
    go_wp2_with (go_at_call 27; (with_reducible refine HRD.out.mono ?_); rintro e w1 ⟨a1, k1, rfl, ho1, hb1⟩)
    go_ret3
    exact retRec_mk HR.out rfl (World.ownsRow_nil _ _ _ _) hb1
  · subst hc0
    obtain ⟨hd, -, -, h11, hval⟩ := Jr.read_ok hr
    have HR0 := Lib.hid (HREC.out.trans (if_neg (by simp)))
    have HDL := Lib.hid hd
    have HV := Lib.hid hv
    have HAH := Lib.hid (Jr.apply_all hd (Jr.homes_fit hval n))
    have hl11 : l.length ≤ 11 := by
      obtain ⟨-, -, e, -⟩ := Jr.read_ok hr
      rw [e, Jr.logged_len]; exact h11
    have HHLEN : Hid ((Jr.homes n l).length ≤ 12) := by show _ ≤ _; unfold Jr.homes; simp; omega
    have HL8 : Hid (∀ i (h : i < l.length), l[i].2.length = 128) := fun i h => by
      rcases hval with e | e
      · subst e; cases h
      · exact ((Jr.valid_all e).1 _ (List.getElem_mem h)).2
    clear hr hval hd hv
    by_cases hl : l.length = 0
    · have HR : Hid (Jr.recover d = (d, false, 0)) := HR0.out.trans (if_pos (List.eq_nil_of_length_eq_zero hl))
      have hq : ((l.length : Int) == 0) = true := by rw [hl]; rfl
      have hlt : l.length < 1 := by omega
      obtain ⟨i0, hi, hz0, hz1, hz2⟩ := info_parts Try.info5
      clear hl
      go_enter Try.func29, Try.ntmps29
      go_wp2_with (first
        | (go_at_call 27; (with_reducible refine HRD.out.mono ?_); rintro e w1 ⟨a1, k1, rfl, ho1, hb1⟩)
        | (at_builtin; refine wpList_append_sl eb (fun _ => rfl) rfl _ _ 29 rfl w1.heap.size 5 i0 (.int .u8 0) 1 Try.underlying29 hi hz0 hz1 hz2 rfl _ 0 [] rfl (World.ownsRow_made w1 #[] 0 (Nat.le_refl _) (Nat.zero_le _) rfl) (.slice a d.length cap) d rfl (HV.out.below (stepAny hb1 (low_alloc _ _)) (Nat.le_refl _)) (by rw [HDL.out]; unfold maxLen; omega) (by rw [HDL.out]; omega) (by simp) ?_; intro v2 w2 ho2 hs2 hb2; rw [Nat.zero_add, List.nil_append] at ho2; replace hb2 := (low_alloc w1 _).trans hb2))
      go_ret3
      exact retRec_mk HR.out rfl (own_base ho2 hb1.size) (stepAny hb1 hb2)
    · have HR : Hid (Jr.recover d = (Jr.app d (Jr.homes n l), true, 0)) := HR0.out.trans (if_neg (fun e => hl (by rw [e]; rfl)))
      have hq : ((l.length : Int) == 0) = false := by rw [beq_eq_false_iff_ne]; omega
      have hlt : 0 < l.length := by omega
      clear hl
      go_enter Try.func29, Try.ntmps29
      go_wp2_with (first
        | (go_at_call 27; (with_reducible refine HRD.out.mono ?_); rintro e w1 ⟨a1, k1, rfl, ho1, hb1⟩)
        | (go_at_call 38; refine (rhome_w n ho1.wp (by omega) HL8.out).mono ?_; rintro e w7 ⟨v7, rfl, hwh, hb7⟩; have hb7' := stepAny hb1 hb7)
        | (go_at_call 24; refine ((rapply_w (HV.out.below hb7' (Nat.le_refl _)) hwh.wp (by have := HHLEN.out; omega)).mono (fun _ _ h => h.at HAH.out)).mono ?_; rintro e w8 ⟨a8, k8, rfl, ho8, hb8⟩))
      go_ret3
      exact retRec_mk HR.out rfl (own_base ho8 hb7'.size) (stepAny hb7' hb8)
end Go.Proofs.Ytcbgablnbgpjdaa
