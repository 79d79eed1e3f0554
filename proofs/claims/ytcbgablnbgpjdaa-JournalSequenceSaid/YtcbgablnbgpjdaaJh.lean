/-
  The walk of header of the journal.
-/
import Derived.Test.YtcbgablnbgpjdaaJg
import Derived.Test.YtcbgablnbgpjdaaCallStep
namespace Go.Proofs.Ytcbgablnbgpjdaa
open Go.RowKit

theorem toList_made (z : Value) (n : Nat) : madeCells #[z] n = (List.replicate n z).toArray := by
  apply Array.toList_inj.1
  rw [toList_madeCells_one]

theorem u8_val (n : Int) : IntKind.u8.wrap n = ((Jr.ib n).toNat : Int) := by
  have h := byte_val n 0
  rw [wrap_u64] at h
  simp only [Nat.mul_zero, Int.pow_zero, Int.ediv_one] at h
  show n % 256 = _
  unfold Jr.ib
  rw [← h]
  omega

theorem splice_mid (A B C D : List UInt8) (n : Nat) (h : A.length = n) (hd : D.length = B.length) : splice ((A ++ B ++ C).map eb) n (D.map eb) = (A ++ D ++ C).map eb := by
  subst h
  unfold splice
  have e1 : ((A ++ B ++ C).map eb).drop (A.length + (D.map eb).length) = C.map eb := by
    rw [List.map_append]
    exact List.drop_left' (by simp [hd])
  have e2 : ((A ++ B ++ C).map eb).take A.length = A.map eb := by
    rw [List.append_assoc, List.map_append]
    exact List.take_left' (by simp)
  rw [e1, e2]
  simp only [List.map_append, List.append_assoc]
theorem Jr.ib_small (n : Nat) (h : n ≤ 11) : Jr.ib (n : Int) = UInt8.ofNat n := by
  have : ∀ n, n < 12 → Jr.ib ((n : Nat) : Int) = UInt8.ofNat n := by decide
  exact this n (by omega)

set_option maxRecDepth 100000 in
set_option maxHeartbeats 4000000 in
theorem header_w (m : ByteArray) (c : UInt8) (hm : m.data.toList = [74, 82, 78, c]) (seq : Int) {ub us : Value} {bl : List Int} {sl : List UInt8} {w : World} (hb : Sl (Value.int .i64) w ub bl) (hbl : bl.length ≤ 11) (hs : Sl eb w us sl) (hsl : sl.length ≤ 100000) :
    Calls Try.prog 37 #[.string m, ub, .int .i64 seq, us] w fun e w' => ∃ v, e = .returned v ∧ w'.ownsRow w.heap.size 5 1 v 128 ((Jr.mk c bl seq sl).map eb) ∧ Below w.heap.size w w' := by
  obtain ⟨ab, kb, rfl, hb1, hb2, hb3, hb4⟩ := hb
  obtain ⟨asl, ks, hus, hs1, hs2, hs3, hs4⟩ := id hs
  subst hus
  obtain ⟨i5, hi5, hz5, hs5, hb5⟩ := info_parts Try.info5
  have hsz5 : (Try.prog.info? 5).map (·.size) = some 1 := by kernel_rfl
  have hm1 : ∀ W : World, (Instr.makeSlice 29 (.int .i64 128) (.int .i64 128)).run Try.prog W = .ok (.slice (some ⟨W.heap.size, 0, none⟩) 128 128) (W.alloc (.cells ((List.replicate 128 (0 : UInt8)).map eb).toArray 5 (0, 0))) := fun W => by
    have h := run_make (P := Try.prog) W 29 5 i5 (.int .u8 0) Try.underlying29 hi5 hz5 .i64 .i64 128 128 (by decide) (by decide) (by rw [hb5]; decide) (by decide)
    rw [hs5] at h
    rw [show (List.replicate 128 (0 : UInt8)).map eb = List.replicate 128 (.int .u8 0) by simp [eb], ← toList_made]
    exact h
  generalize hzz : ((List.replicate 128 (0 : UInt8)).map eb).toArray = ZA at hm1
  have HB := Lib.hid hb4
  have HSR : Hid (Rd eb w asl sl) := Lib.hid hs4
  have hk0 : Bk (w.alloc (.cells ZA 5 (0, 0))) w.heap.size 5 ((List.replicate 128 (0 : UInt8)).map eb) := by rw [← hzz]; exact Bk.new _ _ _
  have HG0 : Hid (Below w.heap.size w (w.alloc (.cells ZA 5 (0, 0)))) := low_alloc _ _
  have HM := Lib.hid hm
  clear hzz hb4 hs hs4 hm
  go_enter Try.func37, Try.ntmps37
  go_upto_region 3 with (refine wpList_copy_str rfl (.tmp 13) (.tmp 14) 29 9 rfl 5 Try.underlying29 hsz5 w.heap.size 0 128 128 m _ HM.out rfl rfl _ _ hk0 (by simp) (by simp) ?_; intro w1 hk1 hg1)
  have hlw1 : Below w.heap.size w w1 := HG0.out.trans (below_of_grown hg1 (by simp) (by simp))
  have hk2 : Bk w1 w.heap.size 5 ((Jr.part c 0 (List.replicate 11 0) (List.replicate 112 0)).map eb) := hk1
  have HL1 := Lib.hid hlw1
  clear hk1 hg1 hlw1 hk0
  have x4 := hk2.cell 4
  have z4 := hk2.frozen 4
  simp only [Jr.part, List.map_append, List.map_cons, List.cons_append, List.getElem?_cons_succ, List.getElem?_cons_zero] at x4
  have hv := u8_val (bl.length : Int)
  have hk4 := hk2.set 4 (eb (Jr.ib (bl.length : Int)))
  have e4 : ((Jr.part c 0 (List.replicate 11 0) (List.replicate 112 0)).map eb).set 4 (eb (Jr.ib (bl.length : Int))) = ((Jr.part c (Jr.ib (bl.length : Int)) (Jr.ents bl 0) (List.replicate 112 0)).map eb) := by rw [Jr.ents_zero]; rfl
  rw [e4] at hk4
  have hl4 : Below w.heap.size w (w1.setCell ⟨w.heap.size, 4, none⟩ (eb (Jr.ib (bl.length : Int)))) := HL1.out.setCell (p := ⟨w.heap.size, 4, none⟩) (Nat.le_refl _) _
  clear e4
  have HK4 := Lib.hid hk4
  have HL4 := Lib.hid hl4
  clear hk4 hl4
  go_wp2_with fail
  clear x4 z4 hk2 hm1
  go_loopw [10, 11, 23] (fun _ _ i wr => ∃ k : Nat, i = .int .i64 k ∧ k ≤ bl.length ∧ Bk wr w.heap.size 5 ((Jr.part c (Jr.ib (bl.length : Int)) (Jr.ents bl k) (List.replicate 112 0)).map eb) ∧ Below w.heap.size w wr) (fun _ _ i _ => bl.length - (intOf i).toNat)
  case atStart => exact ⟨0, rfl, Nat.zero_le _, HK4.out, HL4.out⟩
  case round =>
    obtain ⟨k, rfl, hk, hbk, hlw⟩ := hrel
    by_cases hlt : k < bl.length
    · obtain ⟨b, off, hab, hb, hcell⟩ := (HB.out.below hlw (Nat.le_refl _)).form (by omega)
      subst hab
      have hck : wr.cell? ⟨b, off + k, none⟩ = some (.int .i64 bl[k]) := hcell k hlt
      have x4 := hbk.cell (5 + k)
      have z4 := hbk.frozen (5 + k)
      have hv := u8_val bl[k]
      have HS := Lib.hid (Jr.ents_step bl k hlt)
      have hlen : ((Jr.part c (Jr.ib (bl.length : Int)) (Jr.ents bl k) (List.replicate 112 0)).map eb).length = 128 := by simp [Jr.part, Jr.ents_len]
      obtain ⟨old, hold⟩ : ∃ u, ((Jr.part c (Jr.ib (bl.length : Int)) (Jr.ents bl k) (List.replicate 112 0)).map eb)[5 + k]? = some u := ⟨_, List.getElem?_eq_getElem (by omega)⟩
      rw [hold] at x4
      have hst := hbk.set (5 + k) (eb (Jr.ib bl[k]))
      rw [← List.map_set, Jr.part_set _ _ _ _ k _ (by rw [Jr.ents_len]; omega), HS.out] at hst
      have HST := Lib.hid hst
      have HL := Lib.hid (hlw.setCell (p := ⟨w.heap.size, 5 + k, none⟩) (Nat.le_refl _) (eb (Jr.ib bl[k])))
      have f1 : (0 : Int) ≤ (k : Int) := by omega
      have f2 : (k : Int) < (bl.length : Int) := by omega
      clear hcell hst hold hbk hlw HS
      go_wp2_with fail
      go_roundw
      case rel => exact ⟨k + 1, by go_num, by omega, HST.out, HL.out⟩
      case measure => simp [intOf]; omega
    · obtain rfl : k = bl.length := by omega
      rw [Jr.ents_all] at hbk
      have hq := word_val seq
      have hlen : ((Jr.part c (Jr.ib (bl.length : Int)) ((List.range 11).map fun i => if h : i < bl.length then Jr.ib bl[i] else 0) (List.replicate 112 0)).map eb).length = 128 := by simp [Jr.part]
      have HP1 := Lib.hid (put_w w.heap.size 16 4 112 (by omega) (by omega) (by unfold maxLen; omega) (Sum.word seq) _ (by rw [hlen]; omega) wr hbk)
      have HLW := Lib.hid hlw
      clear hbk hlw
      go_upto_region 10 with (go_at_call 46; refine HP1.out.mono ?_; rintro e w5 ⟨rfl, hb5, hg5⟩)
      have hw5 : Below w.heap.size w w5 := HLW.out.trans (below_of_grown hg5 (Nat.le_refl _) HLW.out.size)
      have hbp : Bk w5 w.heap.size 5 ((Jr.pre c bl seq ++ List.replicate 8 0 ++ List.replicate 100 0).map eb) := by
        have e : Jr.part c (Jr.ib (bl.length : Int)) ((List.range 11).map fun i => if h : i < bl.length then Jr.ib bl[i] else 0) (List.replicate 112 0) = ([74, 82, 78, c, Jr.ib (bl.length : Int)] ++ (List.range 11).map fun i => if h : i < bl.length then Jr.ib bl[i] else 0) ++ List.replicate 4 0 ++ List.replicate 108 0 := by
          unfold Jr.part
          rw [List.append_assoc _ (List.replicate 4 0), List.replicate_append_replicate]
        rw [e, splice_mid _ _ _ _ 16 (by simp) (by simp [Jr.num_len]), Jr.ib_small _ hbl] at hb5
        rw [List.append_assoc _ (List.replicate 8 0), List.replicate_append_replicate]
        exact hb5
      clear hb5 hg5
      have hpl : (Jr.pre c bl seq).length = 20 := by simp [Jr.pre, Jr.num_len]
      have hsp : Sl eb w5.drew (.slice (some ⟨w.heap.size, 0, none⟩) 20 128) (Jr.pre c bl seq) := by
        have h := Sl.ofOwn (Bk.own (w := w5.drew) hbp (Nat.le_refl _) (by simp [hpl, maxLen]))
        simp only [List.length_map, List.length_append, hpl, List.length_replicate] at h
        have h2 := h.cut 0 20 (by omega)
        rw [List.drop_zero, List.append_assoc, List.take_left' hpl] at h2
        exact h2
      have HC := Lib.hid (bclone_w hsp (by omega))
      rw [hpl] at HC
      have HPL := Lib.hid hpl
      have hgl : w.heap.size < w5.heap.size := hbp.lt
      have HBP : Hid (Bk w5.drew w.heap.size 5 ((Jr.pre c bl seq ++ List.replicate 8 0 ++ List.replicate 100 0).map eb)) := Lib.hid hbp
      have HW5 := Lib.hid hw5.drew
      obtain ⟨i0, hi0, hz00, hz01, hz02⟩ := info_parts Try.info5
      clear hsp hpl hbp hw5 hq HP1
      go_region_held3 (fun _ => True) (trivial) ((first
        | (go_at_call 35; refine HC.out.mono ?_; rintro e w6 ⟨v6, rfl, ho6, hb6⟩)
        | (refine step_append_rd eb (fun _ => rfl) rfl (.tmp 44) (.tmp 45) 29 (by rfl) w5.heap.size 5 i0 (.int .u8 0) 1 Try.underlying29 hi0 hz00 hz01 hz02 rfl v6 20 (Jr.pre c bl seq) (by rfl) ho6 asl ks sl sl.length (by rfl) rfl hs3 hs1 (HSR.out.below (HW5.out.trans (hb6.mono (Nat.le_of_lt hgl))) (Nat.le_refl _)) (by unfold maxLen; omega) (by omega) hb6.size ?_; intro v7 w7 ho7 hs7 hb7)
        | (go_at_call 43; refine (sof_w (Sl.ofOwn ho7)).mono ?_; rintro e w8 ⟨rfl, hb8⟩)
        | (go_at_call 46; refine (put_w w.heap.size 20 8 108 (by omega) (by omega) (by unfold maxLen; omega) _ _ (by simp [HPL.out]) w8 (((HBP.out.below hb6 hgl).below hb7 hgl).below hb8 (Nat.lt_of_lt_of_le hgl (Nat.le_trans hb6.size hb7.size)))).mono ?_; rintro e w9 ⟨rfl, hb9, hg9⟩)))
      have hg5 : w.heap.size ≤ w5.heap.size := Nat.le_of_lt hgl
      have hg7 : w.heap.size ≤ w7.heap.size := Nat.le_trans hg5 (Nat.le_trans hb6.size hb7.size)
      have hw8 : Below w.heap.size w w8 := ((HW5.out.trans (hb6.mono hg5)).trans (hb7.mono hg5)).trans (hb8.mono hg7)
      have hw9 := hw8.trans (below_of_grown hg9 (Nat.le_refl _) hw8.size)
      have hml : ((Jr.mk c bl seq sl).map eb).length = 128 := by simp [Jr.mk, HPL.out, Jr.num_len]
      have ho9 : w9.ownsRow w.heap.size 5 1 (.slice (some ⟨w.heap.size, 0, none⟩) 128 128) 128 ((Jr.mk c bl seq sl).map eb) := by
        rw [splice_mid _ _ _ _ 20 HPL.out (by simp [Jr.num_len])] at hb9
        have h := Bk.own (l := (Jr.mk c bl seq sl).map eb) hb9 (Nat.le_refl _) (by rw [hml]; unfold maxLen; omega)
        rw [hml] at h
        exact h
      clear hb9 hg9 hb6 hb7 hb8 ho6 ho7 hs7
      go_wp2_with fail
      go_ret
      exact ⟨_, rfl, ho9, hw9⟩
end Go.Proofs.Ytcbgablnbgpjdaa
