/-
  The walks of Apply of both (printed by gen/mk36r.py).
-/
import Derived.Test.YtcbgablnbgpjdaaJq
namespace Go.Proofs.Ytcbgablnbgpjdaa
open Go.RowKit

/-- What Apply answers. -/
def RetApply (d : List UInt8) (ls : List Jr.Wr) (W : World) (e : Ending) (w' : World) : Prop :=
  ∃ v, e = .returned (.tuple #[v, .int .i64 (Jr.apply d ls).2]) ∧ w'.ownsRow W.heap.size 5 1 v (Jr.apply d ls).1.length ((Jr.apply d ls).1.map eb) ∧ Below W.heap.size W w'
theorem retApply_mk {d : List UInt8} {ls : List Jr.Wr} {W w' : World} {r : List UInt8} {c : Int} (h : Jr.apply d ls = (r, c)) {v : Value} {n : Nat} (hn : n = r.length) (ho : w'.ownsRow W.heap.size 5 1 v n (r.map eb)) (hb : Below W.heap.size W w') : RetApply d ls W (.returned (.tuple #[v, .int .i64 c])) w' := by
  unfold RetApply
  rw [h]
  subst hn
  exact ⟨v, rfl, ho, hb⟩
theorem Jr.apply_bad {d : List UInt8} {ls : List Jr.Wr} (hd : d.length = 12288) {k : Nat} (hk : k < ls.length) (h : Jr.fits ls[k] = false) : Jr.apply d ls = ([], 1) := by
  unfold Jr.apply
  rw [if_neg (show ¬ d.length ≠ 12288 by simpa using hd)]
  refine if_neg ?_
  rw [List.all_eq_true]
  intro h2
  have := h2 _ (List.getElem_mem hk)
  rw [h] at this
  cases this
theorem Jr.apply_good {d : List UInt8} {ls : List Jr.Wr} (hd : d.length = 12288) (h : ∀ k (hk : k < ls.length), Jr.fits ls[k] = true) : Jr.apply d ls = (Jr.app d ls, 0) := by
  unfold Jr.apply
  rw [if_neg (show ¬ d.length ≠ 12288 by simpa using hd)]
  refine if_pos ?_
  rw [List.all_eq_true]
  intro x hx
  obtain ⟨k, hk, rfl⟩ := List.getElem_of_mem hx
  exact h k hk
theorem Jr.fits_iff (w : Jr.Wr) : Jr.fits w = true ↔ 0 ≤ w.1 ∧ w.1 < 96 ∧ w.2.length = 128 := by
  unfold Jr.fits
  simp only [Bool.and_eq_true, decide_eq_true_eq]

theorem cell_far8 {w w' : World} {g b : Nat} (h : w.grownBy w' (some g)) (hb : b ≠ g) (o : Nat) (hlt : b < w.heap.size) : w'.cell? ⟨b, o, none⟩ = w.cell? ⟨b, o, none⟩ :=
  World.cell?_of_block (a := ⟨b, o, none⟩) (h.block b hlt (by simpa using hb))
theorem put_fix {w : World} {base n q : Nat} {v : Value} {xs bs : List UInt8} {T : TypeId} (h : w.ownsRow base T 1 v n ((Jr.put xs (q * 128) (bs.take 128)).map eb)) (hl : bs.length = 128) : w.ownsRow base T 1 v n ((Jr.put xs ((q : Int).toNat * 128) bs).map eb) := by
  rw [List.take_of_length_le (by omega)] at h
  exact h

set_option maxRecDepth 100000 in
set_option maxHeartbeats 4000000 in
theorem japply_w {v u : Value} {d : List UInt8} {ls : List Jr.Wr} {w : World} (hv : Sl eb w v d) (hu : Wp w u ls) (hl : ls.length ≤ 100000) : Calls Try.prog 23 #[v, u] w (RetApply d ls w) := by
  obtain ⟨a, cap, rfl, hc, hm, hna, -⟩ := id hv
  obtain ⟨ua, ucap, rfl, h1, h2, h3, hop⟩ := hu.open
  unfold maxLen at hm
  by_cases hd : d.length = 12288
  rotate_left
  · have HR : Hid (Jr.apply d ls = ([], 1)) := if_pos hd
    have hq : ((d.length : Int) != 12288) = true := by rw [bne_iff_ne]; omega
    clear hd hop hu
    go_enter Try.func23, Try.ntmps23
    go_wp2_with fail
    go_ret2
    exact retApply_mk HR.out rfl (World.ownsRow_nil _ _ _ _) (Below.refl _ _)
  · have HAB := Lib.hid (fun k hk h => Jr.apply_bad (ls := ls) hd (k := k) hk h)
    have HAG := Lib.hid (Jr.apply_good (ls := ls) hd)
    have HOP := Lib.hid hop
    have HAT := Lib.hid (fun k hk => Jr.app_take d ls k hk)
    have HAL : Hid (Jr.app d ls = Jr.app d (ls.take ls.length)) := by rw [List.take_length]; exact rfl
    have HCL := Lib.hid (bclone_w hv (by omega))
    rw [hd] at hv hc HCL ⊢
    obtain ⟨b0, off0, rfl, hb0, -, -, -⟩ := hv.addr (by omega)
    have HV := Lib.hid hv
    have HDL := Lib.hid hd
    have hszu : (Try.prog.info? 5).map (·.size) = some 1 := by kernel_rfl
    obtain ⟨i0, hi, hz0, hz1, hz2⟩ := info_parts Try.info5
    clear hop hu hv hd
    go_enter Try.func23, Try.ntmps23
    go_upto_region 4 with (go_at_call 35; (with_reducible refine HCL.out.mono ?_); rintro e w1 ⟨v1, rfl, ho1, hb1⟩)
    obtain ⟨g, cg, rfl⟩ := own_form ho1 (by omega)
    have HO1 := Lib.hid ho1
    have HB1 := Lib.hid hb1
    clear ho1 hb1
    go_wp2_with fail
    go_loopw [8, 16] (fun _ i wr => ∃ k : Nat, i = .int .i64 k ∧ k ≤ ls.length ∧ wr.ownsRow w.heap.size 5 1 (.slice (some ⟨g, 0, none⟩) 12288 cg) 12288 ((Jr.app d (ls.take k)).map eb) ∧ Hid (∀ j (hj : j < ls.length), j < k → Jr.fits ls[j] = true) ∧ Below w.heap.size w wr) (fun _ i _ => ls.length - (intOf i).toNat)
    case atStart => exact ⟨0, rfl, Nat.zero_le _, HO1.out, fun j _ h => absurd h (Nat.not_lt_zero _), HB1.out⟩
    case round =>
      obtain ⟨k, rfl, hk, ho, HN, hbl⟩ := hrel
      have HO := Lib.hid ho
      have HBL := Lib.hid hbl
      by_cases hlt : k < ls.length
      · obtain ⟨b, off, a', c', rfl, hbw, ⟨x0, x1⟩, hsx⟩ := HOP.out k hlt
        have y0 : wr.cell? ⟨b, off + k * 2, none⟩ = some (.int .i64 ls[k].1) := by rw [hbl.cell (p := ⟨b, off + k * 2, none⟩) hbw]; exact x0
        have y1 : wr.cell? ⟨b, off + k * 2 + 1, none⟩ = some (.slice a' ls[k].2.length c') := by rw [hbl.cell (p := ⟨b, off + k * 2 + 1, none⟩) hbw]; exact x1
        have f1 : (0 : Int) ≤ (k : Int) := by omega
        have f2 : (k : Int) < (ls.length : Int) := by omega
        have hbs := hbl.size
        have hab := HAB.out k hlt
        have HATk := Lib.hid (HAT.out k hlt)
        have HSX := Lib.hid hsx
        have hfi := Jr.fits_iff ls[k]
        have HNX : Hid (Jr.fits ls[k] = true → ∀ j (hj : j < ls.length), j < k + 1 → Jr.fits ls[j] = true) := fun h j hj hjk => by
          by_cases e : j = k
          · subst e; exact h
          · exact HN.out j hj (by omega)
        clear x0 x1 hsx ho hbl
        have hnf : ls[k].1 < 0 ∨ 96 ≤ ls[k].1 ∨ ls[k].2.length ≠ 128 → Jr.apply d ls = ([], 1) := fun h => hab (by
          rw [Bool.eq_false_iff]
          intro h2
          have := hfi.1 h2
          omega)
        generalize hbs2 : ls[k].2 = bs at *
        generalize hn1 : ls[k].1 = n at *
        have HBS := Lib.hid hbs2
        have HN1 := Lib.hid hn1
        clear hbs2 hn1
        by_cases c1 : n < 0
        · have HR := Lib.hid (hnf (.inl c1))
          clear hnf hab hfi
          go_wp2_with fail
          go_ret2
          exact retApply_mk HR.out rfl (World.ownsRow_nil _ _ _ _) (HBL.out.alloc hbs _)
        · by_cases c2 : 96 ≤ n
          · have HR := Lib.hid (hnf (.inr (.inl c2)))
            clear hnf hab hfi
            go_wp2_with fail
            go_ret2
            exact retApply_mk HR.out rfl (World.ownsRow_nil _ _ _ _) (HBL.out.alloc hbs _)
          · by_cases c3 : bs.length = 128
            · have HG := Lib.hid (HNX.out (hfi.2 (by omega)))
              obtain ⟨q, rfl⟩ : ∃ q : Nat, n = (q : Int) := ⟨n.toNat, by omega⟩
              have HBK := Lib.hid (fun W => block_w g 0 cg q (by omega) (own_bk' HO.out).2.1 (own_bk' HO.out).2.2.1 W)
              rw [c3] at HSX y1
              have HL128 := Lib.hid c3
              have f3 : ((128 : Int) != 128) = false := rfl
              have hq96 : (q : Int) < 96 := by omega
              clear hnf hab hfi c3 c1 c2
              go_upto_region 9 with fail
              have hg0 := (own_bk' HO.out).1
              have hgl := HO.out.lt g rfl
              have HL9 : Hid (Below w.heap.size w (wr.alloc (.cells #[.int .i64 (q : Int), .slice a' 128 c'] 63 (0, 0))).drew) := (HBL.out.alloc hbs _).drew
              have HO9 : Hid ((wr.alloc (.cells #[.int .i64 (q : Int), .slice a' 128 c'] 63 (0, 0))).drew.ownsRow w.heap.size 5 1 (.slice (some ⟨g, 0, none⟩) 12288 cg) 12288 ((Jr.app d (ls.take k)).map eb)) := own_below HO.out (low_adrew wr _)
              have HS9 : Hid (Sl eb (wr.alloc (.cells #[.int .i64 (q : Int), .slice a' 128 c'] 63 (0, 0))).drew (.slice a' 128 c') bs) := HSX.out.below HL9.out (Nat.le_refl _)
              have z0 : (wr.alloc (.cells #[.int .i64 (q : Int), .slice a' 128 c'] 63 (0, 0))).drew.cell? ⟨wr.heap.size, 0, none⟩ = some (.int .i64 (q : Int)) := by rw [World.cell?_drew, cell_of_row _ _ _ _ _ _ (heap_alloc_new wr _)]; rfl
              have z1 : (wr.alloc (.cells #[.int .i64 (q : Int), .slice a' 128 c'] 63 (0, 0))).drew.cell? ⟨wr.heap.size, 1, none⟩ = some (.slice a' 128 c') := by rw [World.cell?_drew, cell_of_row _ _ _ _ _ _ (heap_alloc_new wr _)]; rfl
              go_region_held3 (fun w' => w'.cell? ⟨wr.heap.size, 0, none⟩ = some (.int .i64 (q : Int)) ∧ w'.cell? ⟨wr.heap.size, 1, none⟩ = some (.slice a' 128 c')) (first | with_reducible assumption | go_keep) ((first
                | (go_at_call 40; (with_reducible refine (HBK.out _).mono ?_); rintro e w5 ⟨rfl, rfl⟩)
                | (refine step_copy_own8 rfl (.tmp 37) (.tmp 39) 29 29 rfl 5 Try.underlying29 hszu w.heap.size g 12288 cg (Jr.app d (ls.take k)) (HO9.out) (q * 128) 128 (cg - q * 128) rfl (by omega) (.slice a' 128 c') bs rfl HS9.out ?_; intro w7 ho7 hg7; have z07 := (cell_far8 hg7 (show wr.heap.size ≠ g by omega) 0 (by simp)).trans z0; have z17 := (cell_far8 hg7 (show wr.heap.size ≠ g by omega) 1 (by simp)).trans z1)))
              all_goals
                go_wp2_with fail
                go_roundw
                case rel => exact ⟨k + 1, by go_num, by omega, by rw [HATk.out]; exact put_fix ho7 HL128.out, HG.out, HL9.out.trans (below_of_grown hg7 hg0 HL9.out.size)⟩
                case measure => simp [intOf]; omega
            · have HR := Lib.hid (hnf (.inr (.inr c3)))
              have f3 : ((bs.length : Int) != 128) = true := by rw [bne_iff_ne]; omega
              clear hnf hab hfi c3
              go_wp2_with fail
              go_ret2
              exact retApply_mk HR.out rfl (World.ownsRow_nil _ _ _ _) (HBL.out.alloc hbs _)
      · obtain rfl : k = ls.length := by omega
        have HR := Lib.hid (HAG.out fun j hj => HN.out j hj hj)
        have HOE : Hid (wr.ownsRow w.heap.size 5 1 (.slice (some ⟨g, 0, none⟩) 12288 cg) 12288 ((Jr.app d ls).map eb)) := by
          have h := HO.out
          rw [List.take_length] at h
          exact h
        have HOL : Hid (12288 = (Jr.app d ls).length) := by
          have h := HOE.out.1
          simpa [Hid] using h.symm
        clear ho hbl
        go_wp2_with fail
        go_ret2
        exact retApply_mk HR.out HOL.out HOE.out HBL.out

set_option maxRecDepth 100000 in
set_option maxHeartbeats 4000000 in
theorem rapply_w {v u : Value} {d : List UInt8} {ls : List Jr.Wr} {w : World} (hv : Sl eb w v d) (hu : Wp w u ls) (hl : ls.length ≤ 100000) : Calls Try.prog 24 #[v, u] w (RetApply d ls w) := by
  obtain ⟨a, cap, rfl, hc, hm, hna, -⟩ := id hv
  obtain ⟨ua, ucap, rfl, h1, h2, h3, hop⟩ := hu.open
  unfold maxLen at hm
  by_cases hd : d.length = 12288
  rotate_left
  · have HR : Hid (Jr.apply d ls = ([], 1)) := if_pos hd
    have hq : ((d.length : Int) != 12288) = true := by rw [bne_iff_ne]; omega
    clear hd hop hu
    go_enter Try.func24, Try.ntmps24
    go_wp2_with fail
    go_ret2
    exact retApply_mk HR.out rfl (World.ownsRow_nil _ _ _ _) (Below.refl _ _)
  · have HAB := Lib.hid (fun k hk h => Jr.apply_bad (ls := ls) hd (k := k) hk h)
    have HAG := Lib.hid (Jr.apply_good (ls := ls) hd)
    have HOP := Lib.hid hop
    have HAT := Lib.hid (fun k hk => Jr.app_take d ls k hk)
    have HAL : Hid (Jr.app d ls = Jr.app d (ls.take ls.length)) := by rw [List.take_length]; exact rfl
    have HCL := Lib.hid (bclone_w hv (by omega))
    rw [hd] at hv hc HCL ⊢
    obtain ⟨b0, off0, rfl, hb0, -, -, -⟩ := hv.addr (by omega)
    have HV := Lib.hid hv
    have HDL := Lib.hid hd
    have hszu : (Try.prog.info? 5).map (·.size) = some 1 := by kernel_rfl
    obtain ⟨i0, hi, hz0, hz1, hz2⟩ := info_parts Try.info5
    clear hop hu hv hd
    go_enter Try.func24, Try.ntmps24
    go_upto_region 4 with (at_builtin; refine wpList_append_sl eb (fun _ => rfl) rfl _ _ 29 rfl w.heap.size 5 i0 (.int .u8 0) 1 Try.underlying29 hi hz0 hz1 hz2 rfl _ 0 [] rfl (World.ownsRow_made w #[] 0 (Nat.le_refl _) (Nat.zero_le _) rfl) (.slice (some ⟨b0, off0, none⟩) 12288 cap) d rfl (HV.out.below (low_alloc _ _) (Nat.le_refl _)) (by rw [HDL.out]; unfold maxLen; omega) (by rw [HDL.out]; omega) (by simp) ?_; intro v1 w1 ho1 hs1 hb1; rw [HDL.out, Nat.zero_add, List.nil_append] at ho1; replace hb1 := (low_alloc w _).trans hb1)
    obtain ⟨g, cg, rfl⟩ := own_form ho1 (by omega)
    have HO1 := Lib.hid ho1
    have HB1 := Lib.hid hb1
    clear ho1 hb1
    go_wp2_with fail
    go_loopw [7] (fun i wr => ∃ k : Nat, i = .int .i64 k ∧ k ≤ ls.length ∧ wr.ownsRow w.heap.size 5 1 (.slice (some ⟨g, 0, none⟩) 12288 cg) 12288 ((Jr.app d (ls.take k)).map eb) ∧ Hid (∀ j (hj : j < ls.length), j < k → Jr.fits ls[j] = true) ∧ Below w.heap.size w wr) (fun i _ => ls.length - (intOf i).toNat)
    case atStart => exact ⟨0, rfl, Nat.zero_le _, HO1.out, fun j _ h => absurd h (Nat.not_lt_zero _), HB1.out⟩
    case round =>
      obtain ⟨k, rfl, hk, ho, HN, hbl⟩ := hrel
      have HO := Lib.hid ho
      have HBL := Lib.hid hbl
      by_cases hlt : k < ls.length
      · obtain ⟨b, off, a', c', rfl, hbw, ⟨x0, x1⟩, hsx⟩ := HOP.out k hlt
        have y0 : wr.cell? ⟨b, off + k * 2, none⟩ = some (.int .i64 ls[k].1) := by rw [hbl.cell (p := ⟨b, off + k * 2, none⟩) hbw]; exact x0
        have y1 : wr.cell? ⟨b, off + k * 2 + 1, none⟩ = some (.slice a' ls[k].2.length c') := by rw [hbl.cell (p := ⟨b, off + k * 2 + 1, none⟩) hbw]; exact x1
        have f1 : (0 : Int) ≤ (k : Int) := by omega
        have f2 : (k : Int) < (ls.length : Int) := by omega
        have hbs := hbl.size
        have hab := HAB.out k hlt
        have HATk := Lib.hid (HAT.out k hlt)
        have HSX := Lib.hid hsx
        have hfi := Jr.fits_iff ls[k]
        have HNX : Hid (Jr.fits ls[k] = true → ∀ j (hj : j < ls.length), j < k + 1 → Jr.fits ls[j] = true) := fun h j hj hjk => by
          by_cases e : j = k
          · subst e; exact h
          · exact HN.out j hj (by omega)
        clear x0 x1 hsx ho hbl
        have hnf : ls[k].1 < 0 ∨ 96 ≤ ls[k].1 ∨ ls[k].2.length ≠ 128 → Jr.apply d ls = ([], 1) := fun h => hab (by
          rw [Bool.eq_false_iff]
          intro h2
          have := hfi.1 h2
          omega)
        generalize hbs2 : ls[k].2 = bs at *
        generalize hn1 : ls[k].1 = n at *
        have HBS := Lib.hid hbs2
        have HN1 := Lib.hid hn1
        clear hbs2 hn1
        by_cases c1 : n < 0
        · have HR := Lib.hid (hnf (.inl c1))
          clear hnf hab hfi
          go_wp2_with fail
          go_ret2
          exact retApply_mk HR.out rfl (World.ownsRow_nil _ _ _ _) (HBL.out)
        · by_cases c2 : 96 ≤ n
          · have HR := Lib.hid (hnf (.inr (.inl c2)))
            clear hnf hab hfi
            go_wp2_with fail
            go_ret2
            exact retApply_mk HR.out rfl (World.ownsRow_nil _ _ _ _) (HBL.out)
          · by_cases c3 : bs.length = 128
            · have HG := Lib.hid (HNX.out (hfi.2 (by omega)))
              obtain ⟨q, rfl⟩ : ∃ q : Nat, n = (q : Int) := ⟨n.toNat, by omega⟩
              have HBK := Lib.hid (fun W => rblock_w g 0 cg q (by omega) (own_bk' HO.out).2.1 (own_bk' HO.out).2.2.1 W)
              rw [c3] at HSX y1
              have HL128 := Lib.hid c3
              have f3 : ((128 : Int) != 128) = false := rfl
              have hq96 : (q : Int) < 96 := by omega
              clear hnf hab hfi c3 c1 c2
              go_upto_region 9 with fail
              have hg0 := (own_bk' HO.out).1
              have hgl := HO.out.lt g rfl
              have HL9 : Hid (Below w.heap.size w wr.drew) := HBL.out.drew
              have HO9 : Hid (wr.drew.ownsRow w.heap.size 5 1 (.slice (some ⟨g, 0, none⟩) 12288 cg) 12288 ((Jr.app d (ls.take k)).map eb)) := own_below HO.out (low_drew wr)
              have HS9 : Hid (Sl eb wr.drew (.slice a' 128 c') bs) := HSX.out.below HL9.out (Nat.le_refl _)
              have z0 : wr.drew.cell? ⟨b, off + k * 2, none⟩ = some (.int .i64 (q : Int)) := y0
              have z1 : wr.drew.cell? ⟨b, off + k * 2 + 1, none⟩ = some (.slice a' 128 c') := y1
              go_region_held3 (fun w' => w'.cell? ⟨b, off + k * 2, none⟩ = some (.int .i64 (q : Int)) ∧ w'.cell? ⟨b, off + k * 2 + 1, none⟩ = some (.slice a' 128 c')) (first | with_reducible assumption | go_keep) ((first
                | (go_at_call 32; (with_reducible refine (HBK.out _).mono ?_); rintro e w5 ⟨rfl, rfl⟩)
                | (refine step_copy_own8 rfl (.tmp 49) (.tmp 54) 29 29 rfl 5 Try.underlying29 hszu w.heap.size g 12288 cg (Jr.app d (ls.take k)) (HO9.out) (q * 128) 128 (cg - q * 128) rfl (by omega) (.slice a' 128 c') bs rfl HS9.out ?_; intro w7 ho7 hg7; have z07 := (cell_far8 hg7 (show b ≠ g by omega) (off + k * 2) (Nat.lt_of_lt_of_le hbw hbs)).trans z0; have z17 := (cell_far8 hg7 (show b ≠ g by omega) (off + k * 2 + 1) (Nat.lt_of_lt_of_le hbw hbs)).trans z1)))
              all_goals
                go_wp2_with fail
                go_roundw
                case rel => exact ⟨k + 1, by go_num, by omega, by rw [HATk.out]; exact put_fix ho7 HL128.out, HG.out, HL9.out.trans (below_of_grown hg7 hg0 HL9.out.size)⟩
                case measure => simp [intOf]; omega
            · have HR := Lib.hid (hnf (.inr (.inr c3)))
              have f3 : ((bs.length : Int) != 128) = true := by rw [bne_iff_ne]; omega
              clear hnf hab hfi c3
              go_wp2_with fail
              go_ret2
              exact retApply_mk HR.out rfl (World.ownsRow_nil _ _ _ _) (HBL.out)
      · obtain rfl : k = ls.length := by omega
        have HR := Lib.hid (HAG.out fun j hj => HN.out j hj hj)
        have HOE : Hid (wr.ownsRow w.heap.size 5 1 (.slice (some ⟨g, 0, none⟩) 12288 cg) 12288 ((Jr.app d ls).map eb)) := by
          have h := HO.out
          rw [List.take_length] at h
          exact h
        have HOL : Hid (12288 = (Jr.app d ls).length) := by
          have h := HOE.out.1
          simpa [Hid] using h.symm
        clear ho hbl
        go_wp2_with fail
        go_ret2
        exact retApply_mk HR.out HOL.out HOE.out HBL.out
end Go.Proofs.Ytcbgablnbgpjdaa
