/-
  The walk of Plan of the journal.
-/
import Derived.Test.YtcbgablnbgpjdaaJu
import Derived.Test.YtcbgablnbgpjdaaPc
namespace Jr
theorem plan_at {d : List UInt8} {n c : Int} {o : List Wr} (h : read d = (n, o, c)) (l : List Wr) : plan d l = if c ≠ 0 then ([], [], c) else if valid l = false then ([], [], 1) else if o ≠ [] then ([], [], 7) else if n = 4294967295 then ([], [], 2)
    else (logs l ++ [(1, mk 49 (l.map Prod.fst) (n + 1) (slots (app d (logs l))))], homes (n + 1) l, 0) := by
  unfold plan
  rw [h]
end Jr
namespace Go.Proofs.Ytcbgablnbgpjdaa
open Go.RowKit

/-- What Plan answers. -/
def RetPlan (d : List UInt8) (ls : List Jr.Wr) (W : World) (e : Ending) (w' : World) : Prop :=
  ∃ v1 v2, e = .returned (.tuple #[v1, v2, .int .i64 (Jr.plan d ls).2.2]) ∧ Wp w' v1 (Jr.plan d ls).1 ∧ Wp w' v2 (Jr.plan d ls).2.1 ∧ Below W.heap.size W w'
theorem retPlan_mk {d : List UInt8} {ls : List Jr.Wr} {W w' : World} {p q : List Jr.Wr} {c : Int} (h : Jr.plan d ls = (p, q, c)) {v1 v2 : Value} (h1 : Wp w' v1 p) (h2 : Wp w' v2 q) (hb : Below W.heap.size W w') : RetPlan d ls W (.returned (.tuple #[v1, v2, .int .i64 c])) w' := by
  unfold RetPlan
  rw [h]
  exact ⟨v1, v2, rfl, h1, h2, hb⟩

/-- A box that lies in no row stays when a row is appended to. -/
theorem bk_spare {w w' : World} {g : Nat} {T : TypeId} {l : List Value} {v v' : Value} (h : Bk w g T l) (hs : Spares w w' v v') (hv : v.ownBlock ≠ some g) : Bk w' g T l := h.keep (hs g h.lt hv).1

set_option maxRecDepth 100000 in
set_option maxHeartbeats 4000000 in
theorem jplan_w {v u : Value} {d : List UInt8} {ls : List Jr.Wr} {w : World} (hv : Sl eb w v d) (hu : Wp w u ls) (hl : ls.length ≤ 1000) : Calls Try.prog 14 #[v, u] w (RetPlan d ls w) := by
  obtain ⟨a, cap, rfl, hc, hm, hna, -⟩ := id hv
  obtain ⟨ua, ucap, rfl, h1, h2, h3, hop⟩ := hu.open
  obtain ⟨⟨n, old, c⟩, hr⟩ : ∃ x, Jr.read d = x := ⟨_, rfl⟩
  have HPL := Lib.hid (Jr.plan_at hr ls)
  have HRD : Hid (Calls Try.prog 22 #[.slice a d.length cap] w fun e w' => ∃ a k, e = .returned (.tuple #[.int .i64 n, .slice a old.length k, .int .i64 c]) ∧ Wo w.heap.size 63 [] w' (.slice a old.length k) old ∧ Below w.heap.size w w') := (jread_w hv).mono fun _ _ h => h.at hr
  have HVL : Hid (∀ W, Below w.heap.size w W → Calls Try.prog 19 #[.slice ua ls.length ucap] W fun e w' => e = .returned (.bool (Jr.valid ls)) ∧ Below W.heap.size W w') := fun W hW => jvalid_w (hu.below hW (Nat.le_refl _)) hl
  have HOP := Lib.hid hop
  have HV := Lib.hid hv
  unfold maxLen at hm
  by_cases hc0 : c = 0
  rotate_left
  · have HR : Hid (Jr.plan d ls = ([], [], c)) := HPL.out.trans (if_pos hc0)
    have hq : (c != 0) = true := by simp [hc0]
    clear hr hc0 hop hu hv
    go_enter Try.func14, Try.ntmps14
    go_wp2_with (go_at_call 22; (with_reducible refine HRD.out.mono ?_); rintro e w1 ⟨a1, k1, rfl, ho1, hb1⟩)
    go_ret3
    exact retPlan_mk HR.out Wp.nil Wp.nil hb1
  subst hc0
  obtain ⟨hd, hnq, -, -, -⟩ := Jr.read_ok hr
  have hsb := Jr.seq_bound d hd
  rw [← hnq] at hsb
  obtain ⟨hn0, hn1⟩ := hsb
  have HP0 := Lib.hid (HPL.out.trans (if_neg (by simp)))
  have HDL := Lib.hid hd
  clear hr hnq hop hu hv hd
  cases hval : Jr.valid ls with
  | false =>
    have HR : Hid (Jr.plan d ls = ([], [], 1)) := HP0.out.trans (if_pos hval)
    rw [hval] at HVL
    clear hval
    go_enter Try.func14, Try.ntmps14
    go_wp2_with (first
      | (go_at_call 22; (with_reducible refine HRD.out.mono ?_); rintro e w1 ⟨a1, k1, rfl, ho1, hb1⟩)
      | (go_at_call 19; (with_reducible refine (HVL.out _ hb1).mono ?_); rintro e w2 ⟨rfl, hb2⟩))
    go_ret3
    exact retPlan_mk HR.out Wp.nil Wp.nil (stepAny hb1 hb2)
  | true =>
    have HP1 := Lib.hid (HP0.out.trans (if_neg (by rw [hval]; simp)))
    rw [hval] at HVL
    have HVAL := Lib.hid hval
    clear hval
    by_cases hol : old.length = 0
    rotate_left
    · have HR : Hid (Jr.plan d ls = ([], [], 7)) := HP1.out.trans (if_pos (fun e => hol (by rw [e]; rfl)))
      have f0 : (0 : Int) < (old.length : Int) := by omega
      clear hol
      go_enter Try.func14, Try.ntmps14
      go_wp2_with (first
        | (go_at_call 22; (with_reducible refine HRD.out.mono ?_); rintro e w1 ⟨a1, k1, rfl, ho1, hb1⟩)
        | (go_at_call 19; (with_reducible refine (HVL.out _ hb1).mono ?_); rintro e w2 ⟨rfl, hb2⟩))
      go_ret3
      exact retPlan_mk HR.out Wp.nil Wp.nil (stepAny hb1 hb2)
    · have HP2 := Lib.hid (HP1.out.trans (if_neg (by rw [List.eq_nil_of_length_eq_zero hol]; simp)))
      have f0 : ¬ (0 : Int) < (old.length : Int) := by omega
      clear hol
      by_cases hn : n = 4294967295
      · have HR : Hid (Jr.plan d ls = ([], [], 2)) := HP2.out.trans (if_pos hn)
        have hq : (n == 4294967295) = true := by simp [hn]
        clear hn
        go_enter Try.func14, Try.ntmps14
        go_wp2_with (first
          | (go_at_call 22; (with_reducible refine HRD.out.mono ?_); rintro e w1 ⟨a1, k1, rfl, ho1, hb1⟩)
          | (go_at_call 19; (with_reducible refine (HVL.out _ hb1).mono ?_); rintro e w2 ⟨rfl, hb2⟩))
        go_ret3
        exact retPlan_mk HR.out Wp.nil Wp.nil (stepAny hb1 hb2)
      · have HR : Hid (Jr.plan d ls = (Jr.logs ls ++ [(1, Jr.mk 49 (ls.map Prod.fst) (n + 1) (Jr.slots (Jr.app d (Jr.logs ls))))], Jr.homes (n + 1) ls, 0)) := HP2.out.trans (if_neg hn)
        have hq : (n == 4294967295) = false := by simp [hn]
        have hn2 : n + 1 ≤ 4294967295 := by omega
        have hn3 : (0 : Int) ≤ n + 1 := by omega
        obtain ⟨hall8, -, hge1, hle11⟩ := Jr.valid_all HVAL.out
        have HL8 : Hid (∀ i (h : i < ls.length), ls[i].2.length = 128) := fun i h => (hall8 _ (List.getElem_mem h)).2
        have HLT := Lib.hid (fun k hk => Jr.logs_take ls k hk)
        have HTS := Lib.hid (fun k hk => take_snoc ls k hk)
        have HTI : Hid (∀ k (hk : k < ls.length), (ls.map Prod.fst).take (k + 1) = (ls.map Prod.fst).take k ++ [ls[k].1]) := fun k hk => by
          rw [take_snoc _ _ (by simpa using hk)]
          simp
        have HAS := Lib.hid (fun k hk => Jr.allN_step d HDL.out ls HVAL.out k hk)
        have HAL := Lib.hid (fun k => Jr.allN_len d HDL.out ls HVAL.out k)
        have HAE := Lib.hid (Jr.allN_all d ls)
        have HLL := Lib.hid (Jr.logs_len ls)
        have hdl := HDL.out
        rw [hdl] at HV HRD hc ⊢
        clear hall8 hn hdl
        obtain ⟨b0, off0, rfl, hb0, -, -, -⟩ := HV.out.addr (by omega)
        have HSL : Hid ((Jr.slots d).length = 1408) := HAL.out 0
        have HSS : Hid (∀ W, Below w.heap.size w W → Sl eb W (.slice (some ⟨b0, off0 + 256, none⟩) 1408 (cap - 256)) (Jr.slots d)) := fun W hW => (HV.out.below hW (Nat.le_refl _)).cut 256 1408 (by omega)
        have HJS := Lib.hid (fun W => jslots_w b0 off0 cap hc (by unfold maxLen; omega) W)
        have hszu : (Try.prog.info? 5).map (·.size) = some 1 := by kernel_rfl
        obtain ⟨i3, hi3, hz30, hz31, hz32⟩ := info_parts Try.info3
        obtain ⟨iJ, hiJ, hzJ0, hzJ1, hzJ2⟩ := info_parts Try.infoJ
        go_enter Try.func14, Try.ntmps14
        go_upto_region 11 with (first
          | (go_at_call 22; (with_reducible refine HRD.out.mono ?_); rintro e w1 ⟨a1, k1, rfl, ho1, hb1⟩)
          | (go_at_call 19; (with_reducible refine (HVL.out _ hb1).mono ?_); rintro e w2 ⟨rfl, hb2⟩; have hb12 := stepAny hb1 hb2)
          | (go_at_call 36; (with_reducible refine (HJS.out _).mono ?_); rintro e w3 ⟨rfl, rfl⟩)
          | (go_at_call 35; refine (bclone_w (HSS.out _ hb12) (by rw [HSL.out]; omega)).mono ?_; rintro e w3 ⟨v3, rfl, ho3, hb3⟩))
        rw [HSL.out] at ho3
        have HB3 := Lib.hid (stepAny hb12 hb3)
        obtain ⟨g, cg, rfl⟩ := own_form ho3 (by omega)
        have HP3 : Hid (PL w.heap.size 63 w3 (.slice none 0 0) (.slice none 0 0) (.slice (some ⟨g, 0, none⟩) 1408 cg) (.slice none 0 0) [] [] (Jr.slots d) []) := PL.start (by rw [HSL.out]; exact own_base ho3 hb12.size)
        obtain ⟨hwg, hcg, hcgm⟩ : w.heap.size ≤ g ∧ 1408 ≤ cg ∧ cg ≤ maxLen := by
          have h := own_bk' ho3
          exact ⟨Nat.le_trans hb12.size h.1, h.2.1, h.2.2.1⟩
        unfold maxLen at hcgm
        clear ho1 hb1 hb2 hb12 ho3 hb3
        go_wp2_with fail
        go_loopw [4, 5, 10, 11, 12, 39] (fun s4 s5 s10 _ _ i wr => ∃ (k : Nat) (v1 v2 v0 : Value), v1 = s4 ∧ v2 = s5 ∧ v0 = s10 ∧ i = .int .i64 k ∧ k ≤ ls.length ∧ PL w.heap.size 63 wr v1 v2 (.slice (some ⟨g, 0, none⟩) 1408 cg) v0 ((Jr.logs ls).take k) (ls.take k) (Jr.allN d ls k) ((ls.map Prod.fst).take k) ∧ Below w.heap.size w wr) (fun _ _ _ _ _ i _ => ls.length - (intOf i).toNat)
        case atStart => exact ⟨0, _, _, _, rfl, rfl, rfl, rfl, Nat.zero_le _, HP3.out, HB3.out⟩
        case round =>
          obtain ⟨k, v1, v2, v0, rfl, rfl, rfl, rfl, hk, hpl, hbl⟩ := hrel
          by_cases hlt : k < ls.length
          · obtain ⟨b, off, a', c', rfl, hbw, ⟨x0, x1⟩, hsx⟩ := HOP.out k hlt
            have hl8 := HL8.out k hlt
            rw [hl8] at x1 hsx
            have HL8k := Lib.hid hl8
            have y0 : wr.cell? ⟨b, off + k * 2, none⟩ = some (.int .i64 ls[k].1) := by rw [hbl.cell (p := ⟨b, off + k * 2, none⟩) hbw]; exact x0
            have y1 : wr.cell? ⟨b, off + k * 2 + 1, none⟩ = some (.slice a' 128 c') := by rw [hbl.cell (p := ⟨b, off + k * 2 + 1, none⟩) hbw]; exact x1
            have HLTk := Lib.hid (HLT.out k hlt)
            have HTSk := Lib.hid (HTS.out k hlt)
            have HTIk := Lib.hid (HTI.out k hlt)
            have HASk := Lib.hid (HAS.out k hlt)
            have HKK : Hid (ls[k] = (ls[k].1, ls[k].2)) := rfl
            have HPLk := Lib.hid hpl
            have HBL := Lib.hid hbl
            have hbs := hbl.size
            have hbx1 : v1.ownBlock ≠ some wr.heap.size := fun e => absurd (hpl.lt v1 (by simp) _ e).2 (Nat.lt_irrefl _)
            have hbx2 : v2.ownBlock ≠ some wr.heap.size := fun e => absurd (hpl.lt v2 (by simp) _ e).2 (Nat.lt_irrefl _)
            have hbx0 : v0.ownBlock ≠ some wr.heap.size := fun e => absurd (hpl.lt v0 (by simp) _ e).2 (Nat.lt_irrefl _)
            have hgw : g < wr.heap.size := (hpl.lt _ (by simp : Value.slice (some ⟨g, 0, none⟩) 1408 cg ∈ [v1, v2, .slice (some ⟨g, 0, none⟩) 1408 cg, v0]) g rfl).2
            have HRDk : Hid (∀ W, Below w.heap.size w W → Sl eb W (.slice a' 128 c') ls[k].2) := fun W hW => hsx.below hW (Nat.le_refl _)
            have f1 : (0 : Int) ≤ (k : Int) := by omega
            have f2 : (k : Int) < (ls.length : Int) := by omega
            have HLN1 : Hid (((Jr.logs ls).take k).length ≤ 100) := by show _ ≤ _; rw [List.length_take]; omega
            have HLN2 : Hid ((ls.take k).length ≤ 100) := by show _ ≤ _; rw [List.length_take]; omega
            have HLN0 : Hid (((ls.map Prod.fst).take k).length ≤ 100) := by show _ ≤ _; rw [List.length_take]; omega
            have HALk := Lib.hid (HAL.out k)
            have hcast : ((2 + k : Nat) : Int) = 2 + (k : Int) := by omega
            rw [hcast] at HLTk
            clear x0 x1 hsx hl8 hpl hbl hcast
            generalize ls[k].1 = q at *
            generalize ls[k].2 = bs at *
            go_upto_region 16 with (first
              | (go_at_call 35; refine (bclone_w (HRDk.out _ (HBL.out.alloc hbs _)) (by rw [HL8k.out]; omega)).mono ?_; rintro e w5 ⟨v5, rfl, ho5, hb5⟩; rw [HL8k.out] at ho5; obtain ⟨a5, c5, rfl⟩ := own_slice ho5; have hb5' := (low_alloc wr _).trans (hb5.mono (by simp)))
              | (at_builtin; refine wpList_append_pl rfl _ _ 31 rfl iJ _ Try.underlying31 hiJ hzJ0 hzJ1 hzJ2 rfl rfl ((HPLk.out.below hb5').below (low_alloc _ _)) (by have := HLN1.out; omega) w5.heap.size (2 + (k : Int)) (.slice a5 128 c5) bs rfl (heap_alloc_new _ _) (HPLk.out.fresh (own_below ho5 (low_alloc _ _)) (by simp)) (by have := hb5'.size; simp; omega) ?_; intro v1' w6 hpl6 hsp6 hb6))
            have hbk5 : Bk (w5.alloc (.cells #[.int .i64 (2 + (k : Int)), .slice a5 128 c5] 63 (0, 0))) wr.heap.size 63 [.int .i64 q, .slice a' 128 c'] := ((Bk.new wr 63 [.int .i64 q, .slice a' 128 c']).below hb5 (by simp)).alloc _
            have hbk6 := bk_spare hbk5 hsp6 hbx1
            have hlow6 := ((HBL.out.trans (hb5'.mono hbs)).alloc (by have := hb5'.size; omega) _).trans hb6
            have hs6 : wr.heap.size < w6.heap.size := hbk6.lt
            have HPL6 := Lib.hid hpl6
            have HBK6 := Lib.hid hbk6
            have HLOW6 := Lib.hid hlow6
            have z0 : w6.drew.cell? ⟨wr.heap.size, 0, none⟩ = some (.int .i64 q) := hbk6.cell 0
            have z1 : w6.drew.cell? ⟨wr.heap.size, 1, none⟩ = some (.slice a' 128 c') := hbk6.cell 1
            clear ho5 hb5 hb5' hpl6 hsp6 hb6 hbk5 hbk6 hlow6
            go_region_held3 (fun w' => w'.cell? ⟨wr.heap.size, 0, none⟩ = some (.int .i64 q) ∧ w'.cell? ⟨wr.heap.size, 1, none⟩ = some (.slice a' 128 c')) (first | exact ⟨by with_reducible assumption, by with_reducible assumption⟩ | go_keep) ((first
              | (go_at_call 35; refine (bclone_w (HRDk.out _ HLOW6.out.drew) (by rw [HL8k.out]; omega)).mono ?_; rintro e w7 ⟨v7, rfl, ho7, hb7⟩; rw [HL8k.out] at ho7; obtain ⟨a7, c7, rfl⟩ := own_slice ho7; have hb7' := (low_drew w6).trans hb7; have hbk7 := HBK6.out.below hb7' hs6; have z70 : w7.cell? ⟨wr.heap.size, 0, none⟩ = some (.int .i64 q) := hbk7.cell 0; have z71 : w7.cell? ⟨wr.heap.size, 1, none⟩ = some (.slice a' 128 c') := hbk7.cell 1)
              | (refine step_append_pl rfl (.tmp 53) (.tmp 60) 31 rfl iJ _ Try.underlying31 hiJ hzJ0 hzJ1 hzJ2 rfl rfl ((HPL6.out.below hb7').below (low_alloc _ _)).swap (by have := HLN2.out; omega) w7.heap.size q (.slice a7 128 c7) bs rfl (heap_alloc_new _ _) (HPL6.out.swap.fresh (own_below ho7 (low_alloc _ _)) (Nat.le_refl _)) (by have := hb7'.size; have := HLOW6.out.size; simp; omega) ?_; intro v2' w8 hpl8 hsp8 hb8; have hbk8 := bk_spare (hbk7.alloc _) hsp8 hbx2; have z80 : w8.cell? ⟨wr.heap.size, 0, none⟩ = some (.int .i64 q) := hbk8.cell 0; have z81 : w8.cell? ⟨wr.heap.size, 1, none⟩ = some (.slice a' 128 c') := hbk8.cell 1)))
            have hlow8 := ((HLOW6.out.trans (hb7'.mono HLOW6.out.size)).alloc (by have := hb7'.size; have := HLOW6.out.size; omega) _).trans hb8
            have HPL8 := Lib.hid hpl8.swap
            have HBK8 := Lib.hid hbk8
            have HLOW8 := Lib.hid hlow8
            have hs8 : wr.heap.size < w8.heap.size := hbk8.lt
            have HO8 : Hid (w8.drew.ownsRow w.heap.size 5 1 (.slice (some ⟨g, 0, none⟩) 1408 cg) 1408 ((Jr.allN d ls k).map eb)) := by
              have h := hpl8.swap.o9
              rw [HALk.out] at h
              exact own_below h (low_drew w8)
            have z90 : w8.drew.cell? ⟨wr.heap.size, 0, none⟩ = some (.int .i64 q) := z80
            have z91 : w8.drew.cell? ⟨wr.heap.size, 1, none⟩ = some (.slice a' 128 c') := z81
            have HS8 : Hid (Sl eb w8.drew (.slice a' 128 c') bs) := HRDk.out _ hlow8.drew
            have f3 : IntKind.i64.wrap ((k : Int) * 128) = (k : Int) * 128 := IntWalk.i64_in _ (by omega)
            have f4 : (0 : Int) ≤ (k : Int) * 128 := by omega
            have f5 : (k : Int) * 128 ≤ 1408 := by omega
            have f6 : ((k : Int) * 128).toNat = k * 128 := by omega
            have f7 : ¬ cg = k * 128 := by omega
            clear z0 z1 z70 z71 z80 z81 ho7 hb7 hb7' hbk7 hpl8 hsp8 hb8 hbk8 hlow8
            go_wp2_with fail
            go_region_held3 (fun w' => w'.cell? ⟨wr.heap.size, 0, none⟩ = some (.int .i64 q) ∧ w'.cell? ⟨wr.heap.size, 1, none⟩ = some (.slice a' 128 c')) (first | exact ⟨by with_reducible assumption, by with_reducible assumption⟩ | go_keep) ((first
              | (refine step_copy_own8 rfl (.tmp 65) (.tmp 67) 29 29 rfl 5 Try.underlying29 hszu w.heap.size g 1408 cg (Jr.allN d ls k) HO8.out (k * 128) (1408 - k * 128) (cg - k * 128) rfl (by omega) (.slice a' 128 c') bs rfl HS8.out ?_; intro w9 ho9 hg9; have z92 := (cell_far8 hg9 (show wr.heap.size ≠ g by omega) 0 hs8).trans z90; have z93 := (cell_far8 hg9 (show wr.heap.size ≠ g by omega) 1 hs8).trans z91)))
            have hys : Jr.put (Jr.allN d ls k) (k * 128) (bs.take (1408 - k * 128)) = Jr.allN d ls (k + 1) := by rw [List.take_of_length_le (by have := HL8k.out; omega), HASk.out]
            rw [hys] at ho9
            have HPL9 : Hid (PL w.heap.size 63 w9 v1' v2' (.slice (some ⟨g, 0, none⟩) 1408 cg) v0 ((Jr.logs ls).take k ++ [(2 + (k : Int), bs)]) (ls.take k ++ [(q, bs)]) (Jr.allN d ls (k + 1)) ((ls.map Prod.fst).take k)) := (HPL8.out.below (low_drew w8)).write (by rw [HAL.out, HAL.out]) (by rw [HALk.out]; exact ho9) hg9
            have HLOW9 : Hid (Below w.heap.size w w9) := HLOW8.out.drew.trans (below_of_grown hg9 hwg HLOW8.out.size)
            clear hys ho9 hg9 z90 z91 f3 f4 f5 f6 f7
            go_wp2_with (at_builtin; refine wpList_append_pl0 rfl _ _ 70 rfl i3 _ Try.underlying70 hi3 hz30 hz31 hz32 rfl rfl (HPL9.out.below (low_alloc _ _)) (by have := HLN0.out; omega) w9.heap.size q rfl (heap_alloc_new _ _) (by have := HLOW9.out.size; simp; omega) ?_; intro v0' w10 hpl10 hsp10 hb10)
            go_roundw
            case rel => exact ⟨k + 1, _, _, _, rfl, rfl, rfl, by go_num, by omega, by rw [HLTk.out, HTSk.out, HTIk.out, HKK.out]; exact hpl10, (HLOW9.out.alloc HLOW9.out.size _).trans hb10⟩
            case measure => simp [intOf]; omega
          · obtain rfl : k = ls.length := by omega
            have hpe : PL w.heap.size 63 wr v1 v2 (.slice (some ⟨g, 0, none⟩) 1408 cg) v0 (Jr.logs ls) ls (Jr.slots (Jr.app d (Jr.logs ls))) (ls.map Prod.fst) := by
              have h := hpl
              rw [List.take_of_length_le (by rw [HLL.out]; exact Nat.le_refl _), List.take_length, HAE.out, List.take_of_length_le (by simp)] at h
              exact h
            have HPE := Lib.hid hpe
            have HBL := Lib.hid hbl
            have hbs := hbl.size
            have HSLL : Hid ((Jr.slots (Jr.app d (Jr.logs ls))).length = 1408) := by show _ = _; rw [← HAE.out]; exact HAL.out _
            have HH1 := Lib.hid (header_w (ByteArray.mk #[74, 82, 78, 49]) 49 (by rfl) (n + 1) (Sl.ofOwn hpe.o0) (by simpa using hle11) (Sl.ofOwn hpe.o9) (by rw [HSLL.out]; omega))
            have HH2 := Lib.hid (fun W => header_w (ByteArray.mk #[74, 82, 78, 48]) 48 (by rfl) (n + 1) (bl := []) (sl := []) (Sl.nil (Value.int .i64) W) (by simp) (Sl.nil eb W) (by simp))
            have HMK : Hid (Jr.homes (n + 1) ls = ls ++ [(1, Jr.mk 48 [] (n + 1) [])]) := rfl
            clear hpl hpe hbl
            go_upto_region 21 with (first
              | (go_at_call 37; (with_reducible refine HH1.out.mono ?_); rintro e w5 ⟨v5, rfl, ho5, hb5⟩; obtain ⟨a5, c5, rfl⟩ := own_slice ho5)
              | (at_builtin; refine wpList_append_pl rfl _ _ 31 rfl iJ _ Try.underlying31 hiJ hzJ0 hzJ1 hzJ2 rfl rfl ((HPE.out.below hb5).below (low_alloc _ _)) (by rw [HLL.out]; omega) w5.heap.size 1 (.slice a5 128 c5) (Jr.mk 49 (ls.map Prod.fst) (n + 1) (Jr.slots (Jr.app d (Jr.logs ls)))) rfl (heap_alloc_new _ _) (HPE.out.fresh (own_below ho5 (low_alloc _ _)) (Nat.le_refl _)) (by have := hb5.size; simp; omega) ?_; intro v1' w6 hpl6 hsp6 hb6))
            have hlow6 := ((HBL.out.trans (hb5.mono hbs)).alloc (by have := hb5.size; omega) _).trans hb6
            have HPL6 := Lib.hid hpl6
            have HLOW6 := Lib.hid hlow6
            clear ho5 hb5 hpl6 hsp6 hb6 hlow6
            go_wp2_with (first
              | (go_at_call 37; (with_reducible refine (HH2.out _).mono ?_); rintro e w7 ⟨v7, rfl, ho7, hb7⟩; obtain ⟨a7, c7, rfl⟩ := own_slice ho7)
              | (at_builtin; refine wpList_append_pl rfl _ _ 31 rfl iJ _ Try.underlying31 hiJ hzJ0 hzJ1 hzJ2 rfl rfl ((HPL6.out.below hb7).below (low_alloc _ _)).swap (by omega) w7.heap.size 1 (.slice a7 128 c7) (Jr.mk 48 [] (n + 1) []) rfl (heap_alloc_new _ _) (HPL6.out.swap.fresh (own_below ho7 (low_alloc _ _)) (Nat.le_refl _)) (by have := hb7.size; have := HLOW6.out.size; simp; omega) ?_; intro v2' w8 hpl8 hsp8 hb8))
            go_ret3
            refine retPlan_mk HR.out hpl8.swap.wp (by rw [HMK.out]; exact hpl8.wp) (((HLOW6.out.trans (hb7.mono HLOW6.out.size)).alloc (by have := hb7.size; have := HLOW6.out.size; omega) _).trans hb8)
end Go.Proofs.Ytcbgablnbgpjdaa
