/-
  The walk of Disk of the reference.
-/
import Derived.Test.YtcbgablnbgpjdaaJx
namespace Jr
theorem strew_take (d : List UInt8) (l : List Wr) (k : Nat) (hk : k < l.length) : strew d (l.take (k + 1)) = if 0 ≤ l[k].1 ∧ l[k].1 < 96 ∧ l[k].1 ≠ 1 then pack (strew d (l.take k)) l[k].1.toNat l[k].2 else strew d (l.take k) := by
  have h : ∀ (m : List Wr) (d : List UInt8) (w : Wr), strew d (m ++ [w]) = if 0 ≤ w.1 ∧ w.1 < 96 ∧ w.1 ≠ 1 then pack (strew d m) w.1.toNat w.2 else strew d m := by
    intro m
    induction m with
    | nil => intro d w; rfl
    | cons y m ih => intro d w; exact ih _ _
  rw [List.take_succ_eq_append_getElem hk, h]
theorem fill_take (d : List UInt8) (n : Nat) (l : List Wr) (k : Nat) (hk : k < l.length) : fill d n (l.take (k + 1)) = pack (fill d n (l.take k)) (n + k) l[k].2 := by
  have h : ∀ (m : List Wr) (d : List UInt8) (n : Nat) (w : Wr), fill d n (m ++ [w]) = pack (fill d n m) (n + m.length) w.2 := by
    intro m
    induction m with
    | nil => intro d n w; rfl
    | cons y m ih =>
      intro d n w
      show fill _ (n + 1) (m ++ [w]) = pack (fill _ (n + 1) m) (n + (m.length + 1)) w.2
      rw [ih]
      congr 1
      omega
  rw [List.take_succ_eq_append_getElem hk, h, List.length_take, Nat.min_eq_left (by omega)]
end Jr
namespace Go.Proofs.Ytcbgablnbgpjdaa
open Go.RowKit

/-- What Disk makes. -/
def RetDisk (x : Jr.Sp) (W : World) (e : Ending) (w' : World) : Prop := ∃ g c, e = .returned (.slice (some ⟨g, 0, none⟩) 12288 c) ∧ w'.ownsRow W.heap.size 5 1 (.slice (some ⟨g, 0, none⟩) 12288 c) 12288 ((Jr.disk x).map eb) ∧ Below W.heap.size W w'

set_option maxRecDepth 100000 in
set_option maxHeartbeats 4000000 in
theorem rdisk_w {u1 u2 : Value} {bl lg : List Jr.Wr} {seq : Int} {w : World} (h1 : Wp w u1 bl) (h2 : Wp w u2 lg) (hq0 : 0 ≤ seq) (hq1 : seq < 4294967296) (hl1 : bl.length ≤ 1000) (hl2 : lg.length ≤ 1000) :
    Calls Try.prog 13 #[.agg #[u1, .int .u32 seq, u2]] w (RetDisk (bl, seq, lg) w) := by
  obtain ⟨a1, c1, rfl, h11, h12, -, hop1⟩ := h1.open
  obtain ⟨a2, c2, rfl, h21, h22, -, hop2⟩ := h2.open
  have HOP1 := Lib.hid hop1
  have HOP2 := Lib.hid hop2
  unfold maxLen at h12 h22
  obtain ⟨i0, hi, hz0, hz1, hz2⟩ := info_parts Try.info5
  have hszu : (Try.prog.info? 5).map (·.size) = some 1 := by kernel_rfl
  obtain ⟨W1, hW1⟩ : ∃ W1, W1 = w.alloc (.cells #[.slice a1 bl.length c1, .int .u32 seq, .slice a2 lg.length c2] 25 (0, 0)) := ⟨_, rfl⟩
  have hs1 : W1.heap.size = w.heap.size + 1 := by rw [hW1]; simp
  have hbx : Bk W1 w.heap.size 25 [.slice a1 bl.length c1, .int .u32 seq, .slice a2 lg.length c2] := by rw [hW1]; exact Bk.new w _ [_, _, _]
  have hlow1 : Below w.heap.size w W1 := by rw [hW1]; exact low_alloc _ _
  have hm1 : ∀ W : World, (Instr.makeSlice 29 (.int .i64 12288) (.int .i64 12288)).run Try.prog W = .ok (.slice (some ⟨W.heap.size, 0, none⟩) 12288 12288) (W.alloc (.cells (Jr.zeros.map eb).toArray 5 (0, 0))) := fun W => by
    have h := run_make (P := Try.prog) W 29 5 i0 (.int .u8 0) Try.underlying29 hi hz0 .i64 .i64 12288 12288 (by decide) (by decide) (by rw [hz2]; decide) (by decide)
    rw [hz1] at h
    rw [show Jr.zeros.map eb = List.replicate 12288 (.int .u8 0) by unfold Jr.zeros; rw [List.map_replicate]; rfl, ← toList_made]
    exact h
  have hzl : (Jr.zeros.map eb).length = 12288 := by unfold Jr.zeros; rw [List.map_replicate, List.length_replicate]
  have ho2 : (W1.alloc (.cells (Jr.zeros.map eb).toArray 5 (0, 0))).ownsRow (w.heap.size + 1) 5 1 (.slice (some ⟨w.heap.size + 1, 0, none⟩) 12288 12288) 12288 (Jr.zeros.map eb) := by
    have h := Bk.own (base := w.heap.size + 1) (Bk.new W1 5 (Jr.zeros.map eb)) (by omega) (by rw [hzl]; unfold maxLen; omega)
    rw [hzl, hs1] at h
    exact h
  have hb2 : Below (w.heap.size + 1) W1 (W1.alloc (.cells (Jr.zeros.map eb).toArray 5 (0, 0))) := (Below.refl _ _).alloc (by omega) _
  generalize hzz : (Jr.zeros.map eb).toArray = ZA at hm1 ho2 hb2
  have HO2 := Lib.hid ho2
  have HB2 := Lib.hid hb2
  have HS0 : Hid (Jr.zeros = Jr.strew Jr.zeros (bl.take 0)) := rfl
  have HST := Lib.hid (fun k hk => Jr.strew_take Jr.zeros bl k hk)
  have HQ : Hid (∀ W, Below (w.heap.size + 1) W1 W → W.cell? ⟨w.heap.size, 0, none⟩ = some (.slice a1 bl.length c1) ∧ W.cell? ⟨w.heap.size, 1, none⟩ = some (.int .u32 seq) ∧ W.cell? ⟨w.heap.size, 2, none⟩ = some (.slice a2 lg.length c2)) := fun W hW => by
    have h := hbx.below hW (by omega)
    exact ⟨h.cell 0, h.cell 1, h.cell 2⟩
  have HLW : Hid (∀ W, Below (w.heap.size + 1) W1 W → Below w.heap.size w W) := fun W hW => hlow1.trans (hW.mono (by omega))
  have HWP2 : Hid (∀ W, Below (w.heap.size + 1) W1 W → Wp W (.slice a2 lg.length c2) lg) := fun W hW => h2.below (HLW.out W hW) (Nat.le_refl _)
  unfold RetDisk
  have HDK : Hid (∀ d, d = Jr.pack (Jr.strew Jr.zeros (bl.take 20)) 1 (Jr.idle seq) → Jr.disk (bl, seq, lg) = if Jr.valid lg = true then Jr.pack (Jr.fill d 2 lg) 1 (Jr.head seq lg (Jr.slots (Jr.fill d 2 lg))) else d) := fun d hd => by subst hd; rfl
  generalize Jr.zeros = Z at *
  generalize Jr.disk (bl, seq, lg) = DK at *
  clear hzz hop1 hop2 h1 h2 hbx ho2 hb2 hzl
  go_enter Try.func13, Try.ntmps13
  have HW1 := Lib.hid hW1
  clear hW1
  go_upto_region 2 with fail
  rw [← HW1.out]
  generalize W1.alloc (.cells ZA 5 (0, 0)) = W2 at *
  clear hm1
  go_wp2_with fail
  go_loopw [4, 5] (fun i _ wr => ∃ k : Nat, i = .int .i64 k ∧ k ≤ bl.length ∧ k ≤ 20 ∧ wr.ownsRow (w.heap.size + 1) 5 1 (.slice (some ⟨w.heap.size + 1, 0, none⟩) 12288 12288) 12288 ((Jr.strew Z (bl.take k)).map eb) ∧ Below (w.heap.size + 1) W1 wr) (fun i _ _ => bl.length - (intOf i).toNat)
  case atStart => exact ⟨0, rfl, Nat.zero_le _, Nat.zero_le _, by rw [← HS0.out]; exact HO2.out, HB2.out⟩
  case round =>
    obtain ⟨k, rfl, hk, hk20, ho, hbl⟩ := hrel
    obtain ⟨q0, q1, q2⟩ := HQ.out wr hbl
    have HO := Lib.hid ho
    have HBL := Lib.hid hbl
    have hbs := hbl.size
    have hlow := HLW.out wr hbl
    have HLOW := Lib.hid hlow
    by_cases hlt : k < bl.length ∧ k < 20
    · obtain ⟨g1, g2⟩ := hlt
      obtain ⟨b, off, a', c', rfl, hbw, ⟨x0, x1⟩, hsx⟩ := HOP1.out k g1
      have y0 : wr.cell? ⟨b, off + k * 2, none⟩ = some (.int .i64 bl[k].1) := (hlow.cell (p := ⟨b, off + k * 2, none⟩) hbw).trans x0
      have y1 : wr.cell? ⟨b, off + k * 2 + 1, none⟩ = some (.slice a' bl[k].2.length c') := (hlow.cell (p := ⟨b, off + k * 2 + 1, none⟩) hbw).trans x1
      have f1 : (0 : Int) ≤ (k : Int) := by omega
      have f2 : (k : Int) < (bl.length : Int) := by omega
      have HSTk := Lib.hid (HST.out k g1)
      have HSX := Lib.hid hsx
      have hgl := ho.lt (w.heap.size + 1) rfl
      clear x0 x1 hsx ho hbl hlow
      generalize bl[k].1 = n at *
      generalize bl[k].2 = bs at *
      by_cases c1 : 0 ≤ n ∧ n < 96 ∧ n ≠ 1
      · have HSTY : Hid (Jr.strew Z (bl.take (k + 1)) = Jr.pack (Jr.strew Z (bl.take k)) n.toNat bs) := HSTk.out.trans (if_pos c1)
        obtain ⟨c2, c3, c4⟩ := c1
        obtain ⟨q, rfl⟩ : ∃ q : Nat, n = (q : Int) := ⟨n.toNat, by omega⟩
        have c5 : ((q : Int) != 1) = true := by rw [bne_iff_ne]; exact c4
        have HBK := Lib.hid (fun W => rblock_w (w.heap.size + 1) 0 12288 q (by omega) (by omega) (by unfold maxLen; omega) W)
        have HL9 : Hid (Below (w.heap.size + 1) W1 (wr.alloc (.cells #[.int .i64 (q : Int), .slice a' bs.length c'] 66 (0, 0))).drew) := (HBL.out.alloc (by omega) _).drew
        have HO9 : Hid ((wr.alloc (.cells #[.int .i64 (q : Int), .slice a' bs.length c'] 66 (0, 0))).drew.ownsRow (w.heap.size + 1) 5 1 (.slice (some ⟨w.heap.size + 1, 0, none⟩) 12288 12288) 12288 ((Jr.strew Z (bl.take k)).map eb)) := own_below HO.out (low_adrew wr _)
        have HS9 : Hid (Sl eb (wr.alloc (.cells #[.int .i64 (q : Int), .slice a' bs.length c'] 66 (0, 0))).drew (.slice a' bs.length c') bs) := HSX.out.below (HLOW.out.trans (low_adrew wr _ |>.mono HLOW.out.size)) (Nat.le_refl _)
        have z0 : (wr.alloc (.cells #[.int .i64 (q : Int), .slice a' bs.length c'] 66 (0, 0))).drew.cell? ⟨wr.heap.size, 0, none⟩ = some (.int .i64 (q : Int)) := by rw [World.cell?_drew, cell_of_row _ _ _ _ _ _ (heap_alloc_new wr _)]; rfl
        have z1 : (wr.alloc (.cells #[.int .i64 (q : Int), .slice a' bs.length c'] 66 (0, 0))).drew.cell? ⟨wr.heap.size, 1, none⟩ = some (.slice a' bs.length c') := by rw [World.cell?_drew, cell_of_row _ _ _ _ _ _ (heap_alloc_new wr _)]; rfl
        have hne : wr.heap.size ≠ w.heap.size + 1 := by omega
        go_upto_region 7 with fail
        go_region_held3 (fun w' => w'.cell? ⟨wr.heap.size, 0, none⟩ = some (.int .i64 (q : Int)) ∧ w'.cell? ⟨wr.heap.size, 1, none⟩ = some (.slice a' bs.length c')) (first | exact ⟨by with_reducible assumption, by with_reducible assumption⟩ | go_keep) ((first
          | (go_at_call 32; (with_reducible refine (HBK.out _).mono ?_); rintro e w5 ⟨rfl, rfl⟩)
          | (refine step_copy_own8 rfl (.tmp 40) (.tmp 42) 29 29 rfl 5 Try.underlying29 hszu (w.heap.size + 1) (w.heap.size + 1) 12288 12288 (Jr.strew Z (bl.take k)) HO9.out (q * 128) 128 (12288 - q * 128) rfl (by omega) (.slice a' bs.length c') bs rfl HS9.out ?_; intro w7 ho7 hg7; have z07 := (cell_far8 hg7 hne 0 (by simp)).trans z0; have z17 := (cell_far8 hg7 hne 1 (by simp)).trans z1)))
        all_goals
          go_wp2_with fail
          go_roundw
          case rel => exact ⟨k + 1, by go_num, by omega, by omega, by rw [HSTY.out]; exact ho7, HL9.out.trans (below_of_grown hg7 (Nat.le_refl _) (by have := HL9.out.size; omega))⟩
          case measure => simp [intOf]; omega
      · have HSTN : Hid (Jr.strew Z (bl.take (k + 1)) = Jr.strew Z (bl.take k)) := HSTk.out.trans (if_neg c1)
        have HREL : Hid (k + 1 ≤ bl.length ∧ k + 1 ≤ 20 ∧ (wr.alloc (.cells #[.int .i64 n, .slice a' bs.length c'] 66 (0, 0))).ownsRow (w.heap.size + 1) 5 1 (.slice (some ⟨w.heap.size + 1, 0, none⟩) 12288 12288) 12288 ((Jr.strew Z (bl.take (k + 1))).map eb) ∧ Below (w.heap.size + 1) W1 (wr.alloc (.cells #[.int .i64 n, .slice a' bs.length c'] 66 (0, 0)))) :=
          ⟨by omega, by omega, by rw [HSTN.out]; exact own_below HO.out (low_alloc wr _), HBL.out.alloc (by omega) _⟩
        by_cases c2 : 0 ≤ n
        · by_cases c3 : n < 96
          · have c4 : n = 1 := by
              refine Classical.byContradiction fun h => c1 ⟨c2, c3, h⟩
            subst c4
            clear c1
            go_wp2_with fail
            go_roundw
            case rel => exact ⟨k + 1, by go_num, HREL.out⟩
            case measure => simp [intOf]; omega
          · clear c1
            go_wp2_with fail
            go_roundw
            case rel => exact ⟨k + 1, by go_num, HREL.out⟩
            case measure => simp [intOf]; omega
        · clear c1
          go_wp2_with fail
          go_roundw
          case rel => exact ⟨k + 1, by go_num, HREL.out⟩
          case measure => simp [intOf]; omega
    · have HSE : Hid (Jr.strew Z (bl.take k) = Jr.strew Z (bl.take 20)) := by
        show _ = _
        by_cases e : k = 20
        · rw [e]
        · rw [List.take_of_length_le (show bl.length ≤ k by omega), List.take_of_length_le (show bl.length ≤ 20 by omega)]
      have HO1 : Hid (wr.ownsRow (w.heap.size + 1) 5 1 (.slice (some ⟨w.heap.size + 1, 0, none⟩) 12288 12288) 12288 ((Jr.strew Z (bl.take 20)).map eb)) := by rw [← HSE.out]; exact HO.out
      have hgl := ho.lt (w.heap.size + 1) rfl
      have HBK1 : Hid (∀ W, Calls Try.prog 32 #[.slice (some ⟨w.heap.size + 1, 0, none⟩) 12288 12288, .int .i64 1] W fun e w' => e = .returned (.slice (some ⟨w.heap.size + 1, 128, none⟩) 128 12160) ∧ W = w') := fun W => rblock_w (w.heap.size + 1) 0 12288 1 (by omega) (by omega) (by unfold maxLen; omega) W
      have HHD : Hid (∀ W, Calls Try.prog 33 #[.int .i64 seq, .slice none 0 0, .slice none 0 0] W fun e w' => ∃ v, e = .returned v ∧ w'.ownsRow W.heap.size 5 1 v 128 ((Jr.idle seq).map eb) ∧ Below W.heap.size W w') := fun W => rheader_w seq (ls := []) (sl := []) (Wp.nil (w := W)) (by simp) (Sl.nil eb W) (by simp)
      have fw : IntKind.i64.wrap seq = seq := IntWalk.i64_in _ (by omega)
      clear ho hbl hlow
      by_cases g1 : k < bl.length
      · have g2 : ¬ k < 20 := by omega
        have g3 : ¬ (k : Int) < 20 := by omega
        go_wp2_with fail
        have z1 : wr.drew.cell? ⟨w.heap.size, 1, none⟩ = some (.int .u32 seq) := q1
        clear q0 q1 q2
        go_region_held3 (fun w' => w'.cell? ⟨w.heap.size, 1, none⟩ = some (.int .u32 seq)) (first | with_reducible assumption | go_keep) ((first
          | (go_at_call 32; (with_reducible refine (HBK1.out _).mono ?_); rintro e w5 ⟨rfl, rfl⟩)
          | (go_at_call 33; (with_reducible refine (HHD.out _).mono ?_); rintro e w6 ⟨v6, rfl, ho6, hb6⟩; obtain ⟨a6, c6, rfl⟩ := own_slice ho6; have hb6' := (low_drew wr).trans hb6; obtain ⟨z60, z61, z62⟩ := HQ.out w6 (HBL.out.trans (hb6'.mono (by omega))))
          | (refine step_copy_own8 rfl (.tmp 45) (.tmp 49) 29 29 rfl 5 Try.underlying29 hszu (w.heap.size + 1) (w.heap.size + 1) 12288 12288 (Jr.strew Z (bl.take 20)) (own_below HO1.out hb6') 128 128 12160 rfl (by omega) (.slice a6 128 c6) (Jr.idle seq) rfl (Sl.ofOwn ho6) ?_; intro w7 ho7 hg7; have hl7 := (HBL.out.trans (hb6'.mono (by omega))).trans (below_of_grown hg7 (Nat.le_refl _) (by have := hb6'.size; omega)); obtain ⟨z70, z71, z72⟩ := HQ.out w7 hl7)))
        all_goals
          have HO7 : Hid (w7.ownsRow (w.heap.size + 1) 5 1 (.slice (some ⟨w.heap.size + 1, 0, none⟩) 12288 12288) 12288 ((Jr.pack (Jr.strew Z (bl.take 20)) 1 (Jr.idle seq)).map eb)) := ho7
          have HL7 := Lib.hid hl7
          have HVA := Lib.hid (rvalid_w (HWP2.out w7 hl7) hl2)
          have hs7 : w.heap.size + 1 < w7.heap.size := (ho7.lt _ rfl).2
          have HD := Lib.hid (HDK.out _ rfl)
          clear ho7 hl7 ho6 hb6 hb6' hg7 z60 z61 z62 z1
          generalize Jr.pack (Jr.strew Z (bl.take 20)) 1 (Jr.idle seq) = D at *
          cases hval : Jr.valid lg with
          | false =>
            rw [hval] at HVA
            have HDN : Hid (DK = D) := HD.out.trans (if_neg (by rw [hval]; simp))
            clear hval
            go_wp2_with (go_at_call 20; (with_reducible refine HVA.out.mono ?_); rintro e w8 ⟨rfl, hb8⟩)
            go_ret
            exact ⟨_, _, rfl, by rw [HDN.out]; exact own_base (own_below HO7.out hb8) (Nat.le_succ _), HLW.out _ (HL7.out.trans (hb8.mono (by omega)))⟩
          | true =>
            rw [hval] at HVA
            obtain ⟨-, -, hge1, hle11⟩ := Jr.valid_all hval
            have HDY : Hid (DK = Jr.pack (Jr.fill D 2 lg) 1 (Jr.head seq lg (Jr.slots (Jr.fill D 2 lg)))) := HD.out.trans (if_pos hval)
            have HFT := Lib.hid (fun k hk => Jr.fill_take D 2 lg k hk)
            have HF0 : Hid (D = Jr.fill D 2 (lg.take 0)) := rfl
            clear hval
            go_upto_region 10 with (go_at_call 20; (with_reducible refine HVA.out.mono ?_); rintro e w8 ⟨rfl, hb8⟩)
            have HO8 := Lib.hid (own_below HO7.out hb8)
            have HL8 := Lib.hid (HL7.out.trans (hb8.mono (Nat.le_of_lt hs7)))
            clear hb8 z70 z71 z72
            go_wp2_with fail
            obtain ⟨wo, rfl⟩ : ∃ wo : World, wo = wr := ⟨_, rfl⟩
            go_loopw [6] (fun i wr => ∃ k : Nat, i = .int .i64 k ∧ k ≤ lg.length ∧ wr.ownsRow (w.heap.size + 1) 5 1 (.slice (some ⟨w.heap.size + 1, 0, none⟩) 12288 12288) 12288 ((Jr.fill D 2 (lg.take k)).map eb) ∧ Below (w.heap.size + 1) W1 wr) (fun i _ => lg.length - (intOf i).toNat)
            case atStart => exact ⟨0, rfl, Nat.zero_le _, by rw [← HF0.out]; exact HO8.out, HL8.out⟩
            case round =>
              obtain ⟨j, rfl, hj, ho, hbl⟩ := hrel
              obtain ⟨q0, q1, q2⟩ := HQ.out wr hbl
              have HOj := Lib.hid ho
              have HBj := Lib.hid hbl
              have hbs := hbl.size
              have hlow := HLW.out wr hbl
              have hgl := ho.lt (w.heap.size + 1) rfl
              by_cases hjl : j < lg.length
              · obtain ⟨b2, off2, a', c', rfl, hbw, ⟨x0, x1⟩, hsx⟩ := HOP2.out j hjl
                have y1 : wr.drew.cell? ⟨b2, off2 + j * 2 + 1, none⟩ = some (.slice a' lg[j].2.length c') := (hlow.drew.cell (p := ⟨b2, off2 + j * 2 + 1, none⟩) hbw).trans x1
                have z2 : wr.drew.cell? ⟨w.heap.size, 2, none⟩ = some (.slice (some ⟨b2, off2, none⟩) lg.length c2) := q2
                have HS9 := Lib.hid (hsx.below hlow.drew (Nat.le_refl _))
                have HFTk := Lib.hid (HFT.out j hjl)
                have HO9 := Lib.hid (own_below ho (low_drew wr))
                have HBKj : Hid (∀ W, Calls Try.prog 32 #[.slice (some ⟨w.heap.size + 1, 0, none⟩) 12288 12288, .int .i64 (2 + (j : Int))] W fun e w' => e = .returned (.slice (some ⟨w.heap.size + 1, (2 + j) * 128, none⟩) 128 (12288 - (2 + j) * 128)) ∧ W = w') := fun W => by
                  have h := rblock_w (w.heap.size + 1) 0 12288 (2 + j) (by omega) (by omega) (by unfold maxLen; omega) W
                  rw [show ((2 + j : Nat) : Int) = 2 + (j : Int) by omega, Nat.zero_add] at h
                  exact h
                have f1 : (0 : Int) ≤ (j : Int) := by omega
                have f2 : (j : Int) < (lg.length : Int) := by omega
                have f5 : IntKind.i64.wrap (2 + (j : Int)) = 2 + (j : Int) := IntWalk.i64_in _ (by omega)
                have hb2w : b2 < wr.heap.size := Nat.lt_of_lt_of_le hbw hlow.size
                have hb2n : b2 ≠ w.heap.size + 1 := by omega
                clear x0 x1 hsx ho hbl hlow q0 q1
                generalize lg[j].2 = bs at *
                go_wp2_with fail
                go_region_held3 (fun w' => w'.cell? ⟨w.heap.size, 2, none⟩ = some (.slice (some ⟨b2, off2, none⟩) lg.length c2) ∧ w'.cell? ⟨b2, off2 + j * 2 + 1, none⟩ = some (.slice a' bs.length c')) (first | exact ⟨by with_reducible assumption, by with_reducible assumption⟩ | go_keep) ((first
                  | (go_at_call 32; (with_reducible refine (HBKj.out _).mono ?_); rintro e w5 ⟨rfl, rfl⟩)
                  | (refine step_copy_own8 rfl (.tmp 64) (.tmp 70) 29 29 rfl 5 Try.underlying29 hszu (w.heap.size + 1) (w.heap.size + 1) 12288 12288 (Jr.fill D 2 (lg.take j)) HO9.out ((2 + j) * 128) 128 (12288 - (2 + j) * 128) rfl (by omega) (.slice a' bs.length c') bs rfl HS9.out ?_; intro w9 ho9 hg9; have z29 := (cell_far8 hg9 (show w.heap.size ≠ w.heap.size + 1 by omega) 2 (show w.heap.size < wr.heap.size by omega)).trans z2; have y19 := (cell_far8 hg9 hb2n (off2 + j * 2 + 1) hb2w).trans y1)))
                all_goals
                  go_wp2_with fail
                  go_roundw
                  case rel => exact ⟨j + 1, by go_num, by omega, by rw [HFTk.out]; exact ho9, HBj.out.drew.trans (below_of_grown hg9 (Nat.le_refl _) (by show _ ≤ wr.heap.size; omega))⟩
                  case measure => simp [intOf]; omega
              · obtain rfl : j = lg.length := by omega
                have hol : wr.ownsRow (w.heap.size + 1) 5 1 (.slice (some ⟨w.heap.size + 1, 0, none⟩) 12288 12288) 12288 ((Jr.fill D 2 lg).map eb) := by
                  have h := ho
                  rw [List.take_length] at h
                  exact h
                have HOL := Lib.hid hol
                have z1 : wr.drew.cell? ⟨w.heap.size, 1, none⟩ = some (.int .u32 seq) := q1
                have z2 : wr.drew.cell? ⟨w.heap.size, 2, none⟩ = some (.slice a2 lg.length c2) := q2
                have HRS := Lib.hid (rslots_w (Sl.ofOwn (own_below hol (low_drew wr))))
                have HSLL : Hid ((Jr.slots (Jr.fill D 2 lg)).length = 1408) := by
                  have h := hol.1
                  show _ = _
                  unfold Jr.slots
                  rw [List.length_take, List.length_drop]
                  simp at h
                  omega
                clear ho hbl hlow q0 q1 hol
                go_wp2_with fail
                go_region_held3 (fun w' => w'.cell? ⟨w.heap.size, 1, none⟩ = some (.int .u32 seq) ∧ w'.cell? ⟨w.heap.size, 2, none⟩ = some (.slice a2 lg.length c2)) (first | exact ⟨by with_reducible assumption, by with_reducible assumption⟩ | go_keep) ((first
                  | (go_at_call 32; (with_reducible refine (HBK1.out _).mono ?_); rintro e w5 ⟨rfl, rfl⟩)
                  | (go_at_call 34; (with_reducible refine HRS.out.mono ?_); rintro e w6 ⟨v6, rfl, ho6, hb6⟩; obtain ⟨a6, c6, rfl⟩ := own_slice ho6; have hb6' := (low_drew wr).trans hb6; have hl6 := HBj.out.trans (hb6'.mono (by omega)); obtain ⟨z60, z61, z62⟩ := HQ.out w6 hl6)
                  | (go_at_call 33; refine (rheader_w seq (HWP2.out w6 hl6) hle11 (Sl.ofOwn ho6) (by rw [HSLL.out]; omega)).mono ?_; rintro e w8 ⟨v8, rfl, ho8, hb8⟩; obtain ⟨a8, c8, rfl⟩ := own_slice ho8; have hb8' := low_trans hb6' hb8; have hl8 := HBj.out.trans (hb8'.mono (by omega)); obtain ⟨z80, z81, z82⟩ := HQ.out w8 hl8)
                  | (refine step_copy_own8 rfl (.tmp 73) (.tmp 81) 29 29 rfl 5 Try.underlying29 hszu (w.heap.size + 1) (w.heap.size + 1) 12288 12288 (Jr.fill D 2 lg) (own_below HOL.out hb8') 128 128 12160 rfl (by omega) (.slice a8 128 c8) (Jr.head seq lg (Jr.slots (Jr.fill D 2 lg))) rfl (Sl.ofOwn ho8) ?_; intro w9 ho9 hg9; have hl9 := hl8.trans (below_of_grown hg9 (Nat.le_refl _) (by have := hb8'.size; omega)); obtain ⟨z90, z91, z92⟩ := HQ.out w9 hl9)))
                all_goals
                  have HO9 : Hid (w9.ownsRow (w.heap.size + 1) 5 1 (.slice (some ⟨w.heap.size + 1, 0, none⟩) 12288 12288) 12288 (DK.map eb)) := by rw [HDY.out]; exact ho9
                  have HL9 := Lib.hid hl9
                  clear ho9 hl9 ho8 hb8 hb8' hl8 ho6 hb6 hb6' hl6 hg9
                  go_wp2_with fail
                  go_ret
                  exact ⟨_, _, rfl, own_base HO9.out (Nat.le_succ _), HLW.out _ HL9.out⟩
      · have g2 : ¬ (k : Int) < (bl.length : Int) := by omega
        go_wp2_with fail
        have z1 : wr.drew.cell? ⟨w.heap.size, 1, none⟩ = some (.int .u32 seq) := q1
        clear q0 q1 q2
        go_region_held3 (fun w' => w'.cell? ⟨w.heap.size, 1, none⟩ = some (.int .u32 seq)) (first | with_reducible assumption | go_keep) ((first
          | (go_at_call 32; (with_reducible refine (HBK1.out _).mono ?_); rintro e w5 ⟨rfl, rfl⟩)
          | (go_at_call 33; (with_reducible refine (HHD.out _).mono ?_); rintro e w6 ⟨v6, rfl, ho6, hb6⟩; obtain ⟨a6, c6, rfl⟩ := own_slice ho6; have hb6' := (low_drew wr).trans hb6; obtain ⟨z60, z61, z62⟩ := HQ.out w6 (HBL.out.trans (hb6'.mono (by omega))))
          | (refine step_copy_own8 rfl (.tmp 45) (.tmp 49) 29 29 rfl 5 Try.underlying29 hszu (w.heap.size + 1) (w.heap.size + 1) 12288 12288 (Jr.strew Z (bl.take 20)) (own_below HO1.out hb6') 128 128 12160 rfl (by omega) (.slice a6 128 c6) (Jr.idle seq) rfl (Sl.ofOwn ho6) ?_; intro w7 ho7 hg7; have hl7 := (HBL.out.trans (hb6'.mono (by omega))).trans (below_of_grown hg7 (Nat.le_refl _) (by have := hb6'.size; omega)); obtain ⟨z70, z71, z72⟩ := HQ.out w7 hl7)))
        all_goals
          have HO7 : Hid (w7.ownsRow (w.heap.size + 1) 5 1 (.slice (some ⟨w.heap.size + 1, 0, none⟩) 12288 12288) 12288 ((Jr.pack (Jr.strew Z (bl.take 20)) 1 (Jr.idle seq)).map eb)) := ho7
          have HL7 := Lib.hid hl7
          have HVA := Lib.hid (rvalid_w (HWP2.out w7 hl7) hl2)
          have hs7 : w.heap.size + 1 < w7.heap.size := (ho7.lt _ rfl).2
          have HD := Lib.hid (HDK.out _ rfl)
          clear ho7 hl7 ho6 hb6 hb6' hg7 z60 z61 z62 z1
          generalize Jr.pack (Jr.strew Z (bl.take 20)) 1 (Jr.idle seq) = D at *
          cases hval : Jr.valid lg with
          | false =>
            rw [hval] at HVA
            have HDN : Hid (DK = D) := HD.out.trans (if_neg (by rw [hval]; simp))
            clear hval
            go_wp2_with (go_at_call 20; (with_reducible refine HVA.out.mono ?_); rintro e w8 ⟨rfl, hb8⟩)
            go_ret
            exact ⟨_, _, rfl, by rw [HDN.out]; exact own_base (own_below HO7.out hb8) (Nat.le_succ _), HLW.out _ (HL7.out.trans (hb8.mono (by omega)))⟩
          | true =>
            rw [hval] at HVA
            obtain ⟨-, -, hge1, hle11⟩ := Jr.valid_all hval
            have HDY : Hid (DK = Jr.pack (Jr.fill D 2 lg) 1 (Jr.head seq lg (Jr.slots (Jr.fill D 2 lg)))) := HD.out.trans (if_pos hval)
            have HFT := Lib.hid (fun k hk => Jr.fill_take D 2 lg k hk)
            have HF0 : Hid (D = Jr.fill D 2 (lg.take 0)) := rfl
            clear hval
            go_upto_region 10 with (go_at_call 20; (with_reducible refine HVA.out.mono ?_); rintro e w8 ⟨rfl, hb8⟩)
            have HO8 := Lib.hid (own_below HO7.out hb8)
            have HL8 := Lib.hid (HL7.out.trans (hb8.mono (Nat.le_of_lt hs7)))
            clear hb8 z70 z71 z72
            go_wp2_with fail
            obtain ⟨wo, rfl⟩ : ∃ wo : World, wo = wr := ⟨_, rfl⟩
            go_loopw [6] (fun i wr => ∃ k : Nat, i = .int .i64 k ∧ k ≤ lg.length ∧ wr.ownsRow (w.heap.size + 1) 5 1 (.slice (some ⟨w.heap.size + 1, 0, none⟩) 12288 12288) 12288 ((Jr.fill D 2 (lg.take k)).map eb) ∧ Below (w.heap.size + 1) W1 wr) (fun i _ => lg.length - (intOf i).toNat)
            case atStart => exact ⟨0, rfl, Nat.zero_le _, by rw [← HF0.out]; exact HO8.out, HL8.out⟩
            case round =>
              obtain ⟨j, rfl, hj, ho, hbl⟩ := hrel
              obtain ⟨q0, q1, q2⟩ := HQ.out wr hbl
              have HOj := Lib.hid ho
              have HBj := Lib.hid hbl
              have hbs := hbl.size
              have hlow := HLW.out wr hbl
              have hgl := ho.lt (w.heap.size + 1) rfl
              by_cases hjl : j < lg.length
              · obtain ⟨b2, off2, a', c', rfl, hbw, ⟨x0, x1⟩, hsx⟩ := HOP2.out j hjl
                have y1 : wr.drew.cell? ⟨b2, off2 + j * 2 + 1, none⟩ = some (.slice a' lg[j].2.length c') := (hlow.drew.cell (p := ⟨b2, off2 + j * 2 + 1, none⟩) hbw).trans x1
                have z2 : wr.drew.cell? ⟨w.heap.size, 2, none⟩ = some (.slice (some ⟨b2, off2, none⟩) lg.length c2) := q2
                have HS9 := Lib.hid (hsx.below hlow.drew (Nat.le_refl _))
                have HFTk := Lib.hid (HFT.out j hjl)
                have HO9 := Lib.hid (own_below ho (low_drew wr))
                have HBKj : Hid (∀ W, Calls Try.prog 32 #[.slice (some ⟨w.heap.size + 1, 0, none⟩) 12288 12288, .int .i64 (2 + (j : Int))] W fun e w' => e = .returned (.slice (some ⟨w.heap.size + 1, (2 + j) * 128, none⟩) 128 (12288 - (2 + j) * 128)) ∧ W = w') := fun W => by
                  have h := rblock_w (w.heap.size + 1) 0 12288 (2 + j) (by omega) (by omega) (by unfold maxLen; omega) W
                  rw [show ((2 + j : Nat) : Int) = 2 + (j : Int) by omega, Nat.zero_add] at h
                  exact h
                have f1 : (0 : Int) ≤ (j : Int) := by omega
                have f2 : (j : Int) < (lg.length : Int) := by omega
                have f5 : IntKind.i64.wrap (2 + (j : Int)) = 2 + (j : Int) := IntWalk.i64_in _ (by omega)
                have hb2w : b2 < wr.heap.size := Nat.lt_of_lt_of_le hbw hlow.size
                have hb2n : b2 ≠ w.heap.size + 1 := by omega
                clear x0 x1 hsx ho hbl hlow q0 q1
                generalize lg[j].2 = bs at *
                go_wp2_with fail
                go_region_held3 (fun w' => w'.cell? ⟨w.heap.size, 2, none⟩ = some (.slice (some ⟨b2, off2, none⟩) lg.length c2) ∧ w'.cell? ⟨b2, off2 + j * 2 + 1, none⟩ = some (.slice a' bs.length c')) (first | exact ⟨by with_reducible assumption, by with_reducible assumption⟩ | go_keep) ((first
                  | (go_at_call 32; (with_reducible refine (HBKj.out _).mono ?_); rintro e w5 ⟨rfl, rfl⟩)
                  | (refine step_copy_own8 rfl (.tmp 64) (.tmp 70) 29 29 rfl 5 Try.underlying29 hszu (w.heap.size + 1) (w.heap.size + 1) 12288 12288 (Jr.fill D 2 (lg.take j)) HO9.out ((2 + j) * 128) 128 (12288 - (2 + j) * 128) rfl (by omega) (.slice a' bs.length c') bs rfl HS9.out ?_; intro w9 ho9 hg9; have z29 := (cell_far8 hg9 (show w.heap.size ≠ w.heap.size + 1 by omega) 2 (show w.heap.size < wr.heap.size by omega)).trans z2; have y19 := (cell_far8 hg9 hb2n (off2 + j * 2 + 1) hb2w).trans y1)))
                all_goals
                  go_wp2_with fail
                  go_roundw
                  case rel => exact ⟨j + 1, by go_num, by omega, by rw [HFTk.out]; exact ho9, HBj.out.drew.trans (below_of_grown hg9 (Nat.le_refl _) (by show _ ≤ wr.heap.size; omega))⟩
                  case measure => simp [intOf]; omega
              · obtain rfl : j = lg.length := by omega
                have hol : wr.ownsRow (w.heap.size + 1) 5 1 (.slice (some ⟨w.heap.size + 1, 0, none⟩) 12288 12288) 12288 ((Jr.fill D 2 lg).map eb) := by
                  have h := ho
                  rw [List.take_length] at h
                  exact h
                have HOL := Lib.hid hol
                have z1 : wr.drew.cell? ⟨w.heap.size, 1, none⟩ = some (.int .u32 seq) := q1
                have z2 : wr.drew.cell? ⟨w.heap.size, 2, none⟩ = some (.slice a2 lg.length c2) := q2
                have HRS := Lib.hid (rslots_w (Sl.ofOwn (own_below hol (low_drew wr))))
                have HSLL : Hid ((Jr.slots (Jr.fill D 2 lg)).length = 1408) := by
                  have h := hol.1
                  show _ = _
                  unfold Jr.slots
                  rw [List.length_take, List.length_drop]
                  simp at h
                  omega
                clear ho hbl hlow q0 q1 hol
                go_wp2_with fail
                go_region_held3 (fun w' => w'.cell? ⟨w.heap.size, 1, none⟩ = some (.int .u32 seq) ∧ w'.cell? ⟨w.heap.size, 2, none⟩ = some (.slice a2 lg.length c2)) (first | exact ⟨by with_reducible assumption, by with_reducible assumption⟩ | go_keep) ((first
                  | (go_at_call 32; (with_reducible refine (HBK1.out _).mono ?_); rintro e w5 ⟨rfl, rfl⟩)
                  | (go_at_call 34; (with_reducible refine HRS.out.mono ?_); rintro e w6 ⟨v6, rfl, ho6, hb6⟩; obtain ⟨a6, c6, rfl⟩ := own_slice ho6; have hb6' := (low_drew wr).trans hb6; have hl6 := HBj.out.trans (hb6'.mono (by omega)); obtain ⟨z60, z61, z62⟩ := HQ.out w6 hl6)
                  | (go_at_call 33; refine (rheader_w seq (HWP2.out w6 hl6) hle11 (Sl.ofOwn ho6) (by rw [HSLL.out]; omega)).mono ?_; rintro e w8 ⟨v8, rfl, ho8, hb8⟩; obtain ⟨a8, c8, rfl⟩ := own_slice ho8; have hb8' := low_trans hb6' hb8; have hl8 := HBj.out.trans (hb8'.mono (by omega)); obtain ⟨z80, z81, z82⟩ := HQ.out w8 hl8)
                  | (refine step_copy_own8 rfl (.tmp 73) (.tmp 81) 29 29 rfl 5 Try.underlying29 hszu (w.heap.size + 1) (w.heap.size + 1) 12288 12288 (Jr.fill D 2 lg) (own_below HOL.out hb8') 128 128 12160 rfl (by omega) (.slice a8 128 c8) (Jr.head seq lg (Jr.slots (Jr.fill D 2 lg))) rfl (Sl.ofOwn ho8) ?_; intro w9 ho9 hg9; have hl9 := hl8.trans (below_of_grown hg9 (Nat.le_refl _) (by have := hb8'.size; omega)); obtain ⟨z90, z91, z92⟩ := HQ.out w9 hl9)))
                all_goals
                  have HO9 : Hid (w9.ownsRow (w.heap.size + 1) 5 1 (.slice (some ⟨w.heap.size + 1, 0, none⟩) 12288 12288) 12288 (DK.map eb)) := by rw [HDY.out]; exact ho9
                  have HL9 := Lib.hid hl9
                  clear ho9 hl9 ho8 hb8 hb8' hl8 ho6 hb6 hb6' hl6 hg9
                  go_wp2_with fail
                  go_ret
                  exact ⟨_, _, rfl, own_base HO9.out (Nat.le_succ _), HLW.out _ HL9.out⟩
end Go.Proofs.Ytcbgablnbgpjdaa
