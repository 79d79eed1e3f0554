/-
  The law InodesRead is proved: it answers true for every input (its walk, and the row).
-/
import Derived.Test.YtbklmpekpcneeaaBe
import Derived.Test.YtbklmpekpcneeaaBh
import Derived.Lib.AppendZeros
import Derived.Test.YtbklmpekpcneeaaBi
import Derived.Test.YtbklmpekpcneeaaRows
import Derived.WalkKit
import Derived.ProofKit
import Derived.OpenShut
import Derived.ShutString
import Derived.ChangeOld
import Derived.Below
set_option linter.unusedVariables false
set_option linter.unusedSimpArgs false
namespace Go.Proofs.Ytbklmpekpcneeaa
open Go.RowKit
set_option maxRecDepth 100000

section
variable {P : Program} {w : World} {ops : Array Oper} {rest : List Oper} {o : Oper} {a : Act} {Q : Exit → Act → World → Prop}
/-- A make of k is appended onto nil or onto an own row. -/
theorem wpList_append_make2 (hgd : o.guard = none) (s x : Operand) (t tn : TypeId) (ho : o.op = .call { callee := .builtin .append, args := #[s, x], argTypes := #[t, tn] })
    (base : Nat) (e : TypeId) (i : TypeInfo) (z : Value) (kn kq : IntKind) (ht : P.underlying t = some (.slice e)) (htn : P.underlying tn = some (.int kn)) (hi : P.info? e = some i) (hz : i.zero = some z) (hsize : i.size = 1) (hby : i.bytes = 1) (hzc : z.cells = #[z]) (hz1 : z.oneCell' = true)
    (v : Value) (n : Nat) (xs : List Value) (hsv : a.eval s = v) (hown : w.ownsRow base e 1 v n xs) (k : Nat) (hxv : a.eval x = .int kq k) (h0 : n = 0 → v = .slice none 0 0) (hk : 0 < k) (h63 : n + k ≤ 1000000) (hbase : base ≤ w.heap.size)
    (h : ∀ v' w', w'.ownsRow base e 1 v' (n + k) (xs ++ List.replicate k z) → Below base w w' → wpList P ops Q rest (a.put o.dst v') w') : wpList P ops Q (o :: rest) a w := by
  by_cases hn : 0 < n
  · exact wpList_append_make hgd s x t tn ho base e i z kn kq ht htn hi hz hsize hby hzc hz1 v n xs hsv hown k hxv hn hk h63 hbase h
  · obtain rfl : n = 0 := by omega
    obtain rfl := h0 rfl
    have hx0 : xs = [] := List.eq_nil_of_length_eq_zero (by have := hown.1; omega)
    subst hx0
    have hzs : z.cells.size = 1 := by rw [hzc]; rfl
    refine Lib.wpList_append_run w hgd s x t tn ho _ _ hsv hxv _ _ (Lib.run_append_nil_zeros w t tn o.type e i z kq kn ht htn hi hz k hk (by omega) (by omega) (by rw [hby]; omega)) ?_
    refine h _ _ ?_ (((Below.refl base w).drew).alloc hbase _)
    have h2 := own_new_row w base e (List.replicate k z) z (grownCap w k 0 e) k (by simp) hbase (grownCap_ge _ _ _ _) (grownCap_le_maxLen _ _ _ _ (by unfold maxLen; omega)) hzs
    have e1 : (List.replicate k z).toArray = Builtin.zeroCells z.cells k := by
      apply Array.toList_inj.1
      rw [zeros_list z hzc]
    rw [e1] at h2
    simpa using h2
end

set_option maxHeartbeats 4000000 in
theorem rcontent_w {v : Value} {d : List UInt8} {w : World} (hv : Sl eb w v d) (hd : d.length = 12288) (x : Nd.Ino) (hx : x.bl.length = 12) (hb : ∀ i, i < 12 → Nd.bk x i < 96) (hs : x.size ≤ 1536) : Calls Try.prog 61 #[v, .agg (ic x).toArray] w fun e w' =>
    ∃ a c, e = .returned (.slice a x.size c) ∧ Sl eb w' (.slice a x.size c) (Nd.content d x) ∧ Below w.heap.size w w' := by
  obtain ⟨W1, hW1⟩ : ∃ W, W = w.alloc (.cells (ic x).toArray 45 (0, 0)) := ⟨_, rfl⟩
  have hl1 : Below w.heap.size w W1 := by rw [hW1]; exact low_alloc _ _
  have hk1 : Bk W1 w.heap.size 45 (ic x) := by rw [hW1]; exact Bk.new w _ _
  have hv1 := hv.below hl1 (Nat.le_refl _)
  obtain ⟨b, off, cap, rfl, hc, hm, hbw, -⟩ := hv1.disk hd
  obtain ⟨i0, hi0, hz0, hz1, hz2⟩ := info_parts Try.info5
  have HW1 := Lib.hid hW1
  have HK1 := Lib.hid hk1
  have HL1 := Lib.hid hl1
  have HV1 := Lib.hid hv1
  have HXN := Lib.hid hx
  have HXB := Lib.hid hb
  have HBL := Lib.hid (fun k hk => Nd.blk_len hd (n := k) hk)
  have HRL := Lib.hid (fun k hk => Nd.rcTo_len hd hb (k := k) hk)
  have HST := Lib.hid (fun k => Nd.rcTo_step d x k)
  have HCB : Hid (∀ k, Nd.cb d x k = if Nd.bk x k = 0 then List.replicate 128 0 else Jr.blk d (Nd.bk x k)) := fun k => rfl
  have HAL := Lib.hid (Nd.rcTo_all d x)
  have HR0 := Lib.hid (Nd.rcTo_zero d x)
  have HCT : Hid (((Nd.whole d x).drop 0).take x.size = Nd.content d x) := rfl
  have HWL := Lib.hid (Nd.whole_len hd hb)
  clear hW1 hl1 hk1 hv1 hv hx hb
  go_enter Try.func61, Try.ntmps61
  go_upto_region 1 with fail
  rw [← HW1.out]
  go_wp2_with fail
  go_loopw [5, 6] (fun u i wr => ∃ k : Nat, i = .int .i64 k ∧ k ≤ 12 ∧ (k = 0 → u = .slice none 0 0) ∧ wr.ownsRow W1.heap.size 5 1 u (128 * k) ((Nd.rcTo d x k).map eb) ∧ Below W1.heap.size W1 wr) (fun _ i _ => 12 - (intOf i).toNat)
  case atStart => exact ⟨0, rfl, by omega, fun _ => rfl, by rw [HR0.out]; exact World.ownsRow_nil _ _ _ _, Below.refl _ _⟩
  case round =>
    obtain ⟨k, rfl, hk, hu0, ho, hbl⟩ := hrel
    have hkb := HK1.out.below hbl HK1.out.lt
    by_cases hlt : k < 12
    · have z0 : wr.cell? ⟨w.heap.size, 2 + k, none⟩ = some (.int .i64 ((Nd.bk x k : Nat) : Int)) := by rw [hkb.cell]; exact ic_bk HXN.out hlt
      have hst := HST.out k
      rw [HCB.out k] at hst
      have hq := HXB.out k hlt
      have f5 : (0 : Int) ≤ (k : Int) := by omega
      have f6 : (k : Int) < 12 := by omega
      have HO := Lib.hid ho
      have HU0 : Hid (128 * k = 0 → u5 = .slice none 0 0) := fun h => hu0 (by omega)
      have HB := Lib.hid hbl
      by_cases h0 : Nd.bk x k = 0
      · rw [if_pos h0] at hst
        have HS := Lib.hid hst
        have f7 : ((Nd.bk x k : Int) == 0) = true := by rw [h0]; rfl
        have hsz := hbl.size
        generalize Nd.bk x k = q at *
        clear hst ho hu0 h0 hbl hkb
        go_wp2_with (at_builtin; refine wpList_append_make2 rfl (.tmp 16) (.const (.int .i64 128)) 25 3 rfl W1.heap.size 5 i0 (.int .u8 0) .i64 .i64 Try.underlying25 Try.underlying3 hi0 hz0 hz1 hz2 rfl rfl _ (128 * k) _ rfl HO.out 128 rfl HU0.out (by decide) (by omega) hsz ?_; intro v4 w4 ho4 hb4)
        have ho5 : w4.ownsRow W1.heap.size 5 1 v4 (128 * (k + 1)) ((Nd.rcTo d x (k + 1)).map eb) := by
          rw [HS.out, List.map_append, List.map_replicate]
          exact ho4
        go_roundw
        case rel => exact ⟨k + 1, by go_num, by omega, fun h => absurd h (by omega), ho5, HB.out.trans hb4⟩
        case measure => simp [intOf]; omega
      · rw [if_neg h0] at hst
        have HS := Lib.hid hst
        have f7 : ((Nd.bk x k : Int) == 0) = false := by rw [beq_eq_false_iff_ne]; omega
        have hsz := hbl.size
        have HVR := Lib.hid (HV1.out.below hbl (Nat.le_refl _))
        have HLQ := Lib.hid (HBL.out _ hq)
        generalize Nd.bk x k = q at *
        have HRB := Lib.hid (rblock_w b off cap q hq hc hm wr)
        have HSQ : Hid (Sl eb wr (.slice (some ⟨b, off + q * 128, none⟩) 128 (cap - q * 128)) (Jr.blk d q)) := HVR.out.cut (q * 128) 128 (by omega)
        clear hst ho hu0 h0 hbl hkb
        go_wp2_with (first
          | (go_at_call 51; (with_reducible refine HRB.out.mono ?_); rintro e w' ⟨rfl, rfl⟩)
          | (at_builtin; refine wpList_append_sl eb (fun _ => rfl) rfl (.tmp 18) (.tmp 24) 25 rfl W1.heap.size 5 i0 (.int .u8 0) 1 Try.underlying25 hi0 hz0 hz1 hz2 rfl _ (128 * k) _ rfl HO.out _ (Jr.blk d q) rfl HSQ.out (by rw [HLQ.out]; unfold maxLen; omega) (by rw [HLQ.out]; omega) hsz ?_; intro v4 w4 ho4 hs4 hb4))
        have ho5 : w4.ownsRow W1.heap.size 5 1 v4 (128 * (k + 1)) ((Nd.rcTo d x (k + 1)).map eb) := by
          rw [HS.out]
          rw [HLQ.out] at ho4
          exact ho4
        go_roundw
        case rel => exact ⟨k + 1, by go_num, by omega, fun h => absurd h (by omega), ho5, HB.out.trans hb4⟩
        case measure => simp [intOf]; omega
    · have hk12 : k = 12 := by omega
      have f5 : ¬ (k : Int) < 12 := by omega
      rw [hk12, HAL.out] at ho
      have z1 : wr.cell? ⟨w.heap.size, 1, none⟩ = some (.int .i64 (x.size : Int)) := hkb.cell 1
      obtain ⟨g, c, rfl⟩ := own_form ho (by omega)
      have HO := Lib.hid ho
      have HB := Lib.hid (stepAny HL1.out hbl)
      have hcn := (own_bk' ho).2.1
      have f6 : (0 : Int) ≤ (x.size : Int) := by omega
      have f7 : (x.size : Int) ≤ (c : Int) := by omega
      have f8 : x.size ≤ c := by omega
      clear ho hbl hkb hk12 hu0
      go_wp2_with fail
      go_ret
      refine ⟨_, c, rfl, ?_, HB.out⟩
      have h := (own_sl0 HO.out HWL.out).cut 0 x.size (by omega)
      rw [HCT.out] at h
      exact h

set_option maxHeartbeats 4000000 in
theorem rread_w {v : Value} {d : List UInt8} {w : World} (hv : Sl eb w v d) (hd : d.length = 12288) (n o c : Int) : Calls Try.prog 26 #[v, .int .i64 n, .int .i64 o, .int .i64 c] w fun e w' =>
    ∃ v', e = .returned (.tuple #[v', .int .i64 (Nd.read d n o c).2]) ∧ Sl eb w' v' (Nd.read d n o c).1 ∧ Below w.heap.size w w' := by
  have HV := Lib.hid hv
  have HG := Lib.hid (rget_w hv hd n)
  obtain ⟨b, off, cap, rfl, hcc, hm, hbw, -⟩ := hv.disk hd
  have HXN : Hid ((Nd.get d n).1.bl.length = 12) := Nd.get_bl d n
  by_cases he : (Nd.get d n).2 = 0
  rotate_left
  · have HR := Lib.hid (Nd.read_get (o := o) (c := c) he)
    have f1 : ((Nd.get d n).2 != 0) = true := by rw [bne_iff_ne]; exact he
    obtain ⟨x, ec, hxe⟩ : ∃ x ec, Nd.get d n = (x, ec) := ⟨_, _, rfl⟩
    rw [hxe] at HXN HG HR f1
    simp only at f1
    clear he hxe hv hd
    go_enter Try.func26, Try.ntmps26
    go_wp2_with (first
      | (go_at_call 20; (with_reducible refine HG.out.mono ?_); rintro e w2 ⟨rfl, hb2⟩)
      | (refine wpList_store_part rfl 45 _ _ rfl w2.heap.size 0 14 (ic x) rfl rfl 45 [.int .i64 0, .int .i64 0, .int .i64 0, .int .i64 0, .int .i64 0, .int .i64 0, .int .i64 0, .int .i64 0, .int .i64 0, .int .i64 0, .int .i64 0, .int .i64 0, .int .i64 0, .int .i64 0] (Bk.new w2 _ [.int .i64 0, .int .i64 0, .int .i64 0, .int .i64 0, .int .i64 0, .int .i64 0, .int .i64 0, .int .i64 0, .int .i64 0, .int .i64 0, .int .i64 0, .int .i64 0, .int .i64 0, .int .i64 0]) (ic_len HXN.out) (by simp) Try.sizeRI (ic_one _) ?_; intro w3 hk3 hg3))
    go_ret2
    rw [HR.out]
    exact ⟨_, rfl, Sl.nil _ _, stepAny hb2 ((low_alloc w2 (.cells #[.int .i64 0, .int .i64 0, .int .i64 0, .int .i64 0, .int .i64 0, .int .i64 0, .int .i64 0, .int .i64 0, .int .i64 0, .int .i64 0, .int .i64 0, .int .i64 0, .int .i64 0, .int .i64 0] 45 (0, 0))).trans (below_of_grown hg3 (Nat.le_refl _) (low_alloc w2 (.cells #[.int .i64 0, .int .i64 0, .int .i64 0, .int .i64 0, .int .i64 0, .int .i64 0, .int .i64 0, .int .i64 0, .int .i64 0, .int .i64 0, .int .i64 0, .int .i64 0, .int .i64 0, .int .i64 0] 45 (0, 0))).size))⟩
  obtain ⟨m, rfl, hm32, hx, hgd, hbk⟩ := Nd.get_some2 he
  have HGE : Hid ((Nd.get d (m : Int)).2 = 0) := he
  rw [he, hx] at HG
  rw [hx] at HXN
  have hs := hgd.2.1
  have hb96 : ∀ i, i < 12 → Nd.bk (Nd.raw d m) i < 96 := fun i hi => by rcases hbk i hi with h | h <;> omega
  have HCL := Lib.hid (Nd.content_len hd hb96 hs)
  have HCN : Hid (∀ W, Below w.heap.size w W → Calls Try.prog 61 #[.slice (some ⟨b, off, none⟩) 12288 cap, .agg (ic (Nd.raw d m)).toArray] W fun e w' => ∃ a c, e = .returned (.slice a (Nd.raw d m).size c) ∧ Sl eb w' (.slice a (Nd.raw d m).size c) (Nd.content d (Nd.raw d m)) ∧ Below W.heap.size W w') := fun W hW => rcontent_w (HV.out.below hW (Nat.le_refl _)) hd (Nd.raw d m) HXN.out hb96 hs
  have HRN := Lib.hid (fun h => Nd.read_neg (o := o) (c := c) he h)
  have HRY := Lib.hid (fun o c => Nd.read_yes (d := d) (m := m) (o := o) (c := c) he)
  clear he hx hgd hbk hb96 hv hd HGE
  generalize Nd.content d (Nd.raw d m) = C at *
  generalize Nd.raw d m = x at *
  have ARM : True := trivial
  by_cases hneg : o < 0 ∨ c < 0
  · have HR := Lib.hid (HRN.out hneg)
    clear HRN HRY HCN HCL
    by_cases ho : o < 0
    · skip
      have f2 : o < 0 := ho
      clear hneg ho
      go_enter Try.func26, Try.ntmps26
      go_wp2_with (first
        | (go_at_call 20; (with_reducible refine HG.out.mono ?_); rintro e w2 ⟨rfl, hb2⟩)
        | (refine wpList_store_part rfl 45 _ _ rfl w2.heap.size 0 14 (ic x) rfl rfl 45 [.int .i64 0, .int .i64 0, .int .i64 0, .int .i64 0, .int .i64 0, .int .i64 0, .int .i64 0, .int .i64 0, .int .i64 0, .int .i64 0, .int .i64 0, .int .i64 0, .int .i64 0, .int .i64 0] (Bk.new w2 _ [.int .i64 0, .int .i64 0, .int .i64 0, .int .i64 0, .int .i64 0, .int .i64 0, .int .i64 0, .int .i64 0, .int .i64 0, .int .i64 0, .int .i64 0, .int .i64 0, .int .i64 0, .int .i64 0]) (ic_len HXN.out) (by simp) Try.sizeRI (ic_one _) ?_; intro w3 hk3 hg3))
      go_ret2
      rw [HR.out]
      exact ⟨_, rfl, Sl.nil _ _, stepAny hb2 ((low_alloc w2 (.cells #[.int .i64 0, .int .i64 0, .int .i64 0, .int .i64 0, .int .i64 0, .int .i64 0, .int .i64 0, .int .i64 0, .int .i64 0, .int .i64 0, .int .i64 0, .int .i64 0, .int .i64 0, .int .i64 0] 45 (0, 0))).trans (below_of_grown hg3 (Nat.le_refl _) (low_alloc w2 (.cells #[.int .i64 0, .int .i64 0, .int .i64 0, .int .i64 0, .int .i64 0, .int .i64 0, .int .i64 0, .int .i64 0, .int .i64 0, .int .i64 0, .int .i64 0, .int .i64 0, .int .i64 0, .int .i64 0] 45 (0, 0))).size))⟩
    · have f2 : ¬ o < 0 := ho
      have f3 : c < 0 := by omega
      clear hneg ho
      go_enter Try.func26, Try.ntmps26
      go_wp2_with (first
        | (go_at_call 20; (with_reducible refine HG.out.mono ?_); rintro e w2 ⟨rfl, hb2⟩)
        | (refine wpList_store_part rfl 45 _ _ rfl w2.heap.size 0 14 (ic x) rfl rfl 45 [.int .i64 0, .int .i64 0, .int .i64 0, .int .i64 0, .int .i64 0, .int .i64 0, .int .i64 0, .int .i64 0, .int .i64 0, .int .i64 0, .int .i64 0, .int .i64 0, .int .i64 0, .int .i64 0] (Bk.new w2 _ [.int .i64 0, .int .i64 0, .int .i64 0, .int .i64 0, .int .i64 0, .int .i64 0, .int .i64 0, .int .i64 0, .int .i64 0, .int .i64 0, .int .i64 0, .int .i64 0, .int .i64 0, .int .i64 0]) (ic_len HXN.out) (by simp) Try.sizeRI (ic_one _) ?_; intro w3 hk3 hg3))
      go_ret2
      rw [HR.out]
      exact ⟨_, rfl, Sl.nil _ _, stepAny hb2 ((low_alloc w2 (.cells #[.int .i64 0, .int .i64 0, .int .i64 0, .int .i64 0, .int .i64 0, .int .i64 0, .int .i64 0, .int .i64 0, .int .i64 0, .int .i64 0, .int .i64 0, .int .i64 0, .int .i64 0, .int .i64 0] 45 (0, 0))).trans (below_of_grown hg3 (Nat.le_refl _) (low_alloc w2 (.cells #[.int .i64 0, .int .i64 0, .int .i64 0, .int .i64 0, .int .i64 0, .int .i64 0, .int .i64 0, .int .i64 0, .int .i64 0, .int .i64 0, .int .i64 0, .int .i64 0, .int .i64 0, .int .i64 0] 45 (0, 0))).size))⟩
  obtain ⟨p, rfl⟩ : ∃ p : Nat, o = p := ⟨o.toNat, by omega⟩
  obtain ⟨q, rfl⟩ : ∃ q : Nat, c = q := ⟨c.toNat, by omega⟩
  have HR := Lib.hid (HRY.out p q)
  have f2 : ¬ (p : Int) < 0 := by omega
  have f3 : ¬ (q : Int) < 0 := by omega
  clear HRN HRY hneg
  go_enter Try.func26, Try.ntmps26
  go_upto_region 6 with (first
    | (go_at_call 20; (with_reducible refine HG.out.mono ?_); rintro e w2 ⟨rfl, hb2⟩)
    | (refine wpList_store_part rfl 45 _ _ rfl w2.heap.size 0 14 (ic x) rfl rfl 45 [.int .i64 0, .int .i64 0, .int .i64 0, .int .i64 0, .int .i64 0, .int .i64 0, .int .i64 0, .int .i64 0, .int .i64 0, .int .i64 0, .int .i64 0, .int .i64 0, .int .i64 0, .int .i64 0] (Bk.new w2 _ [.int .i64 0, .int .i64 0, .int .i64 0, .int .i64 0, .int .i64 0, .int .i64 0, .int .i64 0, .int .i64 0, .int .i64 0, .int .i64 0, .int .i64 0, .int .i64 0, .int .i64 0, .int .i64 0]) (ic_len HXN.out) (by simp) Try.sizeRI (ic_one _) ?_; intro w3 hk3 hg3))
  rw [splice_all _ _ (by rw [ic_len HXN.out]; rfl)] at hk3
  have hl3 := stepAny hb2 ((low_alloc w2 (.cells #[.int .i64 0, .int .i64 0, .int .i64 0, .int .i64 0, .int .i64 0, .int .i64 0, .int .i64 0, .int .i64 0, .int .i64 0, .int .i64 0, .int .i64 0, .int .i64 0, .int .i64 0, .int .i64 0] 45 (0, 0))).trans (below_of_grown hg3 (Nat.le_refl _) (low_alloc w2 (.cells #[.int .i64 0, .int .i64 0, .int .i64 0, .int .i64 0, .int .i64 0, .int .i64 0, .int .i64 0, .int .i64 0, .int .i64 0, .int .i64 0, .int .i64 0, .int .i64 0, .int .i64 0, .int .i64 0] 45 (0, 0))).size))
  obtain ⟨bx, hbx⟩ : ∃ y, y = w2.heap.size := ⟨_, rfl⟩
  rw [← hbx] at hk3 ⊢
  have z1 : w3.cell? ⟨bx, 1, none⟩ = some (.int .i64 (x.size : Int)) := hk3.cell 1
  have HC3 := Lib.hid (HCN.out w3 hl3)
  have HL3 := Lib.hid hl3
  clear hbx hg3 hb2 hl3 HCN HG
  by_cases hge : x.size ≤ p
  · have f4 : (x.size : Int) ≤ (p : Int) := by omega
    have HE : Hid ((C.drop p).take q = []) := by show _ = _; rw [List.drop_of_length_le (by rw [HCL.out]; exact hge), List.take_nil]
    clear hge
    go_wp2_with fail
    go_ret2
    rw [HR.out, HE.out]
    exact ⟨_, rfl, Sl.nil _ _, HL3.out⟩
  have f4 : ¬ (x.size : Int) ≤ (p : Int) := by omega
  have f5 : (0 : Int) ≤ (p : Int) := by omega
  have f6 : (p : Int) ≤ (x.size : Int) := by omega
  have f6b : p ≤ x.size := by omega
  obtain ⟨i0, hi0, hz0, hz1, hz2⟩ := info_parts Try.info5
  go_upto_region 9 with (first
    | (refine wpList_load_ino rfl 45 _ rfl bx rfl 45 x HXN.out hk3 _ Try.underlying45 rfl Try.sizeRI ?_; unfold iv)
    | (go_at_call 61; (with_reducible refine HC3.out.mono ?_); rintro e w4 ⟨a4, c4, rfl, hs4, hb4⟩; obtain ⟨b4, off4, rfl, -, -, hc4, hm4⟩ := hs4.addr (by omega)))
  have hl4 := stepAny HL3.out hb4
  have HL4 := Lib.hid hl4
  have HS4 := Lib.hid hs4
  obtain ⟨L, hL⟩ : ∃ L, L = x.size - p := ⟨_, rfl⟩
  rw [← hL]
  have f9 : c4 - p ≥ L := by omega
  unfold maxLen at hm4
  have HLE : Hid (p + L ≤ x.size ∧ x.size ≤ 1536) := ⟨by omega, hs⟩
  have HEX : Hid (∀ M, (L ≤ q ∧ M = L) ∨ (q ≤ L ∧ M = q) → ((C.drop p).take M).length = M ∧ (C.drop p).take M = (C.drop p).take q) := fun M h => by
    have hc : (C.drop p).length = L := by rw [List.length_drop, HCL.out, hL]
    refine ⟨by rw [List.length_take, hc]; omega, ?_⟩
    rcases h with ⟨h1, rfl⟩ | ⟨-, rfl⟩
    · rw [List.take_of_length_le (by omega), List.take_of_length_le (by omega)]
    · rfl
  clear hL hl4 hs4 hb4 f4 f5 f6 f6b hk3 z1 HC3 HL3 hs hc4
  by_cases c1 : q < L
  · have g1 : (q : Int) < (L : Int) := by omega
    have g2 : ¬ (L : Int) < (q : Int) := by omega
    have g3 : (0 : Int) ≤ (q : Int) := by omega
    have g4 : (q : Int) ≤ ((c4 - p : Nat) : Int) := by omega
    have gm : min (q : Int) (L : Int) = (q : Int) := by omega
    have HM := Lib.hid (HEX.out q (.inr ⟨by omega, rfl⟩))
    have HSL : Hid (Sl eb w4 (.slice (some ⟨b4, off4 + p, none⟩) q (c4 - p)) ((C.drop p).take q)) := HS4.out.cut p q (by have := HLE.out; omega)
    have HQ : Hid (q ≤ 100000) := by show _ ≤ _; have := HLE.out; omega
    clear HEX c1
    go_wp2_with (at_builtin; refine wpList_copy_of rfl _ _ 25 5 rfl i0 Try.underlying25 hi0 hz0 hz1 hz2 w4 rfl rfl (some ⟨b4, off4 + p, none⟩) (c4 - p) ((C.drop p).take q) q rfl HM.out.1 HSL.out HQ.out ?_; intro v5 w5 ho5 hb5)
    go_ret2
    rw [HR.out]
    have hfin := own_sl0 ho5 HM.out.1
    exact ⟨_, rfl, by first | exact hfin | (rw [HM.out.2] at hfin; exact hfin), stepAny HL4.out hb5⟩
  by_cases c2 : L < q
  · have g1 : (L : Int) < (q : Int) := by omega
    have g2 : ¬ (q : Int) < (L : Int) := by omega
    have g3 : (0 : Int) ≤ (L : Int) := by omega
    have g4 : (L : Int) ≤ ((c4 - p : Nat) : Int) := by omega
    have gm : min (q : Int) (L : Int) = (L : Int) := by omega
    have HM := Lib.hid (HEX.out L (.inl ⟨by omega, rfl⟩))
    have HSL : Hid (Sl eb w4 (.slice (some ⟨b4, off4 + p, none⟩) L (c4 - p)) ((C.drop p).take L)) := HS4.out.cut p L (by have := HLE.out; omega)
    have HQ : Hid (L ≤ 100000) := by show _ ≤ _; have := HLE.out; omega
    clear HEX c1 c2
    go_wp2_with (at_builtin; refine wpList_copy_of rfl _ _ 25 5 rfl i0 Try.underlying25 hi0 hz0 hz1 hz2 w4 rfl rfl (some ⟨b4, off4 + p, none⟩) (c4 - p) ((C.drop p).take L) L rfl HM.out.1 HSL.out HQ.out ?_; intro v5 w5 ho5 hb5)
    go_ret2
    rw [HR.out]
    have hfin := own_sl0 ho5 HM.out.1
    exact ⟨_, rfl, by first | exact hfin | (rw [HM.out.2] at hfin; exact hfin), stepAny HL4.out hb5⟩
  · obtain rfl : q = L := by omega
    have g2 : ¬ (q : Int) < (q : Int) := by omega
    have g3 : (0 : Int) ≤ (q : Int) := by omega
    have g4 : (q : Int) ≤ ((c4 - p : Nat) : Int) := by omega
    have HM := Lib.hid (HEX.out q (.inl ⟨by omega, rfl⟩))
    have HSL : Hid (Sl eb w4 (.slice (some ⟨b4, off4 + p, none⟩) q (c4 - p)) ((C.drop p).take q)) := HS4.out.cut p q (by have := HLE.out; omega)
    have HQ : Hid (q ≤ 100000) := by show _ ≤ _; have := HLE.out; omega
    clear HEX c1 c2
    go_wp2_with (at_builtin; refine wpList_copy_of rfl _ _ 25 5 rfl i0 Try.underlying25 hi0 hz0 hz1 hz2 w4 rfl rfl (some ⟨b4, off4 + p, none⟩) (c4 - p) ((C.drop p).take q) q rfl HM.out.1 HSL.out HQ.out ?_; intro v5 w5 ho5 hb5)
    go_ret2
    rw [HR.out]
    have hfin := own_sl0 ho5 HM.out.1
    exact ⟨_, rfl, by first | exact hfin | (rw [HM.out.2] at hfin; exact hfin), stepAny HL4.out hb5⟩
end Go.Proofs.Ytbklmpekpcneeaa
namespace Go.Proofs.Ytbklmpekpcneeaa
open Go.RowKit
set_option maxRecDepth 100000


set_option maxHeartbeats 16000000 in
theorem lread_w {v0 v1 v2 : Value} {w : World} (o0 : IsOps w v0) (o1 : IsI64 w v1) (o2 : IsSpan w v2) : Calls Try.prog 5 #[v0, v1, v2] w fun e w' => e = .returned (.bool true) ∧ Below w.heap.size w w' := by
  obtain ⟨l0, hv0⟩ := o0
  obtain ⟨n1, rfl, -, -⟩ := o1
  obtain ⟨po2, pc2, rfl⟩ := o2
  obtain ⟨a0, c0, rfl, -⟩ := hv0.open
  have HV0 := Lib.hid hv0
  have HAW := Lib.hid awake_w
  have HFE : Hid (∀ W, Below w.heap.size w W → Calls Try.prog 12 #[.slice a0 l0.length c0] W fun e w' => e = .returned (.bool (Nd.few l0)) ∧ W = w') := fun W hW => rfew_w (hv0.below hW (Nat.le_refl _))
  have HDK : Hid (Nd.few l0 = true → ∀ W, Below w.heap.size w W → Calls Try.prog 13 #[.slice a0 l0.length c0] W fun e w' => ∃ v', e = .returned v' ∧ Sl eb w' v' (Nd.disk l0) ∧ Below W.heap.size W w') := fun hf W hW => rdisk_w (hv0.below hW (Nat.le_refl _)) hf
  have HOK := Lib.hid (Nd.disk_ok l0)
  clear hv0
  obtain ⟨W1, hW1⟩ : ∃ W, W = w.alloc (.cells #[.int .i64 po2, .int .i64 pc2] 51 (0, 0)) := ⟨_, rfl⟩
  have hl1 : Below w.heap.size w W1 := by rw [hW1]; exact low_alloc _ _
  have hk1 : Bk W1 w.heap.size 51 [.int .i64 po2, .int .i64 pc2] := by rw [hW1]; exact Bk.new w _ [.int .i64 po2, .int .i64 pc2]
  have HW1 := Lib.hid hW1
  have HL1 := Lib.hid hl1
  have HQ : Hid (∀ W, Below W1.heap.size W1 W → W.cell? ⟨w.heap.size, 0, none⟩ = some (.int .i64 po2) ∧ W.cell? ⟨w.heap.size, 1, none⟩ = some (.int .i64 pc2)) := fun W hW => by
    have h := hk1.below hW hk1.lt
    exact ⟨h.cell 0, h.cell 1⟩
  have HRA : Hid (∀ W v, Sl eb W v (Nd.disk l0) → Calls Try.prog 25 #[v, .int .i64 n1, .int .i64 po2, .int .i64 pc2] W fun e w' => ∃ v', e = .returned (.tuple #[v', .int .i64 (Nd.read (Nd.disk l0) n1 po2 pc2).2]) ∧ Sl eb w' v' (Nd.read (Nd.disk l0) n1 po2 pc2).1 ∧ Below W.heap.size W w') := fun W v hv => vread_w hv (by rw [HOK.out.1]; decide) n1 po2 pc2
  have HRB : Hid (∀ W v, Sl eb W v (Nd.disk l0) → Calls Try.prog 26 #[v, .int .i64 n1, .int .i64 po2, .int .i64 pc2] W fun e w' => ∃ v', e = .returned (.tuple #[v', .int .i64 (Nd.read (Nd.disk l0) n1 po2 pc2).2]) ∧ Sl eb w' v' (Nd.read (Nd.disk l0) n1 po2 pc2).1 ∧ Below W.heap.size W w') := fun W v hv => rread_w hv HOK.out.1 n1 po2 pc2
  generalize Nd.disk l0 = d at *
  obtain ⟨xs, ec, hx⟩ : ∃ xs ec, Nd.read d n1 po2 pc2 = (xs, ec) := ⟨_, _, rfl⟩
  rw [hx] at HRA HRB
  clear hx hW1 hl1 hk1
  cases hf : Nd.few l0 with
  | false =>
    rw [hf] at HFE
    clear hf
    go_enter Try.func5, Try.ntmps5
    go_upto_region 1 with fail
    rw [← HW1.out]
    go_wp2_with (first
      | (go_at_call 11; (with_reducible refine (HAW.out _).mono ?_); rintro e w1 ⟨rfl, hb1⟩)
      | (go_at_call 12; (with_reducible refine (HFE.out _ (stepAny HL1.out hb1)).mono ?_); rintro e w' ⟨rfl, rfl⟩))
    go_ret
    exact ⟨rfl, stepAny HL1.out hb1⟩
  | true =>
    have HDK2 := Lib.hid (HDK.out hf)
    rw [hf] at HFE
    clear hf HDK
    go_enter Try.func5, Try.ntmps5
    go_upto_region 1 with fail
    rw [← HW1.out]
    go_upto_region 6 with (first
      | (go_at_call 11; (with_reducible refine (HAW.out _).mono ?_); rintro e w1 ⟨rfl, hb1⟩)
      | (go_at_call 12; (with_reducible refine (HFE.out _ (stepAny HL1.out hb1)).mono ?_); rintro e w' ⟨rfl, rfl⟩)
      | (go_at_call 13; (with_reducible refine (HDK2.out _ (stepAny HL1.out hb1)).mono ?_); rintro e w2 ⟨vd, rfl, hsd, hb2⟩))
    have hb12 := stepAny hb1 hb2
    obtain ⟨z0, z1⟩ := HQ.out w2 hb12
    go_upto_region 7 with (go_at_call 25; (with_reducible refine (HRA.out _ _ hsd).mono ?_); rintro e w3 ⟨v3, rfl, hs3, hb3⟩)
    have hb13 := stepAny hb12 hb3
    clear z0 z1
    obtain ⟨z0, z1⟩ := HQ.out w3 hb13
    go_upto_region 8 with (go_at_call 26; (with_reducible refine (HRB.out _ _ (hsd.below hb3 (Nat.le_refl _))).mono ?_); rintro e w4 ⟨v4, rfl, hs4, hb4⟩)
    have hs34 := hs3.below hb4 (Nat.le_refl _)
    obtain ⟨a3, c3, rfl, -, -, -, hr3⟩ := hs34
    obtain ⟨a4, c4, rfl, -, -, -, hr4⟩ := hs4
    have hcv3 := conv_run w4 a3 xs c3 hr3
    have hcv4 := conv_run w4 a4 xs c4 hr4
    clear hr3 hr4 hs3 z0 z1
    go_wp2_with fail
    go_ret
    exact ⟨by simp, stepAny HL1.out (stepAny hb13 hb4)⟩
end Go.Proofs.Ytbklmpekpcneeaa
namespace Go.Proofs.Ytbklmpekpcneeaa.inodesRead
open Go.ChangeShapes Go.WideShapes Go.ChangeAt Go.RowKit
set_option linter.unusedVariables false

theorem own : ownKnob Try.prog.godebug = none := by kernel_rfl
theorem laidOut : laidOutB Try.prog = true := by kernel_rfl

set_option maxRecDepth 100000 in
theorem lifted (os : Os) (started : os.Started) (H : Type) (enc : TypeId × Value → H) :
    ReturnsInHanded {} Try.checked os 5 .any (Rows.inodesReadSpec.pre6 enc Try.prog Try.f5 Rows.inodesReadRow.domain false) (Rows.inodesReadSpec.post enc Try.prog Try.f5 false true false false) := by
  refine returnsInHanded_of_change (C := Try.checked) own started (by kernel_rfl) Try.func5
    (ChangeSpec.witness6 (enc := enc) (C := Try.checked) false ⟨#[], #[.slice none 0 0, .int .i64 0, .agg #[.int .i64 0, .int .i64 0]], []⟩ 5 (by kernel_rfl) (by kernel_rfl) (by kernel_rfl) (by kernel_rfl)) ?_
  intro W base args ds gs before hval0 hW hcnd _
  have hval : ∀ (j : Nat) t v, Try.f5.params[j]? = some t → args[j]? = some v → Value.okWide Try.prog W .any base t v := hval0
  have hW' := hW
  obtain ⟨p, q, hA0, hV, rfl, hfz, hnd⟩ := hW
  have hA : DataW.TrodAll enc Try.prog W 0 (fun _ => true) true Try.f5.params.toList args.toList ds p := hA0
  rw [Try.params5] at hA hval
  obtain ⟨v0, vs0, d0, ds0, p0, q0, hargs, rfl, rfl, h0, r0⟩ := trodAll_cons hA
  obtain ⟨v1, vs1, d1, ds1, p1, q1, rfl, rfl, rfl, h1, r1⟩ := trodAll_cons r0
  obtain ⟨v2, vs2, d2, ds2, p2, q2, rfl, rfl, rfl, h2, r2⟩ := trodAll_cons r1
  obtain ⟨rfl, rfl, rfl⟩ := trodAll_nil r2
  obtain rfl : args = #[v0, v1, v2] := by cases args; simp_all
  obtain ⟨rfl, rfl⟩ := trodVars_none hV
  have k0 := h0
  have lt0 : ∀ x ∈ p0, x.block < W.heap.size := by obtain ⟨m, hm⟩ := k0; exact DataW.trod_lt m _ _ _ hm
  have o0 := open_ops (hval 0 22 v0 rfl rfl) (Arg.of h0)
  have k1 := h1
  have lt1 : ∀ x ∈ p1, x.block < W.heap.size := by obtain ⟨m, hm⟩ := k1; exact DataW.trod_lt m _ _ _ hm
  have o1 := open_i64 (hval 1 3 v1 rfl rfl) (Arg.of h1)
  have k2 := h2
  have lt2 : ∀ x ∈ p2, x.block < W.heap.size := by obtain ⟨m, hm⟩ := k2; exact DataW.trod_lt m _ _ _ hm
  have o2 := open_span (hval 2 51 v2 rfl rfl) (Arg.of h2)
  clear hA0 hval0
  refine (lread_w o0 o1 o2).mono fun e W' ⟨he, bel⟩ => ?_
  subst he
  exact ⟨_, rfl, _, _, _, [], _, [], hW', trodAll_mk1 (shut_bool Try.underlying4 _), (trodAll_cons_mk (Below.trod laidOut (by kernel_rfl) (of_decide_eq_true (by kernel_rfl)) k0 bel lt0) (trodAll_cons_mk (Below.trod laidOut (by kernel_rfl) (of_decide_eq_true (by kernel_rfl)) k1 bel lt1) (trodAll_cons_mk (Below.trod laidOut (by kernel_rfl) (of_decide_eq_true (by kernel_rfl)) k2 bel lt2) trodAll_mk0))), rfl, bel.frame _, fun h => by cases h⟩

theorem over : Rows.inodesReadRow.holds Try.pinned (OpenSpec.ofChange Rows.inodesReadSpec) :=
  OpenClaim.holds_of_wide 5 Try.f5 rfl rfl rfl rfl rfl rfl rfl ⟨rfl, rfl, rfl, rfl, rfl⟩ rfl rfl rfl rfl rfl (by kernel_rfl) Try.func5 (by kernel_rfl)
    (of_decide_eq_true (by kernel_rfl)) (by unfold Func.isWrapper; first | (rw [if_pos (by decide +kernel)]; kernel_rfl) | (rw [if_neg (by decide +kernel)]; exact ⟨rfl, rfl⟩))
    (fun os started H enc _ => lifted os started H enc)

/-- The statement. -/
theorem proved : Rows.InodesReadSaid := over
#print axioms proved
end Go.Proofs.Ytbklmpekpcneeaa.inodesRead
