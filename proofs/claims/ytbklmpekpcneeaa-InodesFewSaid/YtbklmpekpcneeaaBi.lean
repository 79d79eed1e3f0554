/-
  The walks of what the laws share; the arguments laid open.
-/
import Derived.Test.YtbklmpekpcneeaaBh
import Derived.Test.YtbklmpekpcneeaaBg
import Derived.Test.YtbklmpekpcneeaaBe
import Derived.Test.YtbklmpekpcneeaaBb
import Derived.Test.YtbklmpekpcneeaaBa
set_option linter.unusedVariables false
set_option linter.unusedSimpArgs false
set_option maxRecDepth 100000
namespace Nd
def fileI : Ino := ⟨1, 0, List.replicate 12 0⟩
def lastI : Ino := ⟨1, 301, [0, 0, 19, 0, 0, 0, 0, 0, 0, 0, 0, 0]⟩
theorem file_enc : Enc fileI := ⟨rfl, by decide, by decide, fun i => by
  unfold bk fileI
  simp only [List.getD_eq_getElem?_getD, List.getElem?_replicate]
  split <;> simp⟩
theorem last_bk (i : Nat) : bk lastI i = if i = 2 then 19 else 0 := by
  unfold bk lastI
  match i with
  | 0 | 1 | 2 | 3 | 4 | 5 | 6 | 7 | 8 | 9 | 10 | 11 => rfl
  | n + 12 => rw [if_neg (by omega)]; rfl
theorem last_enc : Enc lastI := ⟨rfl, by decide, by decide, fun i => by rw [last_bk]; split <;> decide⟩
theorem bits_format : bits format = bits0 := by rw [format_eq]; exact upd_bits blank_len bits0_len (by decide) root_enc
theorem format_ok : Ok format := ⟨format_len, format_form⟩
theorem take_bits0 : takeN bits0 1 = ([19], Ex.putB bits0 19 true, 0) := by decide +kernel
theorem awake_plain : ∃ d1 d2, alloc format 1 = (1, d1, 0) ∧ d1.length = 12288 ∧ write d1 1 300 [7] = (d2, 0) ∧ d2.length = 12288 ∧ get d2 1 = (lastI, 0) := by
  have hk0 : ∀ m, m < 1 → (raw format m).kind ≠ 0 := fun m hm => by
    obtain rfl : m = 0 := by omega
    rw [format_root]; decide
  have hk1 : (raw format 1).kind = 0 := by rw [format_other (by decide)]; rfl
  have ha : alloc format 1 = (1, upd format bits0 1 fileI, 0) := by
    unfold alloc
    rw [if_neg (by rw [format_ok.check]; simp), if_neg (by omega)]
    have hf : (List.range 32).find? (fun n => (raw format n).kind = 0) = some 1 := by
      rw [List.find?_eq_some_iff_append]
      refine ⟨by simpa using hk1, [0], List.range' 2 30, by decide, fun m hm => ?_⟩
      have : m = 0 := by simpa using hm
      simpa using hk0 m (by omega)
    rw [hf]
    simp only [if_true]
    have e : upd format bits0 1 fileI = putI format 1 fileI := by
      unfold upd
      rw [← bits_format, putB_bits format_len]
    rw [e]
    rfl
  have hok := step_ok (x := (0, 1, 0, [])) (d' := upd format bits0 1 fileI) format_ok (by unfold step; rw [if_pos rfl]; rw [ha])
  have hr := upd_raw (n := 1) format_len bits0_len (by decide) file_enc
  have hb := upd_bits (n := 1) format_len bits0_len (by decide) file_enc
  generalize upd format bits0 1 fileI = d1 at *
  obtain ⟨d2, h1, h2, h3⟩ : ∃ d2, write d1 1 300 [7] = (d2, 0) ∧ d2.length = 12288 ∧ get d2 1 = (lastI, 0) := by
    have hg : get d1 1 = (fileI, 0) := by
      have := get_at hok.1 hok.2 (n := 1) (by decide)
      rw [hr] at this
      exact this
    have hd2 : write d1 1 300 [7] = (upd (pour (setBl fileI 2 19) (zeroL d1 [19]) 300 [7]) (Ex.putB bits0 19 true) 1 lastI, 0) := by
      unfold write
      rw [if_neg (by rw [hg]; simp)]
      have e1 : (1 : Int).toNat = 1 := rfl
      have e3 : (300 : Int).toNat = 300 := rfl
      rw [e1, e3, hr, hb]
      have e2 : fresh fileI 300 [7].length = [2] := by decide
      simp only [e2]
      rw [if_neg (by decide), if_neg (by decide), if_neg (by decide)]
      simp only [List.length_cons, List.length_nil, Nat.zero_add, take_bits0]
      rfl
    have hd19 : ∀ k ∈ [19], 18 ≤ k ∧ k < 96 := fun k hk => by
      have : k = 19 := by simpa using hk
      omega
    have hzl := zeroL_len [19] hok.1 fun k hk => (hd19 k hk).2
    have hpl : (pour (setBl fileI 2 19) (zeroL d1 [19]) 300 [7]).length = 12288 := by rw [pour_len, hzl]
    have hbl : (Ex.putB bits0 19 true).length = 12 := by rw [Ex.length_putB]; exact bits0_len
    have hok2 := step_ok (x := (2, 1, 300, [7])) hok (by unfold step; rw [if_neg (by decide), if_neg (by decide), if_pos rfl]; exact hd2)
    refine ⟨_, hd2, hok2.1, ?_⟩
    have hr2 := upd_raw (n := 1) hpl hbl (by decide) last_enc
    have := get_at hok2.1 hok2.2 (n := 1) (by decide)
    rw [hr2] at this
    exact this
  exact ⟨d1, d2, ha, hok.1, h1, h2, h3⟩
end Nd
namespace Go.Proofs.Ytbklmpekpcneeaa
open Go.RowKit
set_option maxRecDepth 100000

theorem eq_last (W : World) : (Op.equalIn 10000 40 (.agg #[.int .i64 0, .int .i64 0, .int .i64 19, .int .i64 0, .int .i64 0, .int .i64 0, .int .i64 0, .int .i64 0, .int .i64 0, .int .i64 0, .int .i64 0, .int .i64 0]) (.agg #[.int .i64 0, .int .i64 0, .int .i64 19, .int .i64 0, .int .i64 0, .int .i64 0, .int .i64 0, .int .i64 0, .int .i64 0, .int .i64 0, .int .i64 0, .int .i64 0])).run Try.prog W = .ok true W := by kernel_rfl
theorem sl_seven (w : World) : Sl eb (w.alloc (.cells #[.int .u8 7] 5 (0, 0))) (.slice (some ⟨w.heap.size, 0, none⟩) 1 1) [7] := ⟨_, 1, rfl, Nat.le_refl _, by unfold maxLen; decide, by simp, Rd.one eb w 7 _ _⟩

set_option maxHeartbeats 4000000 in
theorem awake_w (w : World) : Calls Try.prog 11 #[] w fun e w' => e = .returned (.bool true) ∧ Below w.heap.size w w' := by
  obtain ⟨d1, d2, ha, hl1, hw, hl2, hg⟩ := Nd.awake_plain
  have HF : Hid (∀ W, Calls Try.prog 24 #[] W fun e w' => ∃ g c, e = .returned (.slice (some ⟨g, 0, none⟩) 12288 c) ∧ Sl eb w' (.slice (some ⟨g, 0, none⟩) 12288 c) Nd.format ∧ Below W.heap.size W w') := fun W => (rformat_w W).mono fun e w' h => by
    obtain ⟨g, c, h1, h2, h3⟩ := h
    exact ⟨g, c, h1, own_sl0 h2 Nd.format_len, h3⟩
  have HA : Hid (∀ W v, Sl eb W v Nd.format → Calls Try.prog 34 #[v, .int .i64 1] W fun e w' => ∃ v', e = .returned (.tuple #[.int .i64 1, v', .int .i64 0]) ∧ Sl eb w' v' d1 ∧ Below W.heap.size W w') := fun W v hv => by
    have h := valloc_w hv (by rw [Nd.format_len]; decide) 1
    rw [ha] at h
    exact h
  have HW : Hid (∀ W v u, Sl eb W v d1 → Sl eb W u [7] → Calls Try.prog 27 #[v, .int .i64 1, .int .i64 300, u] W fun e w' => ∃ v', e = .returned (.tuple #[v', .int .i64 0]) ∧ Sl eb w' v' d2 ∧ Below W.heap.size W w') := fun W v u hv hu => by
    have h := vwrite_w hv (by rw [hl1]; decide) 1 300 hu (by decide)
    rw [hw] at h
    exact h
  have HG : Hid (∀ W v, Sl eb W v d2 → Calls Try.prog 19 #[v, .int .i64 1] W fun e w' => e = .returned (.tuple #[.agg (ic Nd.lastI).toArray, .int .i64 0]) ∧ Below W.heap.size W w') := fun W v hv => by
    have h := vGet_w hv (by rw [hl2]; decide) 1
    rw [hg] at h
    exact h
  have heq := eq_last
  clear ha hw hg hl1 hl2
  go_enter Try.func11, Try.ntmps11
  go_upto_region 4 with (first
    | (go_at_call 24; (with_reducible refine (HF.out _).mono ?_); rintro e w1 ⟨g1, c1, rfl, hs1, hb1⟩)
    | (go_at_call 34; (with_reducible refine (HA.out _ _ hs1).mono ?_); rintro e w2 ⟨v2, rfl, hs2, hb2⟩)
    | (go_at_call 27; (with_reducible refine (HW.out _ _ _ (hs2.below (low_alloc _ _) (Nat.le_refl _)) (sl_seven w2)).mono ?_); rintro e w3 ⟨v3, rfl, hs3, hb3⟩)
    | (go_at_call 19; (with_reducible refine (HG.out _ _ hs3).mono ?_); rintro e w4 ⟨rfl, hb4⟩)
    | (refine wpList_store_part rfl 42 _ _ rfl w4.heap.size 0 14 (ic Nd.lastI) rfl rfl 42 [.int .i64 0, .int .i64 0, .int .i64 0, .int .i64 0, .int .i64 0, .int .i64 0, .int .i64 0, .int .i64 0, .int .i64 0, .int .i64 0, .int .i64 0, .int .i64 0, .int .i64 0, .int .i64 0] (Bk.new w4 _ [.int .i64 0, .int .i64 0, .int .i64 0, .int .i64 0, .int .i64 0, .int .i64 0, .int .i64 0, .int .i64 0, .int .i64 0, .int .i64 0, .int .i64 0, .int .i64 0, .int .i64 0, .int .i64 0]) rfl (by simp) Try.sizeII (ic_one _) ?_; intro w5 hk5 hg5))
  rw [splice_all _ _ (by rfl)] at hk5
  have hl4 : Below w.heap.size w w4 := stepAny (stepAny (stepAny (stepAny hb1 hb2) (low_alloc w2 _)) hb3) hb4
  have hl5 : Below w.heap.size w w5 := stepAny hl4 ((low_alloc w4 (.cells #[.int .i64 0, .int .i64 0, .int .i64 0, .int .i64 0, .int .i64 0, .int .i64 0, .int .i64 0, .int .i64 0, .int .i64 0, .int .i64 0, .int .i64 0, .int .i64 0, .int .i64 0, .int .i64 0] 42 (0, 0))).trans (below_of_grown hg5 (Nat.le_refl _) (low_alloc w4 (.cells #[.int .i64 0, .int .i64 0, .int .i64 0, .int .i64 0, .int .i64 0, .int .i64 0, .int .i64 0, .int .i64 0, .int .i64 0, .int .i64 0, .int .i64 0, .int .i64 0, .int .i64 0, .int .i64 0] 42 (0, 0))).size))
  have HL5 := Lib.hid hl5
  obtain ⟨bx, hbx⟩ : ∃ y, y = w4.heap.size := ⟨_, rfl⟩
  rw [← hbx] at hk5 ⊢
  have z0 : w5.cell? ⟨bx, 0, none⟩ = some (.int .i64 1) := hk5.cell 0
  have z1 : w5.cell? ⟨bx, 1, none⟩ = some (.int .i64 301) := hk5.cell 1
  have z2 : w5.cell? ⟨bx, 2, none⟩ = some (.int .i64 0) := hk5.cell 2
  have z3 : w5.cell? ⟨bx, 3, none⟩ = some (.int .i64 0) := hk5.cell 3
  have z4 : w5.cell? ⟨bx, 4, none⟩ = some (.int .i64 19) := hk5.cell 4
  have z5 : w5.cell? ⟨bx, 5, none⟩ = some (.int .i64 0) := hk5.cell 5
  have z6 : w5.cell? ⟨bx, 6, none⟩ = some (.int .i64 0) := hk5.cell 6
  have z7 : w5.cell? ⟨bx, 7, none⟩ = some (.int .i64 0) := hk5.cell 7
  have z8 : w5.cell? ⟨bx, 8, none⟩ = some (.int .i64 0) := hk5.cell 8
  have z9 : w5.cell? ⟨bx, 9, none⟩ = some (.int .i64 0) := hk5.cell 9
  have z10 : w5.cell? ⟨bx, 10, none⟩ = some (.int .i64 0) := hk5.cell 10
  have z11 : w5.cell? ⟨bx, 11, none⟩ = some (.int .i64 0) := hk5.cell 11
  have z12 : w5.cell? ⟨bx, 12, none⟩ = some (.int .i64 0) := hk5.cell 12
  have z13 : w5.cell? ⟨bx, 13, none⟩ = some (.int .i64 0) := hk5.cell 13
  clear hk5 hg5 hl4 hl5 hb1 hb2 hb3 hb4 hs1 hs2 hs3 hbx HF HA HW HG
  go_wp2_with fail
  go_ret
  exact ⟨rfl, HL5.out⟩
end Go.Proofs.Ytbklmpekpcneeaa
namespace Nd
/-- The content of an inode as the laws see it. -/
def cont (d : List UInt8) (n : Int) : List UInt8 := if (read d n 0 1536).2 ≠ 0 then [45] else 43 :: (read d n 0 1536).1
theorem read_len (d : List UInt8) (n : Int) : (read d n 0 1536).1.length ≤ 1536 := by
  unfold read
  split
  · simp
  · split
    · simp
    · exact List.length_take_le _ _
theorem cont_len (d : List UInt8) (n : Int) : (cont d n).length ≤ 1537 := by
  have := read_len d n
  unfold cont
  split
  · simp
  · simp; exact this
end Nd
namespace Go.Proofs.Ytbklmpekpcneeaa
open Go.RowKit
set_option maxRecDepth 100000

theorem plus_str (xs : List UInt8) : (⟨#[43]⟩ : ByteArray) ++ ⟨xs.toArray⟩ = ⟨(43 :: xs).toArray⟩ := by
  apply ByteArray.ext
  simp [ByteArray.data_append]

set_option maxHeartbeats 1600000 in
theorem lcontent_w {v : Value} {d : List UInt8} {w : World} (hv : Sl eb w v d) (hl : d.length ≤ 100000) (n : Int) : Calls Try.prog 15 #[v, .int .i64 n] w fun e w' => e = .returned (.string ⟨(Nd.cont d n).toArray⟩) ∧ Below w.heap.size w w' := by
  have HR := Lib.hid (vread_w hv hl n 0 1536)
  have HC : Hid (Nd.cont d n = if (Nd.read d n 0 1536).2 ≠ 0 then [45] else 43 :: (Nd.read d n 0 1536).1) := rfl
  have hxl := Nd.read_len d n
  generalize Nd.cont d n = C at *
  obtain ⟨xs, ec, hx⟩ : ∃ xs ec, Nd.read d n 0 1536 = (xs, ec) := ⟨_, _, rfl⟩
  rw [hx] at HR HC hxl
  simp only at hxl
  clear hx hv hl
  by_cases he : ec = 0
  · have HC2 : Hid (C = 43 :: xs) := by rw [HC.out, if_neg (by simp [he])]; rfl
    have f1 : (ec != 0) = false := by rw [he]; rfl
    clear he HC
    go_enter Try.func15, Try.ntmps15
    go_upto_region 4 with (go_at_call 25; (with_reducible refine HR.out.mono ?_); rintro e w1 ⟨v1, rfl, hs1, hb1⟩)
    obtain ⟨a1, c1, rfl, h1, h2, h3, h4⟩ := hs1
    have hcv := conv_run w1 a1 xs c1 h4
    clear h1 h2 h3 h4
    have f2 : ¬ 9223372036854775807 < 1 + xs.length := by omega
    go_wp2_with fail
    go_ret
    rw [HC2.out]
    exact ⟨by rw [← plus_str]; rfl, hb1⟩
  · have HC2 : Hid (C = [45]) := by rw [HC.out, if_pos he]; rfl
    have f1 : (ec != 0) = true := by rw [bne_iff_ne]; exact he
    clear he HC
    go_enter Try.func15, Try.ntmps15
    go_wp2_with (go_at_call 25; (with_reducible refine HR.out.mono ?_); rintro e w1 ⟨v1, rfl, hs1, hb1⟩)
    go_ret
    rw [HC2.out]
    exact ⟨rfl, hb1⟩
end Go.Proofs.Ytbklmpekpcneeaa
set_option maxRecDepth 100000
namespace Nd
theorem ok_bk96 {d : List UInt8} (h : Ok d) {m : Nat} (hm : m < 32) (hk : (raw d m).kind ≠ 0) : (raw d m).size ≤ 1536 ∧ ∀ i, i < 12 → bk (raw d m) i < 96 := by
  have hg := h.2.good hm hk
  refine ⟨hg.2.1, fun i hi => ?_⟩
  rcases hg.2.2.1 i hi with h | h
  · omega
  · exact h.2.1
theorem get_in {d : List UInt8} (h : Ok d) {m : Nat} (hm : m < 32) (hk : (raw d m).kind ≠ 0) : get d (m : Int) = (raw d m, 0) := by rw [get_at h.1 h.2 hm, if_neg hk]
theorem cont_some {d : List UInt8} (h : Ok d) {m : Nat} (hm : m < 32) (hk : (raw d m).kind ≠ 0) : cont d (m : Int) = 43 :: content d (raw d m) := by
  obtain ⟨hs, hb⟩ := ok_bk96 h hm hk
  have hr := read_yes (d := d) (m := m) (o := 0) (c := 1536) (by rw [get_in h hm hk])
  have hr2 : read d (m : Int) 0 1536 = (((content d (raw d m)).drop 0).take 1536, 0) := hr
  unfold cont
  rw [hr2, if_neg (by simp), List.drop_zero, List.take_of_length_le (by rw [content_len h.1 hb hs]; exact hs)]
theorem cont_none {d : List UInt8} (h : Ok d) {m : Nat} (hm : m < 32) (hk : (raw d m).kind = 0) : cont d (m : Int) = [45] := by
  have hg : (get d (m : Int)).2 ≠ 0 := by rw [get_at h.1 h.2 hm, if_pos hk]; simp
  unfold cont
  rw [if_pos]
  rw [read_get hg]; exact hg
theorem Stp.ok {d d' : List UInt8} {n : Nat} {x : Ino} (h : Stp d d' n x) : Ok d' := ⟨h.len, h.form⟩
theorem Stp.cont_other {d d' : List UInt8} {n : Nat} {x : Ino} (h : Stp d d' n x) (hd : Ok d) {m : Nat} (hm : m < 32) (hne : m ≠ n) : Nd.cont d' (m : Int) = Nd.cont d (m : Int) := by
  by_cases hk : (Nd.raw d m).kind = 0
  · rw [cont_none hd hm hk, cont_none h.ok hm (by rw [h.other m hm hne]; exact hk)]
  · rw [cont_some hd hm hk, cont_some h.ok hm (by rw [h.other m hm hne]; exact hk), h.cont m hm hne]
/-- How many inodes are used. -/
def cntK (d : List UInt8) : Nat := ((inos d).filter fun x => x.kind ≠ 0).length
theorem Stp.inos_set {d d' : List UInt8} {n : Nat} {x : Ino} (h : Stp d d' n x) (hn : n < 32) : inos d' = (inos d).set n x := by
  apply List.ext_getElem?
  intro i
  by_cases hi : i < 32
  · rw [raw_get d' hi]
    by_cases e : n = i
    · subst e; rw [List.getElem?_set_self (by rw [inos_len]; exact hn), h.raw]
    · rw [List.getElem?_set_ne e, raw_get d hi, h.other i hi (fun e' => e e'.symm)]
  · rw [List.getElem?_eq_none (by rw [inos_len]; omega), List.getElem?_eq_none (by rw [List.length_set, inos_len]; omega)]
theorem cnt_set (l : List Ino) (p : Ino → Bool) : ∀ (n : Nat) (x y : Ino), l[n]? = some y → (l.set n x |>.filter p).length + (if p y then 1 else 0) = (l.filter p).length + (if p x then 1 else 0) := by
  induction l with
  | nil => intro n x y h; simp at h
  | cons a l ih =>
    intro n x y h
    cases n with
    | zero =>
      simp only [List.getElem?_cons_zero, Option.some.injEq] at h
      subst h
      rw [List.set_cons_zero, List.filter_cons, List.filter_cons]
      cases p x <;> cases p a <;> simp
    | succ n =>
      rw [List.getElem?_cons_succ] at h
      have := ih n x y h
      rw [List.set_cons_succ, List.filter_cons, List.filter_cons]
      cases p a
      · simpa using this
      · simp only [if_true, List.length_cons]; omega
theorem Stp.cnt {d d' : List UInt8} {n : Nat} {x : Ino} (h : Stp d d' n x) (hn : n < 32) : cntK d' + (if (Nd.raw d n).kind ≠ 0 then 1 else 0) = cntK d + (if x.kind ≠ 0 then 1 else 0) := by
  unfold cntK
  rw [h.inos_set hn]
  have := cnt_set (inos d) (fun x => x.kind ≠ 0) n x (Nd.raw d n) (raw_get d hn)
  simpa using this
theorem usage_at {d : List UInt8} (h : Ok d) : usage d = ((cntK d : Int), ((Nd.used (inos d)).length : Int), 0) := usage_ok h
/-- Cut off or extended by zeros. -/
def fit (c : List UInt8) (s : Nat) : List UInt8 := c.take s ++ List.replicate (s - c.length) 0
theorem fit_len (c : List UInt8) (s : Nat) : (fit c s).length = s := by unfold fit; rw [List.length_append, List.length_take, List.length_replicate]; omega
theorem fit_g (c : List UInt8) (s : Nat) {i : Nat} (hi : i < s) : g (fit c s) i = g c i := by
  unfold fit g
  rw [List.getD_eq_getElem?_getD, List.getElem?_append, List.length_take]
  by_cases h : i < c.length
  · rw [if_pos (by omega), List.getElem?_take, if_pos hi, List.getD_eq_getElem?_getD]
  · rw [if_neg (by omega), List.getElem?_replicate, List.getD_eq_getElem?_getD, List.getElem?_eq_none (by omega)]
    split <;> rfl
theorem g_out {c : List UInt8} {i : Nat} (h : c.length ≤ i) : g c i = 0 := by unfold g; rw [List.getD_eq_getElem?_getD, List.getElem?_eq_none h]; rfl
theorem U_used {d : List UInt8} {n : Nat} (hn : n < 32) : (Nd.used (inos d)).Perm (Nd.used [raw d n] ++ U d n) := (used_set (raw_get d hn) (raw d n)).1
theorem trunc_err {d : List UInt8} {n z : Int} (h : (truncate d n z).2 ≠ 0) : (truncate d n z).1 = [] := by
  unfold truncate at h ⊢
  split
  · rfl
  · rename_i h1
    rw [if_neg h1] at h
    simp only at h ⊢
    split
    · rfl
    · rename_i h2
      rw [if_neg h2] at h
      split
      · rfl
      · rename_i h3
        rw [if_neg h3] at h
        simp at h
theorem trunc_law {d d' : List UInt8} {n z : Int} (hd : Ok d) (h : truncate d n z = (d', 0)) : Ok d' ∧ ∃ (m s : Nat) (c : List UInt8), n = m ∧ z = s ∧ s ≤ 1536 ∧ m < 32 ∧ c.length ≤ 1536 ∧ cont d n = 43 :: c ∧ cont d' n = 43 :: fit c s ∧ (∀ i : Nat, i < 32 → i ≠ m → cont d' (i : Int) = cont d (i : Int)) ∧ cntK d' = cntK d ∧ (Nd.used (inos d')).length ≤ (Nd.used (inos d)).length := by
  obtain ⟨-, -, hz0, hz1, m, rfl, hm, hk, hstp, hb⟩ := trunc_stp h
  obtain ⟨s, rfl⟩ : ∃ s : Nat, z = s := ⟨z.toNat, by omega⟩
  rw [Int.toNat_natCast] at hstp hb
  have hk0 : (raw d m).kind ≠ 0 := by omega
  obtain ⟨hs, h96⟩ := ok_bk96 hd hm hk0
  have hkc : (raw d' m).kind ≠ 0 := by rw [hstp.raw]; exact hk0
  refine ⟨hstp.ok, m, s, content d (raw d m), rfl, rfl, by omega, hm, by rw [content_len hd.1 h96 hs]; exact hs, cont_some hd hm hk0, ?_, fun i hi hne => hstp.cont_other hd hi hne, ?_, ?_⟩
  · rw [cont_some hstp.ok hm hkc, hstp.raw]
    congr 1
    have hs1 : (cut (raw d m) s).size = s := rfl
    have hc96 : ∀ i, i < 12 → bk (cut (raw d m) s) i < 96 := fun i hi => by
      rw [cut_bk _ _ hi]; split
      · omega
      · exact h96 i hi
    have hl1 : (content d' (cut (raw d m) s)).length = s := by rw [content_len hstp.len hc96 (by rw [hs1]; omega)]; exact hs1
    refine ext_g (by rw [hl1, fit_len]) fun i hi => ?_
    rw [hl1] at hi
    rw [content_g hstp.len hc96 (by rw [hs1]; omega) (by rw [hs1]; exact hi), fit_g _ _ hi]
    have h12 : i / 128 < 12 := by omega
    have hcb : bk (cut (raw d m) s) (i / 128) = bk (raw d m) (i / 128) := by rw [cut_bk _ _ h12, if_neg (by omega)]
    rw [hcb]
    by_cases hi2 : i < (raw d m).size
    · rw [content_g hd.1 h96 hs hi2]
      by_cases h0 : bk (raw d m) (i / 128) = 0
      · rw [if_pos h0, if_pos h0]
      · rw [if_neg h0, if_neg h0, hb _ _ h12 (by omega) h0 (Nat.mod_lt _ (by decide)), if_pos (by omega)]
    · have e0 : g (content d (raw d m)) i = 0 := g_out (by rw [content_len hd.1 h96 hs]; omega)
      rw [e0]
      by_cases h0 : bk (raw d m) (i / 128) = 0
      · rw [if_pos h0]
      · rw [if_neg h0, hb _ _ h12 (by omega) h0 (Nat.mod_lt _ (by decide)), if_pos (by omega)]
        have hg := hd.2.good hm hk0
        rcases hg.2.2.1 (i / 128) h12 with h1 | h1
        · exact absurd h1 h0
        · exact h1.2.2.2 (i % 128) (Nat.mod_lt _ (by decide)) (by omega)
  · have := hstp.cnt hm
    have hk2 : (cut (raw d m) s).kind ≠ 0 := hk0
    rw [if_pos hk0, if_pos hk2] at this
    omega
  · have h1 := hstp.used.length_eq
    have h2 := (U_used (d := d) hm).length_eq
    have h3 := (cut_used (raw d m) s (raw_enc d m).n).length_le
    rw [List.length_append] at h1 h2
    omega
end Nd
namespace Go.Proofs.Ytbklmpekpcneeaa
open Go.RowKit Go.ChangeShapes Go.WideShapes
set_option maxRecDepth 100000

def IsI64 (_ : World) (v : Value) : Prop := ∃ n : Int, v = .int .i64 n ∧ -9223372036854775808 ≤ n ∧ n ≤ 9223372036854775807
def IsOps (w : World) (v : Value) : Prop := ∃ l, Oq w v l
def OpV (w : World) (v : Value) (x : Nd.Op) : Prop := ∃ a c, v = .agg #[.int .i64 x.1, .int .i64 x.2.1, .int .i64 x.2.2.1, .slice a x.2.2.2.length c] ∧ Sl eb w (.slice a x.2.2.2.length c) x.2.2.2
def IsOp (w : World) (v : Value) : Prop := ∃ x, OpV w v x
def IsChg (_ : World) (v : Value) : Prop := ∃ (n : Nat) (c : UInt8), v = .agg #[.int .u16 n, eb c] ∧ n < 65536
def IsSpan (_ : World) (v : Value) : Prop := ∃ o c : Int, v = .agg #[.int .i64 o, .int .i64 c]

section
variable {w : World} {r : Reach} {b : Nat} {v : Value}
theorem open_i64 (hv : Value.okWide Try.prog w r b 3 v) (h : Arg w 3 v.cells.toList) : IsI64 w v := by
  obtain ⟨n, e, hw⟩ := h.int Try.underlying3
  exact ⟨n, cells_int Try.underlying3 hv e, wf_i64 hw⟩
theorem u8_of {n : Int} (hw : (Lit.int .u8 n).wf = true) : Value.int .u8 n = eb (UInt8.ofNat n.toNat) := by
  obtain ⟨h0, h1⟩ := wf_u8 hw
  unfold eb
  rw [UInt8.toNat_ofNat', Nat.mod_eq_of_lt (by omega)]
  congr 1
  omega

theorem op_cells {cs : List Value} (h : Arg w 55 cs) : ∃ (x : Nd.Op) (u : Value), cs = [.int .i64 x.1, .int .i64 x.2.1, .int .i64 x.2.2.1, u] ∧ Sl eb w u x.2.2.2 := by
  obtain ⟨h1, h2⟩ := h.struct Try.underlying55
  have hc : Try.prog.cellsOf 55 = 4 := by kernel_rfl
  have hs : Try.prog.cellsOf 3 = 1 := by kernel_rfl
  have hb : Try.prog.cellsOf 25 = 1 := by kernel_rfl
  have g0 : Arg w 3 ((cs.drop 0).take (Try.prog.cellsOf 3)) := h2 0 _ rfl
  have g1 : Arg w 3 ((cs.drop 1).take (Try.prog.cellsOf 3)) := h2 1 _ rfl
  have g2 : Arg w 3 ((cs.drop 2).take (Try.prog.cellsOf 3)) := h2 2 _ rfl
  have g3 : Arg w 25 ((cs.drop 3).take (Try.prog.cellsOf 25)) := h2 3 _ rfl
  rw [hs] at g0 g1 g2
  rw [hb] at g3
  rw [hc] at h1
  obtain ⟨d0, e0, w0⟩ := g0.int Try.underlying3
  obtain ⟨d1, e1, w1⟩ := g1.int Try.underlying3
  obtain ⟨d2, e2, w2⟩ := g2.int Try.underlying3
  obtain ⟨u, xs, e3, hsl⟩ := g3.bytes Try.underlying25 Try.underlying5 (by kernel_rfl)
  refine ⟨(d0, d1, d2, xs), u, ?_, hsl⟩
  match cs, h1 with
  | [c0, c1, c2, c3], _ =>
    simp at e0 e1 e2 e3
    rw [e0, e1, e2, e3]

theorem ops_cells {cs : List Value} (h : Arg w 22 cs) : ∃ u l, cs = [u] ∧ Oq w u l := by
  obtain ⟨u, es, e, hs, hR⟩ := h.multi (s := 4) (enc := eo) (R := fun e => ∃ x, OpR w e x) Try.underlying22 (by kernel_rfl) (by omega) (fun cs h' => by
    obtain ⟨x, u, rfl, hsl⟩ := op_cells h'
    obtain ⟨a, c, rfl, -⟩ := id hsl
    exact ⟨(x.1, x.2.1, x.2.2.1, a, x.2.2.2.length, c), rfl, x, rfl, rfl, rfl, hsl⟩)
  have hls : ∃ l : List Nd.Op, es.length = l.length ∧ ∀ i (h : i < es.length) (h' : i < l.length), OpR w es[i] l[i] := by
    clear hs e
    induction es with
    | nil => exact ⟨[], rfl, fun i h => absurd h (by simp)⟩
    | cons e es ih =>
      obtain ⟨l, hl⟩ := ih (fun x hx => hR x (List.mem_cons_of_mem _ hx))
      obtain ⟨x, h1⟩ := hR e (by simp)
      refine ⟨x :: l, by simp [hl.1], fun i hi hi' => ?_⟩
      cases i with
      | zero => exact h1
      | succ i => exact hl.2 i (by simpa using hi) (by simpa using hi')
  obtain ⟨l, hl⟩ := hls
  exact ⟨u, l, e, es, hs, hl⟩

theorem open_ops (hv : Value.okWide Try.prog w r b 22 v) (h : Arg w 22 v.cells.toList) : IsOps w v := by
  obtain ⟨u, l, e, hw⟩ := ops_cells h
  rw [cells_slice Try.underlying22 hv e]
  exact ⟨l, hw⟩
theorem open_op (hv : Value.okWide Try.prog w r b 55 v) (h : Arg w 55 v.cells.toList) : IsOp w v := by
  obtain ⟨x, u, e, hsl⟩ := op_cells h
  obtain ⟨a, c, rfl, -⟩ := id hsl
  refine ⟨x, a, c, cells_struct Try.underlying55 hv e, hsl⟩

theorem open_span (hv : Value.okWide Try.prog w r b 51 v) (h : Arg w 51 v.cells.toList) : IsSpan w v := by
  obtain ⟨h1, h2⟩ := h.struct Try.underlying51
  have hc : Try.prog.cellsOf 51 = 2 := by kernel_rfl
  have hs : Try.prog.cellsOf 3 = 1 := by kernel_rfl
  have g0 : Arg w 3 ((v.cells.toList.drop 0).take (Try.prog.cellsOf 3)) := h2 0 _ rfl
  have g1 : Arg w 3 ((v.cells.toList.drop 1).take (Try.prog.cellsOf 3)) := h2 1 _ rfl
  rw [hs] at g0 g1
  rw [hc] at h1
  obtain ⟨q, e0, w0⟩ := g0.int Try.underlying3
  obtain ⟨n, e1, w1⟩ := g1.int Try.underlying3
  refine ⟨q, n, cells_struct Try.underlying51 hv ?_⟩
  match hvl : v.cells.toList, h1 with
  | [c0, c1], _ =>
    rw [hvl] at e0 e1
    simp at e0 e1
    rw [e0, e1]
theorem open_chg (hv : Value.okWide Try.prog w r b 37 v) (h : Arg w 37 v.cells.toList) : IsChg w v := by
  obtain ⟨h1, h2⟩ := h.struct Try.underlying37
  have hc : Try.prog.cellsOf 37 = 2 := by kernel_rfl
  have hs : Try.prog.cellsOf 35 = 1 := by kernel_rfl
  have hb : Try.prog.cellsOf 5 = 1 := by kernel_rfl
  have g0 : Arg w 35 ((v.cells.toList.drop 0).take (Try.prog.cellsOf 35)) := h2 0 _ rfl
  have g1 : Arg w 5 ((v.cells.toList.drop 1).take (Try.prog.cellsOf 5)) := h2 1 _ rfl
  rw [hs] at g0
  rw [hb] at g1
  rw [hc] at h1
  obtain ⟨q, e0, w0⟩ := g0.int Try.underlying35
  obtain ⟨n, e1, w1⟩ := g1.int Try.underlying5
  have hq : 0 ≤ q ∧ q ≤ 65535 := by simpa [Lit.wf, IntKind.min, IntKind.max, IntKind.signed, IntKind.bits] using w0
  refine ⟨q.toNat, UInt8.ofNat n.toNat, ?_, by omega⟩
  rw [← u8_of w1, show ((q.toNat : Nat) : Int) = q by omega]
  refine cells_struct Try.underlying37 hv ?_
  match hvl : v.cells.toList, h1 with
  | [c0, c1], _ =>
    rw [hvl] at e0 e1
    simp at e0 e1
    rw [e0, e1]
end
end Go.Proofs.Ytbklmpekpcneeaa
