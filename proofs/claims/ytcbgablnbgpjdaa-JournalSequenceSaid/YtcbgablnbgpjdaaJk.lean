/-
  The walk of header of the reference.
-/
import Derived.Test.YtcbgablnbgpjdaaJz
import Derived.Lib.SmallJoins
import Derived.Test.YtcbgablnbgpjdaaApp
namespace Jr
/-- What lies in the row behind k rounds. -/
def row (c : UInt8) (bl : List Int) (k : Nat) : List UInt8 := [74, 82, 78, c, UInt8.ofNat bl.length] ++ ((List.range k).map fun i => if h : i < bl.length then ib bl[i] else 0)
theorem row_step (c : UInt8) (bl : List Int) (k : Nat) : row c bl (k + 1) = row c bl k ++ [if h : k < bl.length then ib bl[k] else 0] := by
  unfold row
  rw [List.range_succ, List.map_append, ← List.append_assoc]
  rfl
theorem pre_len' (c : UInt8) (bl : List Int) (seq : Int) : (pre c bl seq).length = 20 := by simp [pre, num_len]
theorem row_len (c : UInt8) (bl : List Int) (k : Nat) : (row c bl k).length = 5 + k := by simp [row]; omega
/-- The fourth byte, and what is summed behind the first 20 bytes. -/
def mark (l : List Wr) : UInt8 := if l = [] then 48 else 49
def tailOf (l : List Wr) (sl : List UInt8) : List UInt8 := if l = [] then [] else sl
theorem head_eq (seq : Int) (l : List Wr) (sl : List UInt8) : head seq l sl = mk (mark l) (l.map Prod.fst) seq (tailOf l sl) := by
  unfold head mark tailOf
  split
  · rename_i h; subst h; rfl
  · rfl
end Jr
namespace Go.Proofs.Ytcbgablnbgpjdaa
open Go.RowKit

/-- The row of a constant's bytes. -/
def lead (c : Int) : Array Value := #[.int .u8 74, .int .u8 82, .int .u8 78, .int .u8 c]

section
variable {P : Program} {w : World} {ops : Array Oper} {rest : List Oper} {o : Oper} {a : Act} {Q : Exit → Act → World → Prop}
/-- One value is appended onto a row that is full, whatever its mark. -/
theorem wpList_append_full (hgd : o.guard = none) (s x : Operand) (t : TypeId) (ho : o.op = .call { callee := .builtin .append, args := #[s, x], argTypes := #[t, t] })
    (base : Nat) (e : TypeId) (i : TypeInfo) (z : Value) (bytes : Nat) (ht : P.underlying t = some (.slice e)) (hi : P.info? e = some i) (hz : i.zero = some z) (hsize : i.size = 1) (hby : i.bytes = bytes) (hzs : z.cells.size = 1)
    (b n : Nat) (xs : List Value) (hsv : a.eval s = .slice (some ⟨b, 0, none⟩) n n) (hx : xs.length = n) (fr : Nat × Nat) (hold : w.heap[b]? = some (.cells xs.toArray e fr))
    (g : Nat) (u : Value) (hxv : a.eval x = .slice (some ⟨g, 0, none⟩) 1 1) (hg : w.cell? ⟨g, 0, none⟩ = some u) (h1 : u.oneCell' = true)
    (h63 : n + 1 ≤ maxLen) (hfit : Builtin.nextslicecap (n + 1) n * bytes ≤ 281474976710656) (hbase : base ≤ w.heap.size)
    (h : ∀ v' w', w'.ownsRow base e 1 v' (n + 1) (xs ++ [u]) → Below base w w' → wpList P ops Q rest (a.put o.dst v') w') : wpList P ops Q (o :: rest) a w := by
  refine wpList_plain hgd fun K hK => ?_
  have hadd : ∀ b j : Nat, (⟨b, 0, none⟩ : Addr).add j = ⟨b, j, none⟩ := fun b j => by unfold Addr.add; split <;> simp_all
  obtain ⟨v', w', hrun, h2, h3⟩ := run_append_full (P := P) (w := w) base t o.type e i z bytes ht hi hz hsize hby hzs b 0 n xs hx (fun j v hj => by rw [hadd, cell_of_row _ _ j _ _ _ hold]; simpa using hj) ⟨g, 0, none⟩ 1 1 [u] rfl (fun j v hj => by
    have hj0 : j = 0 := by
      have := (List.getElem?_eq_some_iff.1 hj).1
      simp at this
      exact this
    subst hj0
    rw [hadd, hg]
    exact hj) (fun v hv => by rw [List.mem_singleton.1 hv]; exact h1) (by omega) h63 hfit hbase
  unfold Oper.wp
  simp only [execOp, ho, resolve, invoke, builtin, Sem.run_bind, Sem.run_pure, Result.andThen_ok, List.map_toArray, List.map_cons, List.map_nil, hsv, hxv, hrun]
  exact hK _ _ (h v' w' h2 h3)

/-- A make of k is appended onto an own row. -/
theorem wpList_append_make (hgd : o.guard = none) (s x : Operand) (t tn : TypeId) (ho : o.op = .call { callee := .builtin .append, args := #[s, x], argTypes := #[t, tn] })
    (base : Nat) (e : TypeId) (i : TypeInfo) (z : Value) (kn kq : IntKind) (ht : P.underlying t = some (.slice e)) (htn : P.underlying tn = some (.int kn)) (hi : P.info? e = some i) (hz : i.zero = some z) (hsize : i.size = 1) (hby : i.bytes = 1) (hzc : z.cells = #[z]) (hz1 : z.oneCell' = true)
    (v : Value) (n : Nat) (xs : List Value) (hsv : a.eval s = v) (hown : w.ownsRow base e 1 v n xs) (k : Nat) (hxv : a.eval x = .int kq k) (hn : 0 < n) (hk : 0 < k) (h63 : n + k ≤ 1000000) (hbase : base ≤ w.heap.size)
    (h : ∀ v' w', w'.ownsRow base e 1 v' (n + k) (xs ++ List.replicate k z) → Below base w w' → wpList P ops Q rest (a.put o.dst v') w') : wpList P ops Q (o :: rest) a w := by
  refine wpList_plain hgd fun K hK => ?_
  obtain ⟨v', w', hrun, h2, h3⟩ := run_append_make (P := P) (w := w) base t tn o.type e i z kn kq ht htn hi hz hsize hby hzc hz1 v n xs hown k hn hk h63 hbase
  unfold Oper.wp
  simp only [execOp, ho, resolve, invoke, builtin, Sem.run_bind, Sem.run_pure, Result.andThen_ok, List.map_toArray, List.map_cons, List.map_nil, hsv, hxv, hrun]
  exact hK _ _ (h v' w' h2 h3)
end

set_option maxRecDepth 100000 in
set_option maxHeartbeats 4000000 in
theorem rheader_w (seq : Int) {v us : Value} {ls : List Jr.Wr} {sl : List UInt8} {w : World} (hv : Wp w v ls) (hl : ls.length ≤ 11) (hs : Sl eb w us sl) (hsl : sl.length ≤ 100000) :
    Calls Try.prog 33 #[.int .i64 seq, v, us] w fun e w' => ∃ v, e = .returned v ∧ w'.ownsRow w.heap.size 5 1 v 128 ((Jr.head seq ls sl).map eb) ∧ Below w.heap.size w w' := by
  rw [Jr.head_eq]
  obtain ⟨a, cap, rfl, h1, h2, h3, hop⟩ := hv.open
  obtain ⟨asl, ks, hus, hs1, hs2, hs3, hs4⟩ := id hs
  subst hus
  obtain ⟨i0, hi, hz0, hz1, hz2⟩ := info_parts Try.info5
  have HOP := Lib.hid hop
  have HSR : Hid (Rd eb w asl sl) := Lib.hid hs4
  have hv5 := u8_val (ls.length : Int)
  rw [Jr.ib_small _ hl] at hv5
  have HM : Hid (Jr.mark ls = if ls = [] then 48 else 49) := rfl
  have HT : Hid (Jr.tailOf ls sl = if ls = [] then [] else sl) := rfl
  generalize Jr.mark ls = c at *
  generalize Jr.tailOf ls sl = tl at *
  clear hv hop hs hs4
  have hc0 := Go.Joins.run_convert_bytes_const_at (P := Try.prog) w 29 5 (lead 48) 4 4 w.heap.size rfl Try.underlying29 Try.underlying5
  have hc1 := Go.Joins.run_convert_bytes_const_at (P := Try.prog) (w.alloc (.cells (lead 48) 5 (4, 5))) 29 5 (lead 49) 4 4 (w.heap.size + 1) (by simp) Try.underlying29 Try.underlying5
  simp only [lead, List.size_toArray, List.length_cons, List.length_nil, Nat.reduceAdd] at hc0 hc1
  go_enter Try.func33, Try.ntmps33
  go_upto_if 15 with fail
  go_cut [7] (fun s7 W => ∃ g, s7 = .slice (some ⟨g, 0, none⟩) 4 4 ∧ W.heap[g]? = some (.cells (lead (c.toNat : Int)) 5 (4, 5)) ∧ Below w.heap.size w W)
  case first =>
    by_cases f : 0 < ls.length
    · have f1 : (0 : Int) < (ls.length : Int) := by omega
      have hc : c = 49 := HM.out.trans (if_neg (fun e => by rw [e] at f; simp at f))
      have HC := Lib.hid hc
      clear hc
      go_wp2_with fail
      go_meet
      rw [HC.out]
      refine ⟨w.heap.size + 1, rfl, ?_, (low_alloc w _).alloc (by simp) _⟩
      rw [show w.heap.size + 1 = (w.alloc (.cells (lead 48) 5 (4, 5))).heap.size by simp]
      exact heap_alloc_new _ _
    · have f1 : ¬ (0 : Int) < (ls.length : Int) := by omega
      have hc : c = 48 := HM.out.trans (if_pos (List.eq_nil_of_length_eq_zero (by omega)))
      have HC := Lib.hid hc
      clear hc
      go_wp2_with fail
      go_meet
      rw [HC.out]
      exact ⟨w.heap.size, rfl, heap_alloc_new _ _, low_alloc w _⟩
  case rest =>
    rename World => W2
    obtain ⟨g, rfl, hg2, hb2⟩ := hcut
    have hsz2 := hb2.size
    have HG2 : Hid (∀ o, (W2.alloc o).heap[g]? = some (.cells (lead (c.toNat : Int)) 5 (4, 5))) := fun o => (Below.heap_alloc W2 o g (Array.getElem?_eq_some_iff.1 hg2).1).trans hg2
    have HB2 := Lib.hid hb2
    clear hg2 hb2 hc0 hc1
    go_upto_region 5 with (at_builtin; refine wpList_append_full rfl _ _ 29 rfl w.heap.size 5 i0 (.int .u8 0) 1 Try.underlying29 hi hz0 hz1 hz2 rfl g 4 [.int .u8 74, .int .u8 82, .int .u8 78, .int .u8 c.toNat] rfl rfl (4, 5) (HG2.out _) W2.heap.size (.int .u8 ((UInt8.ofNat ls.length).toNat : Int)) rfl (by rw [cell_of_row _ _ _ _ _ _ (heap_alloc_new W2 _)]; rfl) rfl (by unfold maxLen; omega) (by decide) (by simp; omega) ?_; intro v4 W4 ho4 hb4)
    have HO4 : Hid (W4.ownsRow w.heap.size 5 1 v4 (5 + 0) ((Jr.row c (ls.map Prod.fst) 0).map eb)) := by
      have e : (Jr.row c (ls.map Prod.fst) 0).map eb = [.int .u8 74, .int .u8 82, .int .u8 78, .int .u8 c.toNat] ++ [.int .u8 ((UInt8.ofNat ls.length).toNat : Int)] := by simp [Jr.row, eb]
      rw [e]
      exact ho4
    have HB4 := Lib.hid ((HB2.out.alloc hsz2 _).trans hb4)
    clear ho4 hb4
    go_wp2_with fail
    go_loopw [7, 8, 9] (fun s7 i _ wr => ∃ (k : Nat) (v : Value), v = s7 ∧ i = .int .i64 k ∧ k ≤ 11 ∧ wr.ownsRow w.heap.size 5 1 v (5 + k) ((Jr.row c (ls.map Prod.fst) k).map eb) ∧ Below w.heap.size w wr) (fun _ i _ _ => 11 - (intOf i).toNat)
    case atStart => exact ⟨0, _, rfl, rfl, Nat.zero_le _, HO4.out, HB4.out⟩
    case round =>
      obtain ⟨k, v, rfl, rfl, hk, ho, hbl⟩ := hrel
      obtain ⟨a1, c1, rfl⟩ := own_slice ho
      by_cases hlt : k < 11
      · have HST := Lib.hid (Jr.row_step c (ls.map Prod.fst) k)
        have HRL := Lib.hid (Jr.row_len c (ls.map Prod.fst) k)
        have hbs := hbl.size
        have HBL := Lib.hid hbl
        have HO := Lib.hid ho
        by_cases hkl : k < ls.length
        · obtain ⟨b, off, a', c', rfl, hbw, ⟨x0, x1⟩, -⟩ := HOP.out k hkl
          have y0 : wr.cell? ⟨b, off + k * 2, none⟩ = some (.int .i64 ls[k].1) := by rw [hbl.cell (p := ⟨b, off + k * 2, none⟩) hbw]; exact x0
          have hv := u8_val ls[k].1
          have hst := HST.out
          rw [dif_pos (by simpa using hkl)] at hst
          simp only [List.getElem_map] at hst
          have HST2 := Lib.hid hst
          generalize ls[k].1 = n at *
          generalize Jr.ib n = q at *
          have f1 : (0 : Int) ≤ (k : Int) := by omega
          have f2 : (k : Int) < (ls.length : Int) := by omega
          clear x0 x1 hst HST ho hbl
          go_wp2_with (at_builtin; refine wpList_append_rd eb (fun _ => rfl) rfl _ _ 29 rfl w.heap.size 5 i0 (.int .u8 0) 1 Try.underlying29 hi hz0 hz1 hz2 rfl (.slice a1 (5 + k) c1) (5 + k) (Jr.row c (ls.map Prod.fst) k) rfl (HO.out.alloc _) (some ⟨wr.heap.size, 0, none⟩) 1 [q] 1 rfl rfl (by simp) (by omega) (Rd.one eb wr q _ _) (by unfold maxLen; omega) (by omega) (by simp; omega) ?_; intro v7 w7 ho7 hs7 hb7)
          go_roundw
          case rel => exact ⟨k + 1, _, rfl, by go_num, by omega, by rw [HST2.out]; exact ho7, (HBL.out.alloc hbs _).trans hb7⟩
          case measure => simp [intOf]; omega
        · have hst := HST.out
          rw [dif_neg (by simpa using hkl)] at hst
          have HST2 := Lib.hid hst
          have f2 : ¬ (k : Int) < (ls.length : Int) := by omega
          clear hst HST ho hbl
          go_wp2_with (at_builtin; refine wpList_append_rd eb (fun _ => rfl) rfl _ _ 29 rfl w.heap.size 5 i0 (.int .u8 0) 1 Try.underlying29 hi hz0 hz1 hz2 rfl (.slice a1 (5 + k) c1) (5 + k) (Jr.row c (ls.map Prod.fst) k) rfl (HO.out.alloc _) (some ⟨wr.heap.size, 0, none⟩) 1 [(0 : UInt8)] 1 rfl rfl (by simp) (by omega) (Rd.one eb wr (0 : UInt8) _ _) (by unfold maxLen; omega) (by omega) (by simp; omega) ?_; intro v7 w7 ho7 hs7 hb7)
          go_roundw
          case rel => exact ⟨k + 1, _, rfl, by go_num, by omega, by rw [HST2.out]; exact ho7, (HBL.out.alloc hbs _).trans hb7⟩
          case measure => simp [intOf]; omega
      · obtain rfl : k = 11 := by omega
        have hq := word_val seq
        have hrow : Jr.row c (ls.map Prod.fst) 11 ++ Jr.num (Sum.word seq) 4 = Jr.pre c (ls.map Prod.fst) seq := rfl
        have HROW := Lib.hid hrow
        have HO := Lib.hid ho
        have HBL := Lib.hid hbl
        have HN := Lib.hid (fun W => number_w (Sum.word seq) 4 (by omega) W)
        have h4l : (Jr.num (Sum.word seq) 4).length = 4 := Jr.num_len _ _
        have H4L := Lib.hid h4l
        clear hrow ho hbl h4l
        go_upto_region 13 with (first
          | (go_at_call 44; refine (HN.out _).mono ?_; rintro e w5 ⟨v5, rfl, ho5, hb5⟩)
          | (at_builtin; refine wpList_append_sl eb (fun _ => rfl) rfl _ _ 29 rfl w.heap.size 5 i0 (.int .u8 0) 1 Try.underlying29 hi hz0 hz1 hz2 rfl (.slice a1 (5 + 11) c1) (5 + 11) (Jr.row c (ls.map Prod.fst) 11) rfl (own_below HO.out hb5) v5 (Jr.num (Sum.word seq) 4) rfl (Sl.ofOwn ho5) (by rw [H4L.out]; unfold maxLen; omega) (by rw [H4L.out]; omega) (Nat.le_trans HBL.out.size hb5.size) ?_; intro v7 w7 ho7 hs7 hb7))
        rw [HROW.out, H4L.out] at ho7
        have hbl7 := (HBL.out.trans (hb5.mono HBL.out.size)).trans hb7
        obtain ⟨a7, c7, rfl⟩ := own_slice ho7
        have HO7 := Lib.hid ho7
        have HB7 := Lib.hid hbl7
        have hs7z := hbl7.size
        have HPL := Lib.hid (Jr.pre_len' c (ls.map Prod.fst) seq)
        clear ho5 hb5 hs7 hb7 ho7 hbl7 hq
        -- the copy of the row
        have HX7 : Hid (∀ o, Sl eb (w7.alloc o) (.slice a7 20 c7) (Jr.pre c (ls.map Prod.fst) seq)) := fun o => own_sl HO7.out (low_alloc _ _)
        go_upto_region 14 with (at_builtin; refine wpList_append_sl eb (fun _ => rfl) rfl _ _ 29 rfl w7.heap.size 5 i0 (.int .u8 0) 1 Try.underlying29 hi hz0 hz1 hz2 rfl _ 0 [] rfl (World.ownsRow_made w7 #[] 0 (Nat.le_refl _) (Nat.zero_le _) rfl) (.slice a7 20 c7) (Jr.pre c (ls.map Prod.fst) seq) rfl (HX7.out _) (by rw [HPL.out]; unfold maxLen; omega) (by rw [HPL.out]; omega) (by simp) ?_; intro v8 w8 ho8 hs8 hb8)
        rw [HPL.out, Nat.zero_add, List.nil_append] at ho8
        have hbl8 := (low_alloc w7 _).trans hb8
        clear hs8 hb8
        obtain ⟨a8, c8, rfl⟩ := own_slice ho8
        have HO8 := Lib.hid ho8
        have HB8 := Lib.hid hbl8
        clear ho8 hbl8
        go_upto_if 52 with fail
        go_cut [10] (fun s10 W => ∃ v, v = s10 ∧ W.ownsRow w7.heap.size 5 1 v (20 + tl.length) ((Jr.pre c (ls.map Prod.fst) seq ++ tl).map eb) ∧ Below w7.heap.size w7 W)
        case first =>
          by_cases f : 0 < ls.length
          · have f1 : (0 : Int) < (ls.length : Int) := by omega
            have hc : tl = sl := HT.out.trans (if_neg (fun e => by rw [e] at f; simp at f))
            have HC := Lib.hid hc
            clear hc
            go_wp2_with (at_builtin; refine wpList_append_sl eb (fun _ => rfl) rfl _ _ 29 rfl w7.heap.size 5 i0 (.int .u8 0) 1 Try.underlying29 hi hz0 hz1 hz2 rfl (.slice a8 20 c8) 20 (Jr.pre c (ls.map Prod.fst) seq) rfl HO8.out (.slice asl sl.length ks) sl rfl ⟨asl, ks, rfl, hs1, hs2, hs3, HSR.out.below (HB7.out.trans (HB8.out.mono hs7z)) (Nat.le_refl _)⟩ (by unfold maxLen; omega) (by omega) HB8.out.size ?_; intro v9 w9 ho9 hs9 hb9)
            go_meet
            rw [HC.out]
            exact ⟨_, rfl, ho9, HB8.out.trans hb9⟩
          · have f1 : ¬ (0 : Int) < (ls.length : Int) := by omega
            have hc : tl = [] := HT.out.trans (if_pos (List.eq_nil_of_length_eq_zero (by omega)))
            have HC := Lib.hid hc
            clear hc
            go_wp2_with fail
            go_meet
            rw [HC.out]
            exact ⟨_, rfl, by simpa using HO8.out, HB8.out⟩
        case rest =>
          rename World => W9
          obtain ⟨v9, rfl, ho9, hb9⟩ := hcut
          obtain ⟨a9, c9, rfl⟩ := own_slice ho9
          have h9 : Sl eb W9 (.slice a9 (20 + tl.length) c9) (Jr.pre c (ls.map Prod.fst) seq ++ tl) := Sl.ofOwn ho9
          have HOF := Lib.hid (rof_w h9)
          have HN8 := Lib.hid (fun W => number_w (Sum.of (Jr.pre c (ls.map Prod.fst) seq ++ tl)) 8 (by omega) W)
          have h8l : (Jr.num (Sum.of (Jr.pre c (ls.map Prod.fst) seq ++ tl)) 8).length = 8 := Jr.num_len _ _
          have H8L := Lib.hid h8l
          have hmk : Jr.pre c (ls.map Prod.fst) seq ++ Jr.num (Sum.of (Jr.pre c (ls.map Prod.fst) seq ++ tl)) 8 ++ List.replicate 100 0 = Jr.mk c (ls.map Prod.fst) seq tl := rfl
          have HMK := Lib.hid hmk
          have HB9 := Lib.hid hb9
          generalize Sum.of (Jr.pre c (ls.map Prod.fst) seq ++ tl) = q at *
          clear h9 h8l hmk ho9 hb9
          go_upto_region 17 with (first
            | (go_at_call 45; refine HOF.out.mono ?_; rintro e w10 ⟨rfl, hb10⟩)
            | (go_at_call 44; refine (HN8.out _).mono ?_; rintro e w11 ⟨v11, rfl, ho11, hb11⟩)
            | (at_builtin; refine wpList_append_sl eb (fun _ => rfl) rfl _ _ 29 rfl w.heap.size 5 i0 (.int .u8 0) 1 Try.underlying29 hi hz0 hz1 hz2 rfl (.slice a7 20 c7) 20 (Jr.pre c (ls.map Prod.fst) seq) rfl (own_below HO7.out (low_trans (low_trans HB9.out hb10) hb11)) v11 (Jr.num q 8) rfl (Sl.ofOwn ho11) (by rw [H8L.out]; unfold maxLen; omega) (by rw [H8L.out]; omega) (Nat.le_trans hs7z (low_trans (low_trans HB9.out hb10) hb11).size) ?_; intro v12 w12 ho12 hs12 hb12))
          rw [H8L.out] at ho12
          have hbl12 := (low_trans HB7.out (low_trans (low_trans HB9.out hb10) hb11)).trans hb12
          obtain ⟨a12, c12, rfl⟩ := own_slice ho12
          have HO12 := Lib.hid ho12
          have HB12 := Lib.hid hbl12
          have hs12z := hbl12.size
          clear hb10 ho11 hb11 ho12 hs12 hb12 hbl12
          go_wp2_with (at_builtin; refine wpList_append_make rfl _ _ 29 3 rfl w.heap.size 5 i0 (.int .u8 0) .i64 .i64 Try.underlying29 Try.underlying3 hi hz0 hz1 hz2 rfl rfl (.slice a12 (20 + 8) c12) (20 + 8) _ rfl HO12.out 100 rfl (by omega) (by omega) (by omega) hs12z ?_; intro v13 w13 ho13 hb13)
          go_ret
          refine ⟨_, rfl, ?_, HB12.out.trans hb13⟩
          rw [← HMK.out, List.map_append, List.map_replicate]
          exact ho13
end Go.Proofs.Ytcbgablnbgpjdaa
