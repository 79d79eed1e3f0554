/-
  The walks of Write, Read and Truncate of inodes.
-/
import Derived.Test.YtbklmpekpcneeaaBg
import Derived.Deep.CutBlock
set_option linter.unusedVariables false
set_option linter.unusedSimpArgs false
set_option maxRecDepth 100000
namespace Nd
theorem fm128 (f : Nat → List UInt8) : ∀ n, (∀ i, i < n → (f i).length = 128) → ((List.range n).flatMap f).length = 128 * n ∧ ∀ t, t < 128 * n → g ((List.range n).flatMap f) t = g (f (t / 128)) (t % 128)
  | 0, _ => ⟨rfl, fun t h => absurd h (by omega)⟩
  | n + 1, h => by
    obtain ⟨h1, h2⟩ := fm128 f n fun i hi => h i (by omega)
    rw [List.range_succ, List.flatMap_append]
    have e : List.flatMap f [n] = f n := by simp
    rw [e]
    refine ⟨by rw [List.length_append, h1, h n (by omega)]; omega, fun t ht => ?_⟩
    unfold g
    rw [List.getD_eq_getElem?_getD, List.getElem?_append, h1]
    by_cases c : t < 128 * n
    · rw [if_pos c]
      have := h2 t c
      unfold g at this
      rw [List.getD_eq_getElem?_getD] at this
      exact this
    · rw [if_neg c, show t / 128 = n by omega, show t - 128 * n = t % 128 by omega, List.getD_eq_getElem?_getD]
/-- One block of a content. -/
def cb (d : List UInt8) (x : Ino) (i : Nat) : List UInt8 := if bk x i = 0 then List.replicate 128 0 else Jr.blk d (bk x i)
theorem whole_cb (d : List UInt8) (x : Ino) : whole d x = (List.range 12).flatMap (cb d x) := rfl
section
variable {d : List UInt8} {x : Ino} (hd : d.length = 12288) (hb : ∀ i, i < 12 → bk x i < 96)
include hd hb
theorem cb_len {i : Nat} (hi : i < 12) : (cb d x i).length = 128 := by
  unfold cb
  split
  · simp
  · exact blk_len hd (hb i hi)
omit hd hb in
theorem cb_g (i : Nat) {j : Nat} (hj : j < 128) : g (cb d x i) j = if bk x i = 0 then 0 else g d (128 * bk x i + j) := by
  unfold cb
  split
  · exact g_rep 128 j
  · rw [g_blk hj, Nat.mul_comm]
theorem whole_len : (whole d x).length = 1536 := (fm128 (cb d x) 12 fun i hi => cb_len hd hb hi).1
theorem whole_g {t : Nat} (ht : t < 1536) : g (whole d x) t = if bk x (t / 128) = 0 then 0 else g d (128 * bk x (t / 128) + t % 128) := by
  rw [whole_cb, (fm128 (cb d x) 12 fun i hi => cb_len hd hb hi).2 t (by omega), cb_g _ (Nat.mod_lt _ (by decide))]
theorem content_len (hs : x.size ≤ 1536) : (content d x).length = x.size := by unfold content; rw [List.length_take, whole_len hd hb]; omega
theorem content_g (hs : x.size ≤ 1536) {t : Nat} (ht : t < x.size) : g (content d x) t = if bk x (t / 128) = 0 then 0 else g d (128 * bk x (t / 128) + t % 128) := by
  rw [← whole_g hd hb (show t < 1536 by omega)]
  unfold content g
  rw [List.getD_eq_getElem?_getD, List.getElem?_take, if_pos ht, ← List.getD_eq_getElem?_getD]
end
/-- What content of the reference has appended behind k rounds. -/
def rcTo (d : List UInt8) (x : Ino) (k : Nat) : List UInt8 := (List.range k).flatMap (cb d x)
theorem rcTo_zero (d : List UInt8) (x : Ino) : rcTo d x 0 = [] := rfl
theorem rcTo_step (d : List UInt8) (x : Ino) (k : Nat) : rcTo d x (k + 1) = rcTo d x k ++ cb d x k := by
  unfold rcTo
  rw [List.range_succ, List.flatMap_append]
  simp
theorem rcTo_all (d : List UInt8) (x : Ino) : rcTo d x 12 = whole d x := rfl
theorem rcTo_len {d : List UInt8} {x : Ino} (hd : d.length = 12288) (hb : ∀ i, i < 12 → bk x i < 96) {k : Nat} (hk : k ≤ 12) : (rcTo d x k).length = 128 * k := (fm128 (cb d x) k fun i hi => cb_len hd hb (by omega)).1
/-- What content of the view has copied behind k rounds. -/
def vcF (d : List UInt8) (x : Ino) (k i : Nat) : List UInt8 := if i < k then cb d x i else List.replicate 128 0
def vcTo (d : List UInt8) (x : Ino) (P k : Nat) : List UInt8 := (List.range P).flatMap (vcF d x k)
section
variable {d : List UInt8} {x : Ino} (hd : d.length = 12288) (hb : ∀ i, i < 12 → bk x i < 96) {P : Nat} (hP : P ≤ 12)
include hd hb hP
theorem vcF_len (k : Nat) {i : Nat} (hi : i < P) : (vcF d x k i).length = 128 := by
  unfold vcF
  split
  · exact cb_len hd hb (by omega)
  · simp
theorem vcTo_len (k : Nat) : (vcTo d x P k).length = 128 * P := (fm128 (vcF d x k) P fun i hi => vcF_len hd hb hP k hi).1
theorem vcTo_g (k : Nat) {t : Nat} (ht : t < 128 * P) : g (vcTo d x P k) t = if t / 128 < k then g (cb d x (t / 128)) (t % 128) else 0 := by
  have h := (fm128 (vcF d x k) P fun i hi => vcF_len hd hb hP k hi).2 t ht
  unfold vcTo
  rw [h]
  unfold vcF
  split
  · rfl
  · exact g_rep 128 _
theorem vcTo_zero : vcTo d x P 0 = List.replicate (P * 128) 0 := by
  refine ext_g (by rw [vcTo_len hd hb hP, List.length_replicate]; omega) fun i hi => ?_
  rw [vcTo_len hd hb hP] at hi
  rw [vcTo_g hd hb hP 0 hi, if_neg (by omega), g_rep]
theorem vcTo_skip {k : Nat} (h : bk x k = 0) : vcTo d x P (k + 1) = vcTo d x P k := by
  refine ext_g (by rw [vcTo_len hd hb hP, vcTo_len hd hb hP]) fun i hi => ?_
  rw [vcTo_len hd hb hP] at hi
  rw [vcTo_g hd hb hP _ hi, vcTo_g hd hb hP _ hi]
  by_cases c : i / 128 < k
  · rw [if_pos c, if_pos (by omega)]
  · rw [if_neg c]
    by_cases e : i / 128 = k
    · rw [if_pos (by omega), e, cb_g k (Nat.mod_lt _ (by decide)), if_pos h]
    · rw [if_neg (by omega)]
theorem vcTo_put {k : Nat} (hk : k < P) (h : bk x k ≠ 0) : Jr.put (vcTo d x P k) (k * 128) (Jr.blk d (bk x k)) = vcTo d x P (k + 1) := by
  have hbl := blk_len hd (hb k (by omega))
  have hfit : k * 128 + (Jr.blk d (bk x k)).length ≤ (vcTo d x P k).length := by rw [hbl, vcTo_len hd hb hP]; omega
  refine ext_g (by rw [put_len hfit, vcTo_len hd hb hP, vcTo_len hd hb hP]) fun i hi => ?_
  rw [put_len hfit, vcTo_len hd hb hP] at hi
  rw [g_put hfit, hbl, vcTo_g hd hb hP _ hi, vcTo_g hd hb hP _ hi]
  by_cases c : k * 128 ≤ i ∧ i < k * 128 + 128
  · rw [if_pos c, if_pos (by omega), show i / 128 = k by omega, show i - k * 128 = i % 128 by omega]
    unfold cb
    rw [if_neg h]
  · rw [if_neg c]
    by_cases e : i / 128 < k
    · rw [if_pos e, if_pos (by omega)]
    · rw [if_neg e, if_neg (by omega)]
theorem vcTo_end (hs : x.size ≤ 128 * P) : (vcTo d x P 12).take x.size = content d x := by
  have h1 : (content d x).length = x.size := content_len hd hb (by omega)
  have h2 : ((vcTo d x P 12).take x.size).length = x.size := by rw [List.length_take, vcTo_len hd hb hP]; omega
  refine ext_g (by rw [h1, h2]) fun i hi => ?_
  rw [h2] at hi
  have e : g ((vcTo d x P 12).take x.size) i = g (vcTo d x P 12) i := by
    unfold g
    rw [List.getD_eq_getElem?_getD, List.getElem?_take, if_pos hi, ← List.getD_eq_getElem?_getD]
  rw [e, vcTo_g hd hb hP 12 (by omega), if_pos (by omega), content_g hd hb (by omega) hi, cb_g _ (Nat.mod_lt _ (by decide))]
end
/-- Read. -/
theorem read_get {d : List UInt8} {n o c : Int} (h : (get d n).2 ≠ 0) : read d n o c = ([], (get d n).2) := if_pos h
theorem read_neg {d : List UInt8} {m : Nat} {o c : Int} (h : (get d (m : Int)).2 = 0) (ho : o < 0 ∨ c < 0) : read d (m : Int) o c = ([], 1) := by unfold read; rw [if_neg (by simp [h]), if_pos ho]
theorem read_yes {d : List UInt8} {m o c : Nat} (h : (get d (m : Int)).2 = 0) : read d (m : Int) (o : Int) (c : Int) = (((content d (raw d m)).drop o).take c, 0) := by unfold read; rw [if_neg (by simp [h]), if_neg (by omega)]; rfl
end Nd
namespace Nd
theorem write_fits {d : List UInt8} {m o : Nat} {s : List UInt8} (hb : ¬ most (raw d m) < o + s.length) : ¬ ((if (raw d m).kind = 2 then (128 : Int) else 1536) < o ∨ (if (raw d m).kind = 2 then (128 : Int) else 1536) - o < s.length) := by
  unfold most at hb
  split at hb
  · rename_i hk; rw [if_pos hk]; omega
  · rename_i hk; rw [if_neg hk]; omega
theorem write_no {d : List UInt8} {m o : Nat} {s : List UInt8} (h : (get d (m : Int)).2 = 0) (hs : s ≠ []) (hb : ¬ most (raw d m) < o + s.length) (ht : (takeN (bits d) (fresh (raw d m) o s.length).length).2.2 ≠ 0) : write d (m : Int) (o : Int) s = ([], 13) := by
  unfold write
  rw [if_neg (by simp [h])]
  simp only [Int.toNat_natCast]
  rw [if_neg (by omega), if_neg hs, if_neg (write_fits hb), if_pos ht]
theorem most_le (x : Ino) : most x ≤ 1536 := by unfold most; split <;> omega
section
variable {d : List UInt8} {x : Ino} (hx : x.bl.length = 12) (hbk : ∀ i, i < 12 → bk x i = 0 ∨ (18 ≤ bk x i ∧ bk x i < 96)) {o N : Nat} {r : List Nat} (hr : r.length = (fresh x o N).length) (hr2 : ∀ k ∈ r, 18 ≤ k ∧ k < 96)
include hx hbk hr hr2
theorem fill_blk (h1536 : o + N ≤ 1536) {t : Nat} (h1 : o ≤ t) (h2 : t < o + N) : 18 ≤ bk (fill x (fresh x o N) r) (t / 128) ∧ bk (fill x (fresh x o N) r) (t / 128) < 96 := by
  have hf12 : ∀ i ∈ fresh x o N, i < x.bl.length := fun i hi => by rw [hx]; exact (fresh_mem.1 hi).1
  by_cases hm : t / 128 ∈ fresh x o N
  · exact hr2 _ (fill_in _ _ hf12 (fresh_nodup _ _ _) hr.symm _ hm)
  · rw [fill_out _ _ hf12 _ hm]
    have h0 : bk x (t / 128) ≠ 0 := fun e => hm (fresh_mem.2 ⟨by omega, by omega, by omega, e⟩)
    rcases hbk (t / 128) (by omega) with h | h
    · exact absurd h h0
    · exact h
end
theorem fill_step {x : Ino} {f r : List Nat} (h : r.length = f.length) {k : Nat} (hk : k < f.length) : fill x (f.take (k + 1)) (r.take (k + 1)) = setBl (fill x (f.take k) (r.take k)) f[k] (r[k]'(by omega)) := by
  rw [List.take_succ_eq_append_getElem hk, List.take_succ_eq_append_getElem (by omega), fill_snoc _ _ _ _ (by rw [List.length_take, List.length_take, h])]
theorem zeroL_step (d : List UInt8) {r : List Nat} {k : Nat} (hk : k < r.length) : zeroL d (r.take (k + 1)) = zeroB (zeroL d (r.take k)) r[k] := by
  rw [List.take_succ_eq_append_getElem hk, zeroL_snoc]
def wroteI (x : Ino) (f r : List Nat) (n : Nat) : Ino := ⟨(fill x f r).kind, max (fill x f r).size n, (fill x f r).bl⟩
theorem write_end {d : List UInt8} (hd : d.length = 12288) (hF : Formed d) {m o : Nat} {s : List UInt8} (hm : m < 32) (h : (get d (m : Int)).2 = 0) (hs : s ≠ []) (hb : ¬ most (raw d m) < o + s.length) (hbk : ∀ i, i < 12 → bk (raw d m) i = 0 ∨ (18 ≤ bk (raw d m) i ∧ bk (raw d m) i < 96)) {r : List Nat} {b2 : List UInt8} (ht : takeN (bits d) (fresh (raw d m) o s.length).length = (r, b2, 0)) :
    write d (m : Int) (o : Int) s = (putB (doneTo (pour (fill (raw d m) (fresh (raw d m) o s.length) r) (zeroL d r) o s) ((inos d).set m (wroteI (raw d m) (fresh (raw d m) o s.length) r (o + s.length))) 32) b2, 0) := by
  have hx := (raw_enc d m).n
  obtain ⟨h1, h2, h3, h4⟩ := takeN_ok ht
  have h18 : ∀ k ∈ r, 18 ≤ k ∧ k < 96 := fun k hk => ⟨(h3 k hk).1, (h3 k hk).2.1⟩
  have hle := most_le (raw d m)
  have hzl := zeroL_len r hd fun k hk => (h18 k hk).2
  have hbl : b2.length = 12 := by rw [h4, Ex.length_puts, bits_len hd]
  rw [done_upd (by rw [pour_len, hzl]) hF hbl hm (by show (fill _ _ _).bl.length = 12; rw [(fill_same _ _ _).2.2, hx]) (fun i hi => by
    rw [pour_low s (by omega) (fun t ht1 ht2 => (fill_blk hx hbk (by rw [h1]) h18 (by omega) ht1 ht2).1) i hi]
    exact zeroL_low r hd h18 hi)]
  unfold write
  rw [if_neg (by simp [h])]
  simp only [Int.toNat_natCast]
  rw [if_neg (by omega), if_neg hs, if_neg (write_fits hb), if_neg (by rw [ht]; simp), ht]
  rfl
end Nd
namespace Go.Proofs.Ytbklmpekpcneeaa
open Go.RowKit
set_option maxRecDepth 100000

/-- A fact that does not hang on two blocks, when only these are written. -/
theorem Av.two {P : World → Prop} {w w' : World} {X : Nat → Prop} (h : Av X P w) {b g : Nat} (hb : X b) (hg : X g) (hk : ∀ j, j < w.heap.size → j ≠ b → j ≠ g → w'.heap[j]? = w.heap[j]?) : P w' := h w' fun j hj hx => hk j hj (fun e => hx (e ▸ hb)) (fun e => hx (e ▸ hg))

set_option maxHeartbeats 32000000 in
theorem vwrite_w {v u : Value} {d s : List UInt8} {w : World} (hv : Sl eb w v d) (hl : d.length ≤ 100000) (n o : Int) (hu : Sl eb w u s) (hsl : s.length ≤ 100000) : Calls Try.prog 27 #[v, .int .i64 n, .int .i64 o, u] w fun e w' =>
    ∃ v', e = .returned (.tuple #[v', .int .i64 (Nd.write d n o s).2]) ∧ Sl eb w' v' (Nd.write d n o s).1 ∧ Below w.heap.size w w' := by
  by_cases he : (Nd.get d n).2 = 0
  rotate_left
  · have HC := Lib.hid (vwith_bad hv hl n he)
    have HR := Lib.hid (Nd.write_get (o := o) (s := s) he)
    have HXN : Hid ((Nd.get d n).1.bl.length = 12) := Nd.get_blen n
    have f1 : ((Nd.get d n).2 != 0) = true := by rw [bne_iff_ne]; exact he
    obtain ⟨x, ec, hxe⟩ : ∃ x ec, Nd.get d n = (x, ec) := ⟨_, _, rfl⟩
    rw [hxe] at HXN HC HR f1
    simp only at f1
    clear he hxe
    go_enter Try.func27, Try.ntmps27
    go_wp2_with (first
      | (go_at_call 40; (with_reducible refine HC.out.mono ?_); rintro e w2 ⟨pv, rfl, hb2⟩)
      | (refine wpList_store_part rfl 42 _ _ rfl w2.heap.size 0 14 (ic x) rfl rfl 42 [.int .i64 0, .int .i64 0, .int .i64 0, .int .i64 0, .int .i64 0, .int .i64 0, .int .i64 0, .int .i64 0, .int .i64 0, .int .i64 0, .int .i64 0, .int .i64 0, .int .i64 0, .int .i64 0] (Bk.new w2 _ [.int .i64 0, .int .i64 0, .int .i64 0, .int .i64 0, .int .i64 0, .int .i64 0, .int .i64 0, .int .i64 0, .int .i64 0, .int .i64 0, .int .i64 0, .int .i64 0, .int .i64 0, .int .i64 0]) (ic_len HXN.out) (by simp) Try.sizeII (ic_one _) ?_; intro w3 hk3 hg3))
    go_ret2
    rw [HR.out]
    exact ⟨_, rfl, Sl.nil _ _, stepAny hb2 ((low_alloc w2 (.cells #[.int .i64 0, .int .i64 0, .int .i64 0, .int .i64 0, .int .i64 0, .int .i64 0, .int .i64 0, .int .i64 0, .int .i64 0, .int .i64 0, .int .i64 0, .int .i64 0, .int .i64 0, .int .i64 0] 42 (0, 0))).trans (below_of_grown hg3 (Nat.le_refl _) (low_alloc w2 (.cells #[.int .i64 0, .int .i64 0, .int .i64 0, .int .i64 0, .int .i64 0, .int .i64 0, .int .i64 0, .int .i64 0, .int .i64 0, .int .i64 0, .int .i64 0, .int .i64 0, .int .i64 0, .int .i64 0] 42 (0, 0))).size))⟩
  obtain ⟨m, rfl, hm, hx, hgd, hbk⟩ := Nd.get_some2 he
  have hd : d.length = 12288 := (Nd.get_ok he).1
  have hF : Nd.Formed d := (Nd.get_ok he).2.1
  have HXN : Hid ((Nd.raw d m).bl.length = 12) := (Nd.raw_enc d m).n
  have HWO := Lib.hid (vwith_ok hv hl m he hx)

  have HU := Lib.hid hu
  obtain ⟨au, cu, rfl, -, -, -, hru⟩ := id hu
  have HRU := Lib.hid hru
  have HNEG := Lib.hid (fun ho => Nd.write_neg (d := d) (m := m) (o := o) (s := s) he ho)
  have HNIL := Lib.hid (fun (o : Nat) => Nd.write_nil (d := d) (m := m) (o := o) he)
  have HBIG := Lib.hid (fun (o : Nat) hs hb => Nd.write_big (d := d) (m := m) (o := o) (s := s) he hs hb)
  have HNO := Lib.hid (fun (o : Nat) hs hb ht => Nd.write_no (d := d) (m := m) (o := o) (s := s) he hs hb ht)
  have HYES := Lib.hid (fun (o : Nat) hs hb (r : List Nat) (b2 : List UInt8) ht => Nd.write_end hd hF (m := m) (o := o) (s := s) hm he hs hb hbk (r := r) (b2 := b2) ht)
  have HBK := Lib.hid hbk
  have HD := Lib.hid hd
  have hmo := Nd.most_le (Nd.raw d m)
  have hxs := hgd.2.1
  have HBITS : Hid ((Nd.bits d).length = 12) := Nd.bits_len hd
  clear hv he hx hgd hbk hd hF hru hu
  generalize Nd.raw d m = x at *
  go_enter Try.func27, Try.ntmps27
  go_upto_region 4 with (first
    | (go_at_call 40; (with_reducible refine HWO.out.mono ?_); rintro e w2 ⟨a, g, cap, rfl, hvs2, hb2⟩)
    | (refine wpList_store_part rfl 42 _ _ rfl w2.heap.size 0 14 (ic x) rfl rfl 42 [.int .i64 0, .int .i64 0, .int .i64 0, .int .i64 0, .int .i64 0, .int .i64 0, .int .i64 0, .int .i64 0, .int .i64 0, .int .i64 0, .int .i64 0, .int .i64 0, .int .i64 0, .int .i64 0] (Bk.new w2 _ [.int .i64 0, .int .i64 0, .int .i64 0, .int .i64 0, .int .i64 0, .int .i64 0, .int .i64 0, .int .i64 0, .int .i64 0, .int .i64 0, .int .i64 0, .int .i64 0, .int .i64 0, .int .i64 0]) (ic_len HXN.out) (by simp) Try.sizeII (ic_one _) ?_; intro w3 hk3 hg3))
  rw [splice_all _ _ (by rw [ic_len HXN.out]; rfl)] at hk3
  have hl23 : Below w2.heap.size w2 w3 := (low_alloc w2 (.cells #[.int .i64 0, .int .i64 0, .int .i64 0, .int .i64 0, .int .i64 0, .int .i64 0, .int .i64 0, .int .i64 0, .int .i64 0, .int .i64 0, .int .i64 0, .int .i64 0, .int .i64 0, .int .i64 0] 42 (0, 0))).trans (below_of_grown hg3 (Nat.le_refl _) (low_alloc w2 (.cells #[.int .i64 0, .int .i64 0, .int .i64 0, .int .i64 0, .int .i64 0, .int .i64 0, .int .i64 0, .int .i64 0, .int .i64 0, .int .i64 0, .int .i64 0, .int .i64 0, .int .i64 0, .int .i64 0] 42 (0, 0))).size)
  have hvs := hvs2.later hl23
  have hl3 := stepAny hb2 hl23
  obtain ⟨bx, hbx⟩ : ∃ y, y = w2.heap.size := ⟨_, rfl⟩
  have hbxa : bx ≠ a := by have := hvs2.at; omega
  have hbxg : bx ≠ g := by have := hvs2.at; omega
  have hbxl : w.heap.size ≤ bx := by rw [hbx]; exact hb2.size
  rw [← hbx] at hk3 ⊢
  rw [← hbx] at hvs
  clear hbx hvs2 hl23 hg3 hb2 HWO
  have z0 : w3.cell? ⟨bx, 0, none⟩ = some (.int .i64 (x.kind : Int)) := hk3.cell 0
  have HV3 := Lib.hid hvs
  have HK3 := Lib.hid hk3
  have HL3 := Lib.hid hl3
  have hat := hvs.at
  have hbx3 := hk3.lt
  clear hvs hk3 hl3
  go_upto_region 5 with fail
  go_upto_if 35 with fail
  go_cut [13] (fun s13 W' => s13 = .int .i64 (Nd.most x : Int) ∧ W' = w3)
  case first =>
    by_cases hk : x.kind = 2
    · have f1 : ((x.kind : Int) == 2) = true := by rw [hk]; rfl
      have HM : Hid (Nd.most x = 128) := by show _ = _; unfold Nd.most; rw [if_pos hk]
      clear hk
      go_wp2_with fail
      go_meet
      exact ⟨by rw [HM.out]; rfl, rfl⟩
    · have f1 : ((x.kind : Int) == 2) = false := by rw [beq_eq_false_iff_ne]; omega
      have HM : Hid (Nd.most x = 1536) := by show _ = _; unfold Nd.most; rw [if_neg hk]
      clear hk
      go_wp2_with fail
      go_meet
      exact ⟨by rw [HM.out]; rfl, rfl⟩
  case rest =>
    obtain ⟨rfl, hwc⟩ := hcut
    rw [hwc]
    clear hwc z0
    obtain ⟨M, hM⟩ : ∃ M, Nd.most x = M := ⟨_, rfl⟩
    rw [hM] at hmo HBIG HNO HYES ⊢
    clear hM
    by_cases ho : o < 0
    · have HF := Lib.hid (HNEG.out ho)
      go_wp2_with fail
      go_ret2
      rw [HF.out]
      exact ⟨_, rfl, Sl.nil _ _, HL3.out⟩
    obtain ⟨o, rfl⟩ : ∃ t : Nat, o = t := ⟨o.toNat, by omega⟩
    have g1 : (0 : Int) ≤ (o : Int) := by omega
    clear ho HNEG
    by_cases hs0 : s = []
    · have HF : Hid (Nd.write d (m : Int) (o : Int) s = (d, 0)) := by show _ = _; rw [hs0]; exact HNIL.out o
      have f1 : ((s.length : Int) == 0) = true := by rw [hs0]; rfl
      obtain ⟨bv3, hvw3⟩ := HV3.out.vw
      have zd := hvw3.disk
      have hs3 := own_sl0 HV3.out.own HD.out
      clear hs0 hvw3
      go_wp2_with fail
      go_ret2
      rw [HF.out]
      exact ⟨_, rfl, hs3, HL3.out⟩
    have hsp : 0 < s.length := List.length_pos_iff.2 hs0
    have f1 : ((s.length : Int) == 0) = false := by rw [beq_eq_false_iff_ne]; omega
    have f2 : IntKind.i64.wrap ((M : Int) - (o : Int)) = (M : Int) - (o : Int) ∨ (M : Int) < (o : Int) := by
      by_cases h : (M : Int) < (o : Int)
      · exact .inr h
      · exact .inl (IntWalk.i64_in _ (by omega))
    by_cases hbg : M < o + s.length
    · have HF := Lib.hid (HBIG.out o hs0 hbg)
      by_cases h1 : (M : Int) < (o : Int)
      · clear hs0 f2
        go_wp2_with fail
        go_ret2
        rw [HF.out]
        exact ⟨_, rfl, Sl.nil _ _, HL3.out⟩
      · have f3 := f2.resolve_right h1
        have f4 : (M : Int) - (o : Int) < (s.length : Int) := by omega
        clear hs0 f2
        go_wp2_with fail
        go_ret2
        rw [HF.out]
        exact ⟨_, rfl, Sl.nil _ _, HL3.out⟩
    have f3 := f2.resolve_right (by omega)
    have f4 : ¬ (M : Int) < (o : Int) := by omega
    have f5 : ¬ (M : Int) - (o : Int) < (s.length : Int) := by omega
    have HNO2 := Lib.hid (fun ht => HNO.out o hs0 hbg ht)
    have HYE2 := Lib.hid (fun r b2 ht => HYES.out o hs0 hbg r b2 ht)
    have HFB := Lib.hid (fun (r : List Nat) (hr : r.length = (Nd.fresh x o s.length).length) hr2 h1536 (t : Nat) h1 h2 => Nd.fill_blk HXN.out HBK.out (o := o) (N := s.length) hr hr2 h1536 (t := t) h1 h2)
    have hfs0 := Nd.fr_start x o s.length
    obtain ⟨N, hN⟩ : ∃ N, s.length = N := ⟨_, rfl⟩
    have h1536 : o + N ≤ 1536 := by omega
    have g2 : IntKind.i64.wrap ((o : Int) / 128) = ((o / 128 : Nat) : Int) := by rw [IntWalk.i64_in _ (by omega)]; omega
    have g3 : IntKind.i64.wrap ((o : Int) + (N : Int)) = (o : Int) + (N : Int) := IntWalk.i64_in _ (by omega)
    rw [hN] at f1 f5 HNO2 HYE2 HFB hfs0 hsp hbg HU ⊢
    have HN := Lib.hid hN
    have HS0 := Lib.hid hs0
    have HFS0 := Lib.hid hfs0
    obtain ⟨i0, hi0, hz0, hz1, hz2⟩ := info_parts Try.info3
    have HPA : Hid (∀ W, Calls Try.prog 41 #[.int .i64 ((o : Int) + (N : Int))] W fun e w' => e = .returned (.int .i64 (((o + N + 127) / 128 : Nat) : Int)) ∧ W = w') := fun W => by
      have h := vparts_w (o + N) (by omega) W
      rw [Int.natCast_add] at h
      exact h
    clear hs0 f2 hN HNO HYES HBIG HNIL hfs0
    go_upto_region 15 with fail
    clear f1 f3 f4 f5
    go_wp2_with fail
    go_loopw [14, 15] (fun fv iv wr => ∃ i : Nat, iv = .int .i64 (i : Int) ∧ o / 128 ≤ i ∧ i ≤ 12 ∧ wr.ownsRow w3.heap.size 3 1 fv (Nd.fr x o N i).length ((Nd.fr x o N i).map ei) ∧ Below w3.heap.size w3 wr) (fun _ i _ => 12 - (intOf i).toNat)
    case atStart => exact ⟨o / 128, rfl, Nat.le_refl _, by omega, by rw [HFS0.out]; exact World.ownsRow_nil _ _ _ _, Below.refl _ _⟩
    case round =>
      obtain ⟨i, rfl, hi0', hi12, hof, hbl⟩ := hrel
      have HPW := Lib.hid (HPA.out wr)
      by_cases hlt : i * 128 < o + N
      · have hi : i < 12 := by omega
        have f5 : (0 : Int) ≤ (i : Int) := by omega
        have f6 : (i : Int) < 12 := by omega
        have f7 : (i : Int) < (((o + N + 127) / 128 : Nat) : Int) := by omega
        have hkb := HK3.out.below hbl HK3.out.lt
        have z0 : wr.cell? ⟨bx, 2 + i, none⟩ = some (.int .i64 ((Nd.bk x i : Nat) : Int)) := by rw [hkb.cell]; exact ic_bk HXN.out hi
        have hfs := Nd.fr_step (x := x) (off := o) (len := N) hi hi0' hlt
        have hfl : (Nd.fr x o N i).length ≤ 12 := by
          have h1 : (Nd.fr x o N i).length ≤ (List.range 12).length := by
            unfold Nd.fr Nd.fresh Nd.span
            exact Nat.le_trans (List.length_filter_le _ _) (Nat.le_trans (List.length_filter_le _ _) (List.length_filter_le _ _))
          simpa using h1
        generalize Nd.bk x i = q at *
        generalize ((o + N + 127) / 128 : Nat) = pt at *
        obtain ⟨F, hF⟩ : ∃ F, Nd.fr x o N i = F := ⟨_, rfl⟩
        rw [hF] at hof hfs hfl
        have HO := Lib.hid (hof.alloc (.cells #[.int .i64 (i : Int)] 3 (0, 0)))
        have HOF := Lib.hid hof
        have HB := Lib.hid hbl
        clear hof hbl hkb hF
        by_cases hq : q = 0
        · have f8 : ((q : Int) == 0) = true := by rw [hq]; rfl
          rw [if_pos hq] at hfs
          have HFS := Lib.hid hfs
          have hbs := HB.out.size
          clear hfs hq
          go_wp2_with (first
            | (go_at_call 41; (with_reducible refine HPW.out.mono ?_); rintro e w' ⟨rfl, rfl⟩)
            | (at_builtin; refine wpList_append_rd ei (fun _ => rfl) rfl (.tmp 75) (.tmp 77) 100 rfl w3.heap.size 3 i0 (.int .i64 0) 8 Try.underlying100 hi0 hz0 hz1 hz2 rfl _ F.length F rfl HO.out (some ⟨wr.heap.size, 0, none⟩) 1 [i] 1 rfl rfl (by simp) (by omega) (Rd.one _ _ _ _ _) (by unfold maxLen; omega) (by omega) (by simp; omega) ?_; intro v5 w5 ho5 hs5 hb5))
          have hb5' : Below w3.heap.size wr w5 := ((Below.refl _ wr).alloc hbs _).trans hb5
          go_roundw
          case rel => exact ⟨i + 1, by go_num, by omega, by omega, by rw [HFS.out, List.length_append]; exact ho5, HB.out.trans hb5'⟩
          case measure => simp [intOf]; omega
        · have f8 : ((q : Int) == 0) = false := by rw [beq_eq_false_iff_ne]; omega
          rw [if_neg hq] at hfs
          have HFS := Lib.hid hfs
          clear hfs hq
          go_wp2_with (go_at_call 41; (with_reducible refine HPW.out.mono ?_); rintro e w' ⟨rfl, rfl⟩)
          go_roundw
          case rel => exact ⟨i + 1, by go_num, by omega, by omega, by rw [HFS.out]; exact HOF.out, HB.out⟩
          case measure => simp [intOf]; omega
      · have f7 : ¬ (i : Int) < (((o + N + 127) / 128 : Nat) : Int) := by omega
        have hfe := Nd.fr_end (x := x) (off := o) (len := N) (i := i) (by omega)
        rw [hfe] at hof
        have hfl : (Nd.fresh x o N).length ≤ 12 := by
          have h1 : (Nd.fresh x o N).length ≤ (List.range 12).length := by
            unfold Nd.fresh Nd.span
            exact Nat.le_trans (List.length_filter_le _ _) (List.length_filter_le _ _)
          simpa using h1
        have hf12 : ∀ j ∈ Nd.fresh x o N, j < 12 := fun j hj => (Nd.fresh_mem.1 hj).1
        generalize Nd.fresh x o N = f at *
        generalize ((o + N + 127) / 128 : Nat) = pt at *
        clear hfe hi0' hi12 hlt
        obtain ⟨af, cf, hfv⟩ := own_slice hof
        subst hfv
        have HV4 := Lib.hid (HV3.out.later hbl)
        have HK4 := Lib.hid (HK3.out.below hbl HK3.out.lt)
        have HL4 := Lib.hid (stepAny HL3.out hbl)
        have HOF := Lib.hid (own_fresh (enc := ei) hof)
        have htk := HV4.out.take (by have := hbl.size; omega) HBITS.out f.length (by omega)
        have hbls := hbl.size
        clear hof hbl HV3 HK3 HL3 HFS0
        by_cases ht : (Nd.takeN (Nd.bits d) f.length).2.2 = 0
        rotate_left
        · have HF := Lib.hid (HNO2.out ht)
          have HTK : Hid (Calls Try.prog 62 #[.pointer (some ⟨a, 0, none⟩), .int .i64 (f.length : Int)] wr fun e w' => e = .returned (.tuple #[.slice none 0 0, .bool false]) ∧ Below wr.heap.size wr w') := htk.mono fun e w' h => by
            rcases h with ⟨-, h1, h2⟩ | ⟨h, -⟩
            · exact ⟨h1, h2⟩
            · exact absurd h ht
          clear htk ht HNO2 HYE2
          go_wp2_with (first
            | (go_at_call 41; (with_reducible refine HPW.out.mono ?_); rintro e w' ⟨rfl, rfl⟩)
            | (go_at_call 62; (with_reducible refine HTK.out.mono ?_); rintro e w5 ⟨rfl, hb5⟩))
          go_ret2
          rw [HF.out]
          exact ⟨_, rfl, Sl.nil _ _, stepAny HL4.out hb5⟩
        obtain ⟨r, b2, tc, hte⟩ : ∃ r b2 tc, Nd.takeN (Nd.bits d) f.length = (r, b2, tc) := ⟨_, _, _, rfl⟩
        rw [hte] at ht htk
        simp only at ht htk
        subst ht
        obtain ⟨hrl, -, hr3, hb2e⟩ := Nd.takeN_ok hte
        have hr18 : ∀ k ∈ r, 18 ≤ k ∧ k < 96 := fun k hk => ⟨(hr3 k hk).1, (hr3 k hk).2.1⟩
        have HEND := Lib.hid (HYE2.out r b2 hte)
        have HFB2 := Lib.hid (fun (t : Nat) h1 h2 => HFB.out r hrl hr18 h1536 t h1 h2)
        have HB2 : Hid (b2.length = 12) := by show _ = _; rw [hb2e, Ex.length_puts]; exact HBITS.out
        have HTK : Hid (Calls Try.prog 62 #[.pointer (some ⟨a, 0, none⟩), .int .i64 (f.length : Int)] wr fun e w' => ∃ ar cr, e = .returned (.tuple #[.slice ar f.length cr, .bool true]) ∧ Av (fun b => b < wr.heap.size) (fun W => Sl ei W (.slice ar f.length cr) r) w' ∧ Vs w.heap.size bx w' a g cap (Nd.inos d) d b2 ∧ But a wr w') := htk.mono fun e w' h => by
          rcases h with ⟨h, -⟩ | ⟨-, v1, h1, h2, h3, h4⟩
          · exact absurd rfl h
          · obtain ⟨a2, c2, rfl, -⟩ := id h2.here
            rw [hrl] at h1 h2
            exact ⟨a2, c2, h1, h2, h3, h4⟩
        clear htk hte hr3 hb2e HNO2 HYE2 HFB
        go_upto_region 22 with (first
          | (go_at_call 41; (with_reducible refine HPW.out.mono ?_); rintro e w' ⟨rfl, rfl⟩)
          | (go_at_call 62; (with_reducible refine HTK.out.mono ?_); rintro e w5 ⟨ar, cr, rfl, hs5, hv5, hb5⟩))
        have hk5 := HK4.out.keep (hb5.rest bx HK4.out.lt hbxa)
        have HOF5 : Hid (Av (fun b => b < w3.heap.size) (fun W => Sl ei W (.slice af f.length cf) f) w5) := HOF.out.keep hb5.size fun b hb hne => hb5.rest b hb (by have h : ¬ b < w3.heap.size := hne; omega)
        have HSR5 := Lib.hid hs5
        have hl5 : Below w.heap.size w w5 := HL4.out.trans (hb5.low.mono hat.2.1)
        have hbx4 : bx < wr.heap.size := by omega
        have hg4 : g < wr.heap.size := by omega
        have hbx5 : bx < w5.heap.size := hk5.lt
        have HSZ5 : Hid (w3.heap.size ≤ w5.heap.size) := Nat.le_trans hbls hb5.size
        have HF0 : Hid (Nd.fill x (f.take 0) (r.take 0) = x ∧ Nd.zeroL d (r.take 0) = d) := ⟨by unfold Nd.fill; rfl, rfl⟩
        have HV5 : Hid (Vs w.heap.size bx w5 a g cap (Nd.inos d) (Nd.zeroL d (r.take 0)) b2) := by rw [HF0.out.2]; exact hv5
        have HK5 : Hid (Bk w5 bx 42 (ic (Nd.fill x (f.take 0) (r.take 0)))) := by rw [HF0.out.1]; exact hk5
        have HL5 := Lib.hid hl5
        have HFS := Lib.hid (fun k hk => Nd.fill_step (x := x) (f := f) (r := r) hrl (k := k) hk)
        have HZS := Lib.hid (fun k (hk : k < r.length) => Nd.zeroL_step d (r := r) (k := k) hk)
        have HZL : Hid (∀ k, (Nd.zeroL d (r.take k)).length = 12288) := fun k => Nd.zeroL_len _ HD.out fun j hj => (hr18 j (List.mem_of_mem_take hj)).2
        have HFL : Hid (∀ k, (Nd.fill x (f.take k) (r.take k)).bl.length = 12) := fun k => by rw [(Nd.fill_same _ _ _).2.2]; exact HXN.out
        clear hs5 hv5 hk5 hl5 hb5 HK4 HV4 HL4 HOF HTK HPW HPA hbls
        go_upto_block 3 with fail
        go_cut [18, 19, 90] (fun _ _ _ W' => Vs w.heap.size bx W' a g cap (Nd.inos d) (Nd.zeroL d r) b2 ∧ Bk W' bx 42 (ic (Nd.fill x f r)) ∧ Below w.heap.size w W')
        case first =>
          have ef : f.take f.length = f := List.take_length
          have er : r.take f.length = r := by rw [← hrl]; exact List.take_length
          have HEF := Lib.hid ef
          have HER := Lib.hid er
          clear ef er
          by_cases hf0 : f.length = 0
          · rw [show r.take 0 = r by rw [← hf0, HER.out]] at HV5 HK5
            rw [show f.take 0 = f by rw [← hf0, HEF.out]] at HK5
            go_wp2_with fail
            go_loopw [18, 19, 90] (fun _ _ i wt => i = .int .i64 0 ∧ wt = w5) (fun _ _ _ _ => 0)
            case atStart => exact ⟨rfl, rfl⟩
            case round =>
              obtain ⟨rfl, rfl⟩ := hrel
              have f6 : ¬ (0 : Int) < (f.length : Int) := by omega
              clear hf0
              go_wp2_with fail
              go_meet
              exact ⟨HV5.out, HK5.out, HL5.out⟩
          have hf1 : 0 < f.length := by omega
          obtain ⟨bf, offf, rfl⟩ : ∃ bf offf, af = some ⟨bf, offf, none⟩ := by
            obtain ⟨af2, cf2, e1, -, -, -, hrf⟩ := HOF5.out.here
            injection e1 with e2 e3 e4
            obtain ⟨bf, offf, e, -⟩ := hrf.form hf1
            exact ⟨bf, offf, e2.trans e⟩
          obtain ⟨br, offr, rfl⟩ : ∃ br offr, ar = some ⟨br, offr, none⟩ := by
            obtain ⟨ar2, cr2, e1, -, -, -, hrr⟩ := HSR5.out.here
            injection e1 with e2 e3 e4
            obtain ⟨br, offr, e, -⟩ := hrr.form (by omega)
            exact ⟨br, offr, e2.trans e⟩
          clear hf0
          go_wp2_with fail
          go_loopw [18, 19, 90] (fun _ _ i wt => ∃ k : Nat, i = .int .i64 k ∧ k ≤ f.length ∧ Vs w.heap.size bx wt a g cap (Nd.inos d) (Nd.zeroL d (r.take k)) b2 ∧ Bk wt bx 42 (ic (Nd.fill x (f.take k) (r.take k))) ∧ Hid (∀ j, j < w5.heap.size → j ≠ bx → j ≠ g → wt.heap[j]? = w5.heap[j]?) ∧ Below w.heap.size w wt ∧ w5.heap.size ≤ wt.heap.size) (fun _ _ i _ => f.length - (intOf i).toNat)
          case atStart => exact ⟨0, rfl, Nat.zero_le _, HV5.out, HK5.out, fun _ _ _ _ => rfl, HL5.out, Nat.le_refl _⟩
          case round =>
            rename World => wt
            clear HV5 HK5 HL5 HF0
            obtain ⟨k, rfl, hk, hvt, hkt, HKE, hlt0, hsz0⟩ := hrel
            by_cases hlt : k < f.length
            · have hkr : k < r.length := by omega
              have hp12 := hf12 _ (List.getElem_mem hlt)
              have hq := hr18 _ (List.getElem_mem hkr)
              have hfs := HFS.out k hlt
              have hzs := HZS.out k hkr
              have hsf := HOF5.out.two (b := bx) (g := g) hbx3 hat.2.2.2.2.1 HKE.out
              have hsr := HSR5.out.two (b := bx) (g := g) hbx4 hg4 HKE.out
              obtain ⟨af2, cf2, e1, -, -, -, hrf⟩ := hsf
              injection e1 with e2 e3 e4
              subst e2
              obtain ⟨ar2, cr2, e1, -, -, -, hrr⟩ := hsr
              injection e1 with e2 e5 e6
              subst e2
              have hbrl := (hrr.at k hkr).1
              have hbrx := av_apart HSR5.out (by omega) (k := bx) hbx4 hbx5
              have y0 : wt.cell? ⟨bf, offf + k, none⟩ = some (.int .i64 (f[k] : Int)) := (hrf.at k hlt).2
              have y1 : wt.cell? ⟨br, offr + k, none⟩ = some (.int .i64 (r[k] : Int)) := (hrr.at k hkr).2
              have z2 : wt.cell? ⟨bx, 2 + f[k], none⟩ = some (.int .i64 ((Nd.bk (Nd.fill x (f.take k) (r.take k)) f[k] : Nat) : Int)) := by rw [hkt.cell]; exact ic_bk (HFL.out k) hp12
              have x2 := hkt.frozen (2 + f[k])
              have hk6 := hkt.set (2 + f[k]) (.int .i64 (r[k] : Int))
              rw [ic_setBl, ← hfs] at hk6
              generalize Nd.bk (Nd.fill x (f.take k) (r.take k)) f[k] = old at *
              generalize f[k] = p at *
              generalize r[k] = q at *
              have y3 : (wt.setCell ⟨bx, 2 + p, none⟩ (.int .i64 (q : Int))).cell? ⟨br, offr + k, none⟩ = some (.int .i64 (q : Int)) := (cell_far8 grown_set hbrx _ hbrl).trans y1
              have hv6 := hvt.box (grown_set (w := wt) (g := bx) (i := 2 + p) (u := .int .i64 (q : Int))) hbxa hbxg
              have hl6 : Below w.heap.size w (wt.setCell ⟨bx, 2 + p, none⟩ (.int .i64 (q : Int))) := hlt0.setCell hbxl _
              have hke6 : ∀ j, j < w5.heap.size → j ≠ bx → j ≠ g → (wt.setCell ⟨bx, 2 + p, none⟩ (.int .i64 (q : Int))).heap[j]? = w5.heap[j]? := fun j h1 h2 h3 => (Below.heap_setCell _ _ _ _ (by simpa using h2)).trans (HKE.out j h1 h2 h3)
              have hsz6 : w5.heap.size ≤ (wt.setCell ⟨bx, 2 + p, none⟩ (.int .i64 (q : Int))).heap.size := by simpa [World.setCell] using hsz0
              have HBK6 := Lib.hid (hv6.block q hq.2)
              have HV6 := Lib.hid hv6
              have HK6 := Lib.hid hk6
              have HL6 := Lib.hid hl6
              have HE6 := Lib.hid hke6
              have HZS2 := Lib.hid hzs
              have f5 : (0 : Int) ≤ (k : Int) := by omega
              have f6 : (k : Int) < (f.length : Int) := by omega
              have f7 : (0 : Int) ≤ (p : Int) := by omega
              have f8 : (p : Int) < 12 := by omega
              have hq96 : q * 128 + 128 ≤ 12288 := by omega
              clear hvt hkt hlt0 hfs hzs hrf hrr hv6 hk6 hl6 hke6 e3 e4 e5 e6 HKE hkr
              go_upto_region 26 with fail
              go_wp2_with (first
                | (go_at_call 43; (with_reducible refine HBK6.out.mono ?_); rintro e w' ⟨rfl, rfl⟩)
                | (refine wpList_clear_own8 rfl (.tmp 107) 25 rfl 5 Try.underlying25 Try.zero8 w.heap.size g 12288 cap (Nd.zeroL d (r.take k)) HV6.out.own (q * 128) 128 (cap - q * 128) rfl hq96 ?_; intro w7 ho7 hg7))
              rw [Nd.zeroB_as, ← HZS2.out] at ho7
              go_roundw
              case rel => exact ⟨k + 1, by go_num, by omega, HV6.out.row ho7 hg7, HK6.out.keep (hg7.block bx HK6.out.lt (by simpa using hbxg)), fun j h1 h2 h3 => (hg7.block j (Nat.lt_of_lt_of_le h1 hsz6) (by simpa using h3)).trans (HE6.out j h1 h2 h3), HL6.out.trans (below_of_grown hg7 hat.2.2.1 HL6.out.size), Nat.le_trans hsz6 hg7.size⟩
              case measure => simp [intOf]; omega
            · have hkf : k = f.length := by omega
              have f6 : ¬ (k : Int) < (f.length : Int) := by omega
              rw [hkf, HER.out] at hvt
              rw [hkf, HER.out, HEF.out] at hkt
              have HV8 := Lib.hid hvt
              have HK8 := Lib.hid hkt
              have HL8 := Lib.hid hlt0
              clear hvt hkt hlt0 HKE hkf hk hlt
              go_wp2_with fail
              go_meet
              exact ⟨HV8.out, HK8.out, HL8.out⟩
        case rest =>
          obtain ⟨hvt, hkt, hlt0⟩ := hcut
          rename World => wt
          have ef : f.take f.length = f := List.take_length
          have er : r.take f.length = r := by rw [← hrl]; exact List.take_length
          have hzl := HZL.out f.length
          rw [er] at hzl
          have hyl := HFL.out f.length
          rw [ef, er] at hyl
          have HYW : Hid ((ic (Nd.fill x f r)).set 1 (.int .i64 ((max (Nd.fill x f r).size (o + N) : Nat) : Int)) = ic (Nd.wroteI x f r (o + N))) := rfl
          have HWL : Hid ((Nd.wroteI x f r (o + N)).bl.length = 12) := hyl
          have hysz : (Nd.fill x f r).size ≤ 1536 := by rw [(Nd.fill_same _ _ _).2.1]; exact hxs
          generalize Nd.fill x f r = y at *
          generalize Nd.zeroL d r = D1 at *
          have HYL := Lib.hid hyl
          have HPT : Hid (∀ k (hk : k < s.length), (Nd.pour y D1 o (s.take k)).set (Nd.bk y ((o + k) / 128) * 128 + (o + k) % 128) s[k] = Nd.pour y D1 o (s.take (k + 1))) := fun k hk => Nd.pourTo_step y D1 s o hk
          have HPL : Hid (∀ k, (Nd.pour y D1 o (s.take k)).length = 12288) := fun k => by rw [Nd.pour_len]; exact hzl
          have HV8 : Hid (Vs w.heap.size bx wt a g cap (Nd.inos d) (Nd.pour y D1 o (s.take 0)) b2) := hvt
          have HK8 := Lib.hid hkt
          have HL8 := Lib.hid hlt0
          clear ef er hvt hkt hlt0 hzl hyl HOF5 HSR5 HFS HZS HZL HFL HV5 HK5 HL5 HF0
          go_upto_region 29 with fail
          go_wp2_with fail
          go_loopw [20, 21, 22, 111] (fun _ _ _ i wq => ∃ k : Nat, i = .int .i64 k ∧ k ≤ N ∧ Vs w.heap.size bx wq a g cap (Nd.inos d) (Nd.pour y D1 o (s.take k)) b2 ∧ Bk wq bx 42 (ic y) ∧ Below w.heap.size w wq) (fun _ _ _ i _ => N - (intOf i).toNat)
          case atStart => exact ⟨0, rfl, Nat.zero_le _, HV8.out, HK8.out, HL8.out⟩
          case round =>
            rename World => wq
            clear HV8 HK8 HL8
            obtain ⟨k, rfl, hk, hvq, hkq, hlq⟩ := hrel
            by_cases hlt : k < N
            · have hks : k < s.length := by rw [HN.out]; exact hlt
              have hsu := HU.out.below hlq (Nat.le_refl _)
              obtain ⟨bu, offu, rfl, -, -⟩ := hsu.addr (by omega)
              obtain ⟨au2, cu2, e1, -, -, -, hru⟩ := hsu
              injection e1 with e2 e3 e4
              subst e2
              have y0 : wq.cell? ⟨bu, offu + k, none⟩ = some (eb s[k]) := (hru.at k hks).2
              have hpt := HPT.out k hks
              have hfb := HFB2.out (o + k) (by omega) (by omega)
              have hol := HPL.out k
              have hzc : (o + k) / 128 < 12 := by omega
              have z2 : wq.cell? ⟨bx, 2 + (o + k) / 128, none⟩ = some (.int .i64 ((Nd.bk y ((o + k) / 128) : Nat) : Int)) := by rw [hkq.cell]; exact ic_bk HYL.out hzc
              obtain ⟨t, ht⟩ : ∃ t, o + k = t := ⟨_, rfl⟩
              rw [ht] at hpt hfb hzc z2
              have e5 : IntKind.i64.wrap ((o : Int) + (k : Int)) = (t : Int) := by rw [IntWalk.i64_in _ (by omega)]; omega
              have g4 : (t : Int) / 128 = ((t / 128 : Nat) : Int) := by omega
              have g5 : (t : Int) % 128 = ((t % 128 : Nat) : Int) := by omega
              have g6 : (0 : Int) ≤ (t : Int) := by omega
              have g7 : t % 128 < 128 := Nat.mod_lt _ (by decide)
              clear ht
              generalize Nd.bk y (t / 128) = q at *
              generalize t / 128 = p at *
              generalize t % 128 = rr at *
              have hidx : q * 128 + rr < 12288 := by omega
              obtain ⟨y1, x1⟩ := own_cell8 (i := q * 128 + rr) hvq.own (by rw [hol]; exact hidx) hol
              have ho6 := own_store8 (i := q * 128 + rr) (c := s[k]) hvq.own
              rw [hpt] at ho6
              have hv6 := hvq.row ho6 (grown_set (w := wq) (g := g) (i := q * 128 + rr) (u := eb s[k]))
              have hk6 : Bk (wq.setCell ⟨g, q * 128 + rr, none⟩ (eb s[k])) bx 42 (ic y) := hkq.far (by simpa using hbxg) _
              have hl6 : Below w.heap.size w (wq.setCell ⟨g, q * 128 + rr, none⟩ (eb s[k])) := hlq.setCell hat.2.2.1 _
              have HBK6 := Lib.hid (hvq.block q hfb.2)
              generalize (Nd.pour y D1 o (s.take k))[q * 128 + rr] = old at *
              generalize s[k] = cc at *
              unfold eb at y0 y1 hv6 hk6 hl6
              have HV6 := Lib.hid hv6
              have HK6 := Lib.hid hk6
              have HL6 := Lib.hid hl6
              have f5 : (0 : Int) ≤ (k : Int) := by omega
              have f6 : (k : Int) < (N : Int) := by omega
              have f7 : (0 : Int) ≤ (p : Int) := by omega
              have f8 : (p : Int) < 12 := by omega
              have f9 : (0 : Int) ≤ (rr : Int) := by omega
              have f10 : (rr : Int) < 128 := by omega
              clear hvq hkq hlq hpt hol ho6 hv6 hk6 hl6 hru e3 e4 hks
              go_wp2_with (go_at_call 43; (with_reducible refine HBK6.out.mono ?_); rintro e w' ⟨rfl, rfl⟩)
              go_roundw
              case rel => exact ⟨k + 1, by go_num, by omega, HV6.out, HK6.out, HL6.out⟩
              case measure => simp [intOf]; omega
            · have hkN : k = N := by omega
              have f6 : ¬ (k : Int) < (N : Int) := by omega
              have hst : s.take N = s := List.take_of_length_le (by rw [HN.out]; exact Nat.le_refl _)
              rw [hkN, hst] at hvq
              have hpl := HPL.out N
              rw [hst] at hpl
              have HPD := Lib.hid hpl
              obtain ⟨mx, hmx⟩ : ∃ mx, max y.size (o + N) = mx := ⟨_, rfl⟩
              rw [hmx] at HYW
              have m3 : max (y.size : Int) ((o : Int) + (N : Int)) = (mx : Int) := by omega
              have z1 : wq.cell? ⟨bx, 1, none⟩ = some (.int .i64 (y.size : Int)) := hkq.cell 1
              have x1 := hkq.frozen 1
              have hk8 := hkq.set 1 (.int .i64 (mx : Int))
              rw [HYW.out] at hk8
              have HKZ := Lib.hid hk8
              have HVZ := Lib.hid (hvq.box (grown_set (w := wq) (g := bx) (i := 1) (u := .int .i64 (mx : Int))) hbxa hbxg)
              have HLZ : Hid (Below w.heap.size w (wq.setCell ⟨bx, 1, none⟩ (.int .i64 (mx : Int)))) := hlq.setCell hbxl _
              generalize y.size = ysz at *
              clear hvq hkq hlq hk8 hpl hst hkN hmx hk hlt HPT HPL
              go_upto_region 35 with fail
              have hkz := HKZ.out
              have hvz := HVZ.out
              have hlz := HLZ.out
              generalize wq.setCell ⟨bx, 1, none⟩ (.int .i64 (mx : Int)) = w8 at *
              clear HKZ HVZ HLZ z1 x1
              generalize Nd.wroteI x f r (o + N) = yy at *
              have mm0 : (0 : Int) ≤ (m : Int) := by omega
              have mm1 : (m : Int) < 32 := by omega
              obtain ⟨bvz, hvwz⟩ := hvz.vw
              have HS4 : Hid (w8.drew.rangeAt bx 0 (ic yy)) := (hkz.keep rfl : Bk w8.drew bx 42 (ic yy)).range
              have HS5 : Hid (∀ W, w8.drew.grownBy W (some a) → W.rangeAt bx 0 (ic yy)) := fun W hW => (hkz.keep (hW.block bx hkz.lt (by simpa using hbxa)) : Bk W bx 42 (ic yy)).range
              have HVSD := Lib.hid hvz.drew
              have HVW : Hid (Vw w8.drew a (.slice (some ⟨g, 0, none⟩) 12288 cap) bvz (Nd.inos d)) := ⟨hvwz.k.keep rfl, hvwz.f⟩
              have hlaz := hvz.at.2.1
              have HL9 : Hid (∀ W, w8.drew.grownBy W (some a) → Below w.heap.size w W) := fun W hW => hlz.drew.trans (below_of_grown hW hlaz hlz.size)
              clear hkz hvz hvwz hlz
              refine wp_region_noPanic ?_
              refine wp_region_held_drew (S := fun w' => w'.rangeAt bx 0 (ic yy)) (by kernel_rfl) HS4.out (fun _ => ?_)
              refine wpAnyH_take (i := 2) (oi := ⟨some 141, _, _, _, _, _⟩) (v := .agg (ic yy).toArray) rfl (by kernel_rfl) (by kernel_rfl) (by kernel_rfl) (fun _ _ _ h => h) (yieldsIf_load_mid (by rfl) 42 _ rfl bx 0 rfl (ic yy) _ (fun _ h => h) Try.underlying42 rfl (by rw [ic_len HWL.out]; exact Try.sizeII)) HS4.out ?rew2
              (try simp only [Act.put, List.setIfInBounds_toArray, List.set_cons_zero, List.set_cons_succ])
              refine wpAnyH_take (i := 0) (oi := ⟨some 139, _, _, _, _, _⟩) (v := ?_) rfl (by kernel_rfl) (by kernel_rfl) (by kernel_rfl) (fun _ _ _ h => h) (Or.inl ⟨by rfl, ?hyw0⟩) HS4.out ?rew0
              case hyw0 => ((intro w hSw; (try dsimp only at hSw); go_simp); first | done | with_reducible rfl)
              (try simp only [Act.put, List.setIfInBounds_toArray, List.set_cons_zero, List.set_cons_succ])
              refine wpAnyH_take (i := 1) (oi := ⟨some 140, _, _, _, _, _⟩) (v := ?_) rfl (by kernel_rfl) (by kernel_rfl) (by kernel_rfl) (fun _ _ _ h => h) (Or.inl ⟨by rfl, ?hyw1⟩) HS4.out ?rew1
              case hyw1 => ((intro w hSw; (try dsimp only at hSw); go_simp); first | done | with_reducible rfl)
              (try simp only [Act.put, List.setIfInBounds_toArray, List.set_cons_zero, List.set_cons_succ])
              refine wpAnyH_take (i := 3) (oi := ⟨some 142, _, _, _, _, _⟩) (v := ?_) rfl (by kernel_rfl) (by kernel_rfl) (by kernel_rfl) (fun _ _ _ h => h) (Or.inl ⟨by rfl, ?hyw3⟩) HS4.out ?rew3
              case hyw3 => ((intro w hSw; (try dsimp only at hSw); go_simp); first | done | with_reducible rfl)
              (try simp only [Act.put, List.setIfInBounds_toArray, List.set_cons_zero, List.set_cons_succ])
              refine wpAnyH_take (i := 4) (oi := ⟨some 143, _, _, _, _, _⟩) (v := ?_) rfl (by kernel_rfl) (by kernel_rfl) (by kernel_rfl) (fun _ _ _ h => h) (Or.inl ⟨by rfl, ?hyw4⟩) HS4.out ?rew4
              case hyw4 => ((intro w hSw; (try dsimp only at hSw); go_simp); first | done | with_reducible rfl)
              (try simp only [Act.put, List.setIfInBounds_toArray, List.set_cons_zero, List.set_cons_succ])
              refine wpAnyH_take (i := 5) (oi := ⟨some 144, _, _, _, _, _⟩) (v := ?_) rfl (by kernel_rfl) (by kernel_rfl) (by kernel_rfl) (fun _ _ _ h => h) (Or.inl ⟨by rfl, ?hyw5⟩) HS4.out ?rew5
              case hyw5 => ((intro w hSw; (try dsimp only at hSw); go_simp); first | done | with_reducible rfl)
              (try simp only [Act.put, List.setIfInBounds_toArray, List.set_cons_zero, List.set_cons_succ])
              refine wpAnyH_ready (rs := [6]) (by kernel_rfl) (by simp) ?_
              refine AllReadyH.cons rfl (fun K hK => ?_) AllReadyH.nil
              refine step_store_vino rfl 42 _ _ rfl a m _ rfl (by omega) yy (HWL.out) rfl HVW.out hm Try.sizeII ?_
              intro w9 hv9 hg9
              refine hK.out _ _ (HS5.out _ hg9) (fun _ => ?_)
              clear hK K
              (try simp only [Act.put, List.setIfInBounds_toArray, List.set_cons_zero, List.set_cons_succ])
              refine wpAnyH_done (by kernel_rfl) ?_ _
              refine NoPanic.normal ?_
              have hvs9 := HVSD.out.ino HVW.out hv9 hg9
              have hdn := hvs9.done HPD.out HB2.out
              have hat := hvs9.at
              have hl9 := HL9.out w9 hg9
              go_wp2_with (go_at_call 44; (with_reducible refine hdn.mono ?_); rintro e w10 ⟨rfl, ho10, hb10⟩)
              go_ret2
              rw [HEND.out]
              exact ⟨_, rfl, own_sl0 ho10 (by rw [Nd.putB_len (Nd.doneTo_len HPD.out hvs9.full.2 32 (Nat.le_refl _)) HB2.out]), hl9.trans (hb10.low.mono hat.2.2.1)⟩
end Go.Proofs.Ytbklmpekpcneeaa
namespace Go.Proofs.Ytbklmpekpcneeaa
open Go.RowKit
set_option maxRecDepth 100000

set_option maxHeartbeats 8000000 in
theorem vcontent_w {w : World} {B0 y a g cap : Nat} {l : List Nd.Ino} {d B : List UInt8} (hvs : Vs B0 y w a g cap l d B) (hd : d.length = 12288) (x : Nd.Ino) (hx : x.bl.length = 12) (hb : ∀ i, i < 12 → Nd.bk x i < 96) (hs : x.size ≤ 1536) (hp : ∀ i, i < 12 → Nd.bk x i ≠ 0 → i * 128 < x.size) :
    Calls Try.prog 60 #[.pointer (some ⟨a, 0, none⟩), .agg (ic x).toArray] w fun e w' => ∃ g2 c, e = .returned (.slice (some ⟨g2, 0, none⟩) x.size c) ∧ Sl eb w' (.slice (some ⟨g2, 0, none⟩) x.size c) (Nd.content d x) ∧ Below w.heap.size w w' := by
  obtain ⟨P, hP⟩ : ∃ P, P = (x.size + 127) / 128 := ⟨_, rfl⟩
  have hP12 : P ≤ 12 := by omega
  obtain ⟨N, hN⟩ : ∃ N, N = P * 128 := ⟨_, rfl⟩
  have hN2 : N ≤ 1536 := by omega
  have hsN : x.size ≤ N := by omega
  obtain ⟨W1, hW1⟩ : ∃ W, W = w.alloc (.cells (ic x).toArray 42 (0, 0)) := ⟨_, rfl⟩
  have hl1 : Below w.heap.size w W1 := by rw [hW1]; exact low_alloc _ _
  have hk1 : Bk W1 w.heap.size 42 (ic x) := by rw [hW1]; exact Bk.new w _ _
  obtain ⟨i0, hi0, hz0, hz1, hz2⟩ := info_parts Try.info5
  have hm1 : (Instr.makeSlice 25 (.int .i64 (N : Int)) (.int .i64 (N : Int))).run Try.prog W1 = .ok (.slice (some ⟨W1.heap.size, 0, none⟩) N N) (W1.alloc (.cells ((List.replicate N (0 : UInt8)).map eb).toArray 5 (0, 0))) := by
    have h := run_make (P := Try.prog) W1 25 5 i0 (.int .u8 0) Try.underlying25 hi0 hz0 .i64 .i64 N N (by omega) (by omega) (by rw [hz2]; omega) (by omega)
    rw [hz1] at h
    simp only [Int.toNat_natCast, Nat.mul_one] at h
    rw [show (List.replicate N (0 : UInt8)).map eb = List.replicate N (.int .u8 0) by rw [List.map_replicate]; rfl, ← toList_made]
    exact h
  have HNK : Hid (Bk (W1.alloc (.cells ((List.replicate N (0 : UInt8)).map eb).toArray 5 (0, 0))) W1.heap.size 5 ((List.replicate N (0 : UInt8)).map eb)) := Bk.new W1 _ _
  have HZ0 : Hid ((List.replicate N (0 : UInt8)).map eb = (Nd.vcTo d x P 0).map eb) := by show _ = _; rw [Nd.vcTo_zero hd hb hP12, hN]
  have HZL : Hid (((List.replicate N (0 : UInt8)).map eb).length = N) := by show _ = _; rw [List.length_map, List.length_replicate]
  generalize hZL : (List.replicate N (0 : UInt8)).map eb = ZL at *
  generalize hZA : ZL.toArray = ZA at *
  have HSK := Lib.hid (fun k h => Nd.vcTo_skip hd hb hP12 (k := k) h)
  have HPU := Lib.hid (fun k hk h => Nd.vcTo_put hd hb hP12 (k := k) hk h)
  have HVL : Hid (∀ k, (Nd.vcTo d x P k).length = N) := fun k => by rw [Nd.vcTo_len hd hb hP12]; omega
  have HEN := Lib.hid (Nd.vcTo_end hd hb hP12 (by omega))
  have HBL := Lib.hid (fun k hk => Nd.blk_len hd (n := k) hk)
  have HVS := Lib.hid (hvs.later hl1)
  have hat := (hvs.later hl1).at
  have HW1 := Lib.hid hW1
  have HK1 := Lib.hid hk1
  have HL1 := Lib.hid hl1
  have HXN := Lib.hid hx
  have HXB := Lib.hid hb
  have HD := Lib.hid hd
  have HPP : Hid (∀ i, i < 12 → Nd.bk x i ≠ 0 → i < P) := fun i hi h => by have := hp i hi h; omega
  have HPA : Hid (Calls Try.prog 41 #[.int .i64 (x.size : Int)] W1 fun e w' => e = .returned (.int .i64 (P : Int)) ∧ W1 = w') := by rw [hP]; exact vparts_w x.size (by omega) W1
  have HS12 : Hid ((Try.prog.info? 40).map (·.size) = some 12) := by show _ = _; kernel_rfl
  have HBLK : Hid (((ic x).drop 2).take 12 = x.bl.map ei) := by
    show _ = _
    show (x.bl.map ei).take 12 = _
    rw [List.take_of_length_le (by rw [List.length_map, HXN.out]; exact Nat.le_refl _)]
  have z1 : W1.cell? ⟨w.heap.size, 1, none⟩ = some (.int .i64 (x.size : Int)) := hk1.cell 1
  have e1 : IntKind.i64.wrap ((P : Int) * 128) = (N : Int) := by rw [IntWalk.i64_in _ (by omega)]; omega
  have hlt1 := hk1.lt
  have HN := Lib.hid hN
  clear hvs hW1 hl1 hk1 hx hb hd hp hZL hZA hP hN
  go_enter Try.func60, Try.ntmps60
  go_upto_region 1 with fail
  rw [← HW1.out]
  go_upto_region 2 with (go_at_call 41; (with_reducible refine HPA.out.mono ?_); rintro e w' ⟨rfl, rfl⟩)
  obtain ⟨W2, hW2⟩ : ∃ W, W = W1.alloc (.cells ZA 5 (0, 0)) := ⟨_, rfl⟩
  obtain ⟨g2, hg2⟩ : ∃ y, y = W1.heap.size := ⟨_, rfl⟩
  have hl2 : Below W1.heap.size W1 W2 := by rw [hW2]; exact low_alloc _ _
  have hk2 : Bk W2 w.heap.size 42 (ic x) := HK1.out.below hl2 HK1.out.lt
  have ho2 : W2.ownsRow W1.heap.size 5 1 (.slice (some ⟨g2, 0, none⟩) N N) N ((Nd.vcTo d x P 0).map eb) := by
    rw [← HZ0.out, hg2, hW2]
    have h := Bk.own HNK.out (Nat.le_refl _) (by rw [HZL.out]; unfold maxLen; omega)
    rw [HZL.out] at h
    exact h
  rw [← hW2, ← hg2]
  have HO2 := Lib.hid ho2
  have HL2 := Lib.hid hl2
  clear hW2 ho2 hl2 HNK HZ0 HZL hm1 z1 e1 HPA hg2
  go_upto_region 3 with (refine wpList_load_part rfl 40 _ rfl w.heap.size 2 12 rfl 42 (ic x) hk2 (by rw [ic_len HXN.out]; decide) _ Try.underlying40 rfl HS12.out ?_; rw [HBLK.out])
  go_wp2_with fail
  go_loopw [6, 7, 15] (fun _ _ i wr => ∃ k : Nat, i = .int .i64 k ∧ k ≤ 12 ∧ wr.ownsRow W1.heap.size 5 1 (.slice (some ⟨g2, 0, none⟩) N N) N ((Nd.vcTo d x P k).map eb) ∧ Below W1.heap.size W1 wr) (fun _ _ i _ => 12 - (intOf i).toNat)
  case atStart => exact ⟨0, rfl, by omega, HO2.out, HL2.out⟩
  case round =>
    clear HO2 HL2 hk2
    obtain ⟨k, rfl, hk, ho, hbl⟩ := hrel
    by_cases hlt : k < 12
    · have hix := run_index_ints x.bl HXN.out k hlt
      have eq1 : x.bl.getD k 0 = Nd.bk x k := rfl
      rw [eq1] at hix
      have hsk := HSK.out k
      have hpu := HPU.out k
      have hpp := HPP.out k hlt
      have hq := HXB.out k hlt
      have hvr := HVS.out.later hbl
      generalize Nd.bk x k = q at *
      have HIX := Lib.hid hix
      have HO := Lib.hid ho
      have HB := Lib.hid hbl
      have f5 : (0 : Int) ≤ (k : Int) := by omega
      have f6 : (k : Int) < 12 := by omega
      clear hix eq1 ho hbl
      by_cases h0 : q = 0
      · have HS := Lib.hid (hsk h0)
        have f7 : ((q : Int) != 0) = false := by rw [h0]; rfl
        clear hsk hpu hpp hvr h0
        go_wp2_with (refine wpList_index_by rfl 40 _ _ rfl _ _ (.int .i64 (q : Int)) rfl rfl HIX.out ?_)
        go_roundw
        case rel => exact ⟨k + 1, by go_num, by omega, by rw [HS.out]; exact HO.out, HB.out⟩
        case measure => simp [intOf]; omega
      · have hkP := hpp h0
        have HS := Lib.hid (hpu hkP h0)
        have f7 : ((q : Int) != 0) = true := by rw [bne_iff_ne]; omega
        obtain ⟨t, ht⟩ : ∃ t, t = k * 128 := ⟨_, rfl⟩
        have hNN := HN.out
        have e2 : IntKind.i64.wrap ((k : Int) * 128) = (t : Int) := by rw [IntWalk.i64_in _ (by omega)]; omega
        have f8 : (0 : Int) ≤ (t : Int) := by omega
        have f9 : (t : Int) ≤ (N : Int) := by omega
        have f10 : ¬ N < t := by omega
        have f11 : ¬ N = t := by omega
        have hfit : t + (N - t) ≤ N := by omega
        have HBK : Hid (∀ W, Below wr.heap.size wr W → Calls Try.prog 43 #[.pointer (some ⟨a, 0, none⟩), .int .i64 (q : Int)] W fun e w' => e = .returned (.slice (some ⟨g, q * 128, none⟩) 128 (cap - q * 128)) ∧ W = w') := fun W hW => (hvr.later hW).block q hq
        have hsl := own_sl0 hvr.own HD.out
        have hcb := hsl.cut (q * 128) 128 (by omega)
        rw [Nat.zero_add] at hcb
        have HCB : Hid (Sl eb wr.drew (.slice (some ⟨g, q * 128, none⟩) 128 (cap - q * 128)) (Jr.blk d q)) := hcb.below (low_drew wr) (Nat.le_refl _)
        have HOD : Hid (wr.drew.ownsRow W1.heap.size 5 1 (.slice (some ⟨g2, 0, none⟩) N N) N ((Nd.vcTo d x P k).map eb)) := own_keep HO.out fun _ _ => rfl
        have HTK : Hid ((Jr.blk d q).take (N - t) = Jr.blk d q) := List.take_of_length_le (by rw [HBL.out q hq]; omega)
        have HGO : Hid (∀ W, wr.drew.grownBy W (some g2) → Below W1.heap.size W1 W) := fun W hW => HB.out.drew.trans (below_of_grown hW (HO.out.lt g2 rfl).1 HB.out.size)
        have hszu : (Try.prog.info? 5).map (·.size) = some 1 := by kernel_rfl
        have hld := low_drew wr
        have HTT : Hid (Jr.put (Nd.vcTo d x P k) t (Jr.blk d q) = Nd.vcTo d x P (k + 1)) := by rw [ht]; exact HS.out
        clear hsk hpu hpp hvr h0 hsl hcb ht HS hNN
        go_upto_region 6 with (refine wpList_index_by rfl 40 _ _ rfl _ _ (.int .i64 (q : Int)) rfl rfl HIX.out ?_)
        go_region_held3 (fun _ => True) (trivial) ((first
          | (go_at_call 43; (with_reducible refine (HBK.out _ hld).mono ?_); rintro e w' ⟨rfl, rfl⟩)
          | (refine step_copy_own8 rfl (.tmp 24) (.tmp 27) 25 25 rfl 5 Try.underlying25 hszu W1.heap.size g2 N N (Nd.vcTo d x P k) HOD.out t (N - t) (N - t) rfl hfit (.slice (some ⟨g, q * 128, none⟩) 128 (cap - q * 128)) (Jr.blk d q) rfl HCB.out ?_; intro w6 ho6 hg6)))
        all_goals
          go_wp2_with fail
          go_roundw
          case rel => exact ⟨k + 1, by go_num, by omega, by rw [HTK.out, HTT.out] at ho6; exact ho6, HGO.out _ hg6⟩
          case measure => simp [intOf]; omega
    · have hk12 : k = 12 := by omega
      have f5 : ¬ (k : Int) < 12 := by omega
      rw [hk12] at ho
      have hkb := HK1.out.below hbl HK1.out.lt
      have z1 : wr.cell? ⟨w.heap.size, 1, none⟩ = some (.int .i64 (x.size : Int)) := hkb.cell 1
      have HO := Lib.hid ho
      have HB := Lib.hid (stepAny HL1.out hbl)
      have f6 : (0 : Int) ≤ (x.size : Int) := by omega
      have f7 : (x.size : Int) ≤ (N : Int) := by omega
      have f8 : x.size ≤ N := hsN
      clear ho hbl hkb hk12
      go_wp2_with fail
      go_ret
      refine ⟨_, N, rfl, ?_, HB.out⟩
      have h := (own_sl0 HO.out (HVL.out 12)).cut 0 x.size (by omega)
      rw [List.drop_zero, HEN.out] at h
      exact h

set_option maxHeartbeats 8000000 in
theorem vread_w {v : Value} {d : List UInt8} {w : World} (hv : Sl eb w v d) (hl : d.length ≤ 100000) (n o c : Int) : Calls Try.prog 25 #[v, .int .i64 n, .int .i64 o, .int .i64 c] w fun e w' =>
    ∃ v', e = .returned (.tuple #[v', .int .i64 (Nd.read d n o c).2]) ∧ Sl eb w' v' (Nd.read d n o c).1 ∧ Below w.heap.size w w' := by
  by_cases he : (Nd.get d n).2 = 0
  rotate_left
  · have HC := Lib.hid (vwith_bad hv hl n he)
    have HR := Lib.hid (Nd.read_get (o := o) (c := c) he)
    have HXN : Hid ((Nd.get d n).1.bl.length = 12) := Nd.get_blen n
    have f1 : ((Nd.get d n).2 != 0) = true := by rw [bne_iff_ne]; exact he
    obtain ⟨x, ec, hxe⟩ : ∃ x ec, Nd.get d n = (x, ec) := ⟨_, _, rfl⟩
    rw [hxe] at HXN HC HR f1
    simp only at f1
    clear he hxe
    go_enter Try.func25, Try.ntmps25
    go_wp2_with (first
      | (go_at_call 40; (with_reducible refine HC.out.mono ?_); rintro e w2 ⟨pv, rfl, hb2⟩)
      | (refine wpList_store_part rfl 42 _ _ rfl w2.heap.size 0 14 (ic x) rfl rfl 42 [.int .i64 0, .int .i64 0, .int .i64 0, .int .i64 0, .int .i64 0, .int .i64 0, .int .i64 0, .int .i64 0, .int .i64 0, .int .i64 0, .int .i64 0, .int .i64 0, .int .i64 0, .int .i64 0] (Bk.new w2 _ [.int .i64 0, .int .i64 0, .int .i64 0, .int .i64 0, .int .i64 0, .int .i64 0, .int .i64 0, .int .i64 0, .int .i64 0, .int .i64 0, .int .i64 0, .int .i64 0, .int .i64 0, .int .i64 0]) (ic_len HXN.out) (by simp) Try.sizeII (ic_one _) ?_; intro w3 hk3 hg3))
    go_ret2
    rw [HR.out]
    exact ⟨_, rfl, Sl.nil _ _, stepAny hb2 ((low_alloc w2 (.cells #[.int .i64 0, .int .i64 0, .int .i64 0, .int .i64 0, .int .i64 0, .int .i64 0, .int .i64 0, .int .i64 0, .int .i64 0, .int .i64 0, .int .i64 0, .int .i64 0, .int .i64 0, .int .i64 0] 42 (0, 0))).trans (below_of_grown hg3 (Nat.le_refl _) (low_alloc w2 (.cells #[.int .i64 0, .int .i64 0, .int .i64 0, .int .i64 0, .int .i64 0, .int .i64 0, .int .i64 0, .int .i64 0, .int .i64 0, .int .i64 0, .int .i64 0, .int .i64 0, .int .i64 0, .int .i64 0] 42 (0, 0))).size))⟩
  obtain ⟨m, rfl, hm, hx, hgd, hbk⟩ := Nd.get_some2 he
  have hd : d.length = 12288 := (Nd.get_ok he).1
  have hF : Nd.Formed d := (Nd.get_ok he).2.1
  have HXN : Hid ((Nd.raw d m).bl.length = 12) := (Nd.raw_enc d m).n
  have HWO := Lib.hid (vwith_ok hv hl m he hx)

  have hs := hgd.2.1
  have hb96 : ∀ i, i < 12 → Nd.bk (Nd.raw d m) i < 96 := fun i hi => by rcases hbk i hi with h | h <;> omega
  have hpp : ∀ i, i < 12 → Nd.bk (Nd.raw d m) i ≠ 0 → i * 128 < (Nd.raw d m).size := fun i hi h0 => by
    rcases hgd.2.2.1 i hi with h | h
    · exact absurd h h0
    · have := h.2.2.1; omega
  have HCL := Lib.hid (Nd.content_len hd hb96 hs)
  have HCN : Hid (∀ W a g cap y, Vs w.heap.size y W a g cap (Nd.inos d) d (Nd.bits d) → Calls Try.prog 60 #[.pointer (some ⟨a, 0, none⟩), .agg (ic (Nd.raw d m)).toArray] W fun e w' => ∃ g2 c, e = .returned (.slice (some ⟨g2, 0, none⟩) (Nd.raw d m).size c) ∧ Sl eb w' (.slice (some ⟨g2, 0, none⟩) (Nd.raw d m).size c) (Nd.content d (Nd.raw d m)) ∧ Below W.heap.size W w') := fun W a g cap y hW => vcontent_w hW hd (Nd.raw d m) HXN.out hb96 hs hpp
  have HRN := Lib.hid (fun h => Nd.read_neg (o := o) (c := c) he h)
  have HRY := Lib.hid (fun o c => Nd.read_yes (d := d) (m := m) (o := o) (c := c) he)
  have HSZ := Lib.hid hs
  clear he hx hgd hbk hb96 hpp hv hd hF hs
  generalize Nd.content d (Nd.raw d m) = C at *
  generalize Nd.raw d m = x at *
  by_cases ho : o < 0
  · have HR := Lib.hid (HRN.out (.inl ho))
    clear HRN HRY HCN HCL
    go_enter Try.func25, Try.ntmps25
    go_wp2_with (first
      | (go_at_call 40; (with_reducible refine HWO.out.mono ?_); rintro e w2 ⟨a, g, cap, rfl, hvs2, hb2⟩)
      | (refine wpList_store_part rfl 42 _ _ rfl w2.heap.size 0 14 (ic x) rfl rfl 42 [.int .i64 0, .int .i64 0, .int .i64 0, .int .i64 0, .int .i64 0, .int .i64 0, .int .i64 0, .int .i64 0, .int .i64 0, .int .i64 0, .int .i64 0, .int .i64 0, .int .i64 0, .int .i64 0] (Bk.new w2 _ [.int .i64 0, .int .i64 0, .int .i64 0, .int .i64 0, .int .i64 0, .int .i64 0, .int .i64 0, .int .i64 0, .int .i64 0, .int .i64 0, .int .i64 0, .int .i64 0, .int .i64 0, .int .i64 0]) (ic_len HXN.out) (by simp) Try.sizeII (ic_one _) ?_; intro w3 hk3 hg3))
    go_ret2
    rw [HR.out]
    exact ⟨_, rfl, Sl.nil _ _, stepAny hb2 ((low_alloc w2 (.cells #[.int .i64 0, .int .i64 0, .int .i64 0, .int .i64 0, .int .i64 0, .int .i64 0, .int .i64 0, .int .i64 0, .int .i64 0, .int .i64 0, .int .i64 0, .int .i64 0, .int .i64 0, .int .i64 0] 42 (0, 0))).trans (below_of_grown hg3 (Nat.le_refl _) (low_alloc w2 (.cells #[.int .i64 0, .int .i64 0, .int .i64 0, .int .i64 0, .int .i64 0, .int .i64 0, .int .i64 0, .int .i64 0, .int .i64 0, .int .i64 0, .int .i64 0, .int .i64 0, .int .i64 0, .int .i64 0] 42 (0, 0))).size))⟩
  by_cases hc0 : c < 0
  · have HR := Lib.hid (HRN.out (.inr hc0))
    clear HRN HRY HCN HCL
    go_enter Try.func25, Try.ntmps25
    go_wp2_with (first
      | (go_at_call 40; (with_reducible refine HWO.out.mono ?_); rintro e w2 ⟨a, g, cap, rfl, hvs2, hb2⟩)
      | (refine wpList_store_part rfl 42 _ _ rfl w2.heap.size 0 14 (ic x) rfl rfl 42 [.int .i64 0, .int .i64 0, .int .i64 0, .int .i64 0, .int .i64 0, .int .i64 0, .int .i64 0, .int .i64 0, .int .i64 0, .int .i64 0, .int .i64 0, .int .i64 0, .int .i64 0, .int .i64 0] (Bk.new w2 _ [.int .i64 0, .int .i64 0, .int .i64 0, .int .i64 0, .int .i64 0, .int .i64 0, .int .i64 0, .int .i64 0, .int .i64 0, .int .i64 0, .int .i64 0, .int .i64 0, .int .i64 0, .int .i64 0]) (ic_len HXN.out) (by simp) Try.sizeII (ic_one _) ?_; intro w3 hk3 hg3))
    go_ret2
    rw [HR.out]
    exact ⟨_, rfl, Sl.nil _ _, stepAny hb2 ((low_alloc w2 (.cells #[.int .i64 0, .int .i64 0, .int .i64 0, .int .i64 0, .int .i64 0, .int .i64 0, .int .i64 0, .int .i64 0, .int .i64 0, .int .i64 0, .int .i64 0, .int .i64 0, .int .i64 0, .int .i64 0] 42 (0, 0))).trans (below_of_grown hg3 (Nat.le_refl _) (low_alloc w2 (.cells #[.int .i64 0, .int .i64 0, .int .i64 0, .int .i64 0, .int .i64 0, .int .i64 0, .int .i64 0, .int .i64 0, .int .i64 0, .int .i64 0, .int .i64 0, .int .i64 0, .int .i64 0, .int .i64 0] 42 (0, 0))).size))⟩
  obtain ⟨p, rfl⟩ : ∃ p : Nat, o = p := ⟨o.toNat, by omega⟩
  obtain ⟨q, rfl⟩ : ∃ q : Nat, c = q := ⟨c.toNat, by omega⟩
  have HR := Lib.hid (HRY.out p q)
  clear HRN HRY
  go_enter Try.func25, Try.ntmps25
  go_upto_region 4 with (first
    | (go_at_call 40; (with_reducible refine HWO.out.mono ?_); rintro e w2 ⟨a, g, cap, rfl, hvs2, hb2⟩)
    | (refine wpList_store_part rfl 42 _ _ rfl w2.heap.size 0 14 (ic x) rfl rfl 42 [.int .i64 0, .int .i64 0, .int .i64 0, .int .i64 0, .int .i64 0, .int .i64 0, .int .i64 0, .int .i64 0, .int .i64 0, .int .i64 0, .int .i64 0, .int .i64 0, .int .i64 0, .int .i64 0] (Bk.new w2 _ [.int .i64 0, .int .i64 0, .int .i64 0, .int .i64 0, .int .i64 0, .int .i64 0, .int .i64 0, .int .i64 0, .int .i64 0, .int .i64 0, .int .i64 0, .int .i64 0, .int .i64 0, .int .i64 0]) (ic_len HXN.out) (by simp) Try.sizeII (ic_one _) ?_; intro w3 hk3 hg3))
  rw [splice_all _ _ (by rw [ic_len HXN.out]; rfl)] at hk3
  have hl23 : Below w2.heap.size w2 w3 := (low_alloc w2 (.cells #[.int .i64 0, .int .i64 0, .int .i64 0, .int .i64 0, .int .i64 0, .int .i64 0, .int .i64 0, .int .i64 0, .int .i64 0, .int .i64 0, .int .i64 0, .int .i64 0, .int .i64 0, .int .i64 0] 42 (0, 0))).trans (below_of_grown hg3 (Nat.le_refl _) (low_alloc w2 (.cells #[.int .i64 0, .int .i64 0, .int .i64 0, .int .i64 0, .int .i64 0, .int .i64 0, .int .i64 0, .int .i64 0, .int .i64 0, .int .i64 0, .int .i64 0, .int .i64 0, .int .i64 0, .int .i64 0] 42 (0, 0))).size)
  have hvs := hvs2.later hl23
  have hl3 := stepAny hb2 hl23
  obtain ⟨bx, hbx⟩ : ∃ y, y = w2.heap.size := ⟨_, rfl⟩
  have hbxa : bx ≠ a := by have := hvs2.at; omega
  have hbxg : bx ≠ g := by have := hvs2.at; omega
  have hbxl : w.heap.size ≤ bx := by rw [hbx]; exact hb2.size
  rw [← hbx] at hk3 ⊢
  rw [← hbx] at hvs
  clear hbx hvs2 hl23 hg3 hb2 HWO
  have HC3 := Lib.hid (HCN.out w3 a g cap bx hvs)
  have HL3 := Lib.hid hl3
  clear hvs hl3 HCN
  go_upto_region 7 with (first
    | (refine wpList_load_ino rfl 42 _ rfl bx rfl 42 x HXN.out hk3 _ Try.underlying42 rfl Try.sizeII ?_; unfold iv)
    | (go_at_call 60; (with_reducible refine HC3.out.mono ?_); rintro e w4 ⟨b4, c4, rfl, hs4, hb4⟩))
  have hl4 := stepAny HL3.out hb4
  have HL4 := Lib.hid hl4
  have HS4 := Lib.hid hs4
  obtain ⟨ac4, cc4, e4, hc4, hm4, -, -⟩ := hs4
  injection e4 with e5 e6 e7
  subst e7
  rw [HCL.out] at hc4
  have HSZ2 := HSZ.out
  have HCLL := HCL.out
  clear hl4 hb4 hk3 e5 e6 HC3 HL3 HSZ HCL
  obtain ⟨S, hS⟩ : ∃ S, S = x.size := ⟨_, rfl⟩
  rw [← hS] at HS4 hc4 HSZ2 HCLL ⊢
  clear hS
  unfold maxLen at hm4
  have HEX : Hid (∀ P M, (p < S ∧ P = p) ∨ (S ≤ p ∧ P = S) → (S - P ≤ q ∧ M = S - P) ∨ (q ≤ S - P ∧ M = q) → (C.drop P).take M = (C.drop p).take q ∧ P + M ≤ S) := fun P M h1 h2 => by
    rcases h1 with ⟨h1, rfl⟩ | ⟨h1, rfl⟩
    · have hc : (C.drop P).length = S - P := by rw [List.length_drop, HCLL]
      refine ⟨?_, by omega⟩
      rcases h2 with ⟨h2, rfl⟩ | ⟨-, rfl⟩
      · rw [List.take_of_length_le (by omega), List.take_of_length_le (by omega)]
      · rfl
    · have hz : M = 0 := by omega
      subst hz
      refine ⟨?_, by omega⟩
      rw [List.drop_of_length_le (i := p) (by omega)]
      simp
  obtain ⟨P, hP⟩ : ∃ P, P = min p S := ⟨_, rfl⟩
  obtain ⟨D, hD⟩ : ∃ D, D = S - P := ⟨_, rfl⟩
  obtain ⟨M, hM⟩ : ∃ M, M = min q D := ⟨_, rfl⟩
  have HEQ := Lib.hid (HEX.out P M (by omega) (by omega))
  have hPM : P + M ≤ S := by omega
  have m1 : min (p : Int) (S : Int) = (P : Int) := by omega
  have m2 : min (q : Int) (D : Int) = (M : Int) := by omega
  have e1 : IntKind.i64.wrap ((S : Int) - (P : Int)) = (D : Int) := by rw [IntWalk.i64_in _ (by omega)]; omega
  have e2 : IntKind.i64.wrap ((P : Int) + (M : Int)) = (P : Int) + (M : Int) := IntWalk.i64_in _ (by omega)
  have h1 : (0 : Int) ≤ (P : Int) := by omega
  have h2 : (P : Int) ≤ (P : Int) + (M : Int) := by omega
  have h3 : (P : Int) + (M : Int) ≤ (c4 : Int) := by omega
  have h5 : ((P : Int) + (M : Int)).toNat - P = M := by omega
  have HF : Hid (Sl eb w4 (.slice (some ⟨b4, 0 + P, none⟩) M (c4 - P)) ((C.drop P).take M)) := HS4.out.cut P M HEQ.out.2
  have HM0 : Hid (c4 = P → M = 0) := fun h => by omega
  clear hP hD hM HEX hPM
  go_wp2_with fail
  · rename_i hcP
    go_ret2
    rw [HR.out]
    have hM0 := HM0.out (by first | assumption | exact hcP)
    have heq := HEQ.out.1
    rw [hM0, List.take_zero] at heq
    refine ⟨_, rfl, ?_, HL4.out⟩
    show Sl eb w4 (.slice (some ⟨b4, 0, none⟩) M 0) ((C.drop p).take q)
    rw [← heq, hM0]
    exact ⟨_, 0, rfl, Nat.le_refl _, by unfold maxLen; omega, by simp, Rd.nil _ _ _⟩
  · go_ret2
    rw [HR.out]
    have hfin := HF.out
    rw [Nat.zero_add, HEQ.out.1] at hfin
    exact ⟨_, rfl, hfin, HL4.out⟩
end Go.Proofs.Ytbklmpekpcneeaa
namespace Nd
theorem trL_drop {d : List UInt8} {x : Ino} {s k : Nat} (h : s ≤ k * 128) : dropB (drops (bits d) (trL x s k)) (bk x k) = drops (bits d) (trL x s (k + 1)) := by
  rw [trL_step, if_pos h, drops_snoc]; rfl
theorem trL_keep {x : Ino} {s k : Nat} (h : ¬ s ≤ k * 128) : trL x s (k + 1) = trL x s k := by rw [trL_step, if_neg h]
theorem trX_put {x : Ino} {s k : Nat} (hk : k < 12) (h : s ≤ k * 128) : setBl (trX x s k) k 0 = trX x s (k + 1) := by rw [trX_step s hk, if_pos h]
theorem trX_keep {x : Ino} {s k : Nat} (hk : k < 12) (h : ¬ s ≤ k * 128) : trX x s (k + 1) = trX x s k := by rw [trX_step s hk, if_neg h]
theorem trX_here {x : Ino} {s k : Nat} (hk : k < 12) : bk (trX x s k) k = bk x k := by rw [trX_bk x s k hk, if_neg (by omega)]
theorem cut_bk12 (x : Ino) (s i : Nat) : bk (cut x s) i = bk (trX x s 12) i := by unfold bk; rw [trX_all]
theorem wipe_no {d : List UInt8} {x : Ino} {s : Nat} (h : ¬ (s % 128 ≠ 0 ∧ bk (trX x s 12) (s / 128) ≠ 0)) : wipe d (cut x s) s = d := by
  unfold wipe
  rw [cut_bk12, if_neg h]
theorem wipe_yes {d : List UInt8} {x : Ino} {s : Nat} (h : s % 128 ≠ 0) (h2 : bk (trX x s 12) (s / 128) ≠ 0) : wipe d (cut x s) s = Jr.put d (bk (trX x s 12) (s / 128) * 128 + s % 128) (List.replicate (128 - s % 128) 0) := by
  unfold wipe
  rw [cut_bk12, if_pos ⟨h, h2⟩]
theorem cut_96 {x : Ino} {s : Nat} (hb : ∀ i, i < 12 → bk x i = 0 ∨ (18 ≤ bk x i ∧ bk x i < 96)) (i : Nat) : bk (cut x s) i = 0 ∨ (18 ≤ bk (cut x s) i ∧ bk (cut x s) i < 96) := by
  by_cases hi : i < 12
  · rw [cut_bk x s hi]
    split
    · exact .inl rfl
    · exact hb i hi
  · left
    unfold bk
    rw [List.getD_eq_getElem?_getD, List.getElem?_eq_none (by rw [cut_len]; omega)]; rfl
theorem wipe_low {d : List UInt8} (hd : d.length = 12288) {x : Ino} {s : Nat} (hb : ∀ i, i < 12 → bk x i = 0 ∨ (18 ≤ bk x i ∧ bk x i < 96)) {i : Nat} (hi : i < 2304) : g (wipe d (cut x s) s) i = g d i := by
  have h96 : ∀ i, bk (cut x s) i < 96 := fun i => by rcases cut_96 hb (s := s) i with h | h <;> omega
  have h := wipe_g (size := s) hd h96 (k := i / 128) (j := i % 128) (Nat.mod_lt _ (by decide))
  rw [show 128 * (i / 128) + i % 128 = i by omega] at h
  rw [h, if_neg]
  rintro ⟨-, h1, h2, -⟩
  rcases cut_96 hb (s := s) (s / 128) with h3 | h3 <;> omega
theorem wipe_len' {d : List UInt8} (hd : d.length = 12288) {x : Ino} {s : Nat} (hb : ∀ i, i < 12 → bk x i = 0 ∨ (18 ≤ bk x i ∧ bk x i < 96)) : (wipe d (cut x s) s).length = 12288 :=
  wipe_len hd fun i => by rcases cut_96 hb (s := s) i with h | h <;> omega
theorem trunc_end {d : List UInt8} (hd : d.length = 12288) (hF : Formed d) {m s : Nat} (hm : m < 32) (h : (get d (m : Int)).2 = 0) (hk : (raw d m).kind ≠ 2) (hs : s ≤ 1536) (hb : ∀ i, i < 12 → bk (raw d m) i = 0 ∨ (18 ≤ bk (raw d m) i ∧ bk (raw d m) i < 96)) :
    truncate d (m : Int) (s : Int) = (putB (doneTo (wipe d (cut (raw d m) s) s) ((inos d).set m (cut (raw d m) s)) 32) (drops (bits d) (trL (raw d m) s 12)), 0) := by
  rw [done_upd (wipe_len' hd hb) hF (trB_len hd _ _ _) hm (cut_len _ _) (fun i hi => wipe_low hd hb hi)]
  unfold truncate
  rw [if_neg (by simp [h])]
  simp only [Int.toNat_natCast]
  rw [if_neg hk, if_neg (by omega)]
  rfl
end Nd
namespace Go.Proofs.Ytbklmpekpcneeaa
open Go.RowKit
set_option maxRecDepth 100000

set_option maxHeartbeats 16000000 in
theorem vtrunc_w {v : Value} {d : List UInt8} {w : World} (hv : Sl eb w v d) (hl : d.length ≤ 100000) (n sz : Int) : Calls Try.prog 14 #[v, .int .i64 n, .int .i64 sz] w fun e w' =>
    ∃ v', e = .returned (.tuple #[v', .int .i64 (Nd.truncate d n sz).2]) ∧ Sl eb w' v' (Nd.truncate d n sz).1 ∧ Below w.heap.size w w' := by
  by_cases he : (Nd.get d n).2 = 0
  rotate_left
  · have HC := Lib.hid (vwith_bad hv hl n he)
    have HR := Lib.hid (Nd.trunc_get (s := sz) he)
    have HXN : Hid ((Nd.get d n).1.bl.length = 12) := Nd.get_blen n
    have f1 : ((Nd.get d n).2 != 0) = true := by rw [bne_iff_ne]; exact he
    obtain ⟨x, ec, hxe⟩ : ∃ x ec, Nd.get d n = (x, ec) := ⟨_, _, rfl⟩
    rw [hxe] at HXN HC HR f1
    simp only at f1
    clear he hxe
    go_enter Try.func14, Try.ntmps14
    go_wp2_with (first
      | (go_at_call 40; (with_reducible refine HC.out.mono ?_); rintro e w2 ⟨pv, rfl, hb2⟩)
      | (refine wpList_store_part rfl 42 _ _ rfl w2.heap.size 0 14 (ic x) rfl rfl 42 [.int .i64 0, .int .i64 0, .int .i64 0, .int .i64 0, .int .i64 0, .int .i64 0, .int .i64 0, .int .i64 0, .int .i64 0, .int .i64 0, .int .i64 0, .int .i64 0, .int .i64 0, .int .i64 0] (Bk.new w2 _ [.int .i64 0, .int .i64 0, .int .i64 0, .int .i64 0, .int .i64 0, .int .i64 0, .int .i64 0, .int .i64 0, .int .i64 0, .int .i64 0, .int .i64 0, .int .i64 0, .int .i64 0, .int .i64 0]) (ic_len HXN.out) (by simp) Try.sizeII (ic_one _) ?_; intro w3 hk3 hg3))
    go_ret2
    rw [HR.out]
    exact ⟨_, rfl, Sl.nil _ _, stepAny hb2 ((low_alloc w2 (.cells #[.int .i64 0, .int .i64 0, .int .i64 0, .int .i64 0, .int .i64 0, .int .i64 0, .int .i64 0, .int .i64 0, .int .i64 0, .int .i64 0, .int .i64 0, .int .i64 0, .int .i64 0, .int .i64 0] 42 (0, 0))).trans (below_of_grown hg3 (Nat.le_refl _) (low_alloc w2 (.cells #[.int .i64 0, .int .i64 0, .int .i64 0, .int .i64 0, .int .i64 0, .int .i64 0, .int .i64 0, .int .i64 0, .int .i64 0, .int .i64 0, .int .i64 0, .int .i64 0, .int .i64 0, .int .i64 0] 42 (0, 0))).size))⟩
  obtain ⟨m, rfl, hm, hx, hgd, hbk⟩ := Nd.get_some2 he
  have hd : d.length = 12288 := (Nd.get_ok he).1
  have hF : Nd.Formed d := (Nd.get_ok he).2.1
  have HXN : Hid ((Nd.raw d m).bl.length = 12) := (Nd.raw_enc d m).n
  have HWO := Lib.hid (vwith_ok hv hl m he hx)

  by_cases hk2 : (Nd.raw d m).kind = 2
  · have HR : Hid (Nd.truncate d (m : Int) sz = ([], 14)) := Nd.trunc_dir he hk2
    have f1 : (((Nd.raw d m).kind : Int) == 2) = true := by rw [hk2]; rfl
    clear he hx hgd hbk hd hF hk2
    go_enter Try.func14, Try.ntmps14
    go_wp2_with (first
      | (go_at_call 40; (with_reducible refine HWO.out.mono ?_); rintro e w2 ⟨a, g, cap, rfl, hvs2, hb2⟩)
      | (refine wpList_store_part rfl 42 _ _ rfl w2.heap.size 0 14 (ic (Nd.raw d m)) rfl rfl 42 [.int .i64 0, .int .i64 0, .int .i64 0, .int .i64 0, .int .i64 0, .int .i64 0, .int .i64 0, .int .i64 0, .int .i64 0, .int .i64 0, .int .i64 0, .int .i64 0, .int .i64 0, .int .i64 0] (Bk.new w2 _ [.int .i64 0, .int .i64 0, .int .i64 0, .int .i64 0, .int .i64 0, .int .i64 0, .int .i64 0, .int .i64 0, .int .i64 0, .int .i64 0, .int .i64 0, .int .i64 0, .int .i64 0, .int .i64 0]) (ic_len HXN.out) (by simp) Try.sizeII (ic_one _) ?_; intro w3 hk3 hg3; rw [splice_all _ _ (by rw [ic_len HXN.out]; rfl)] at hk3; have z0 : w3.cell? ⟨w2.heap.size, 0, none⟩ = some (.int .i64 ((Nd.raw d m).kind : Int)) := hk3.cell 0))
    go_ret2
    rw [HR.out]
    exact ⟨_, rfl, Sl.nil _ _, stepAny hb2 ((low_alloc w2 (.cells #[.int .i64 0, .int .i64 0, .int .i64 0, .int .i64 0, .int .i64 0, .int .i64 0, .int .i64 0, .int .i64 0, .int .i64 0, .int .i64 0, .int .i64 0, .int .i64 0, .int .i64 0, .int .i64 0] 42 (0, 0))).trans (below_of_grown hg3 (Nat.le_refl _) (low_alloc w2 (.cells #[.int .i64 0, .int .i64 0, .int .i64 0, .int .i64 0, .int .i64 0, .int .i64 0, .int .i64 0, .int .i64 0, .int .i64 0, .int .i64 0, .int .i64 0, .int .i64 0, .int .i64 0, .int .i64 0] 42 (0, 0))).size))⟩
  have f1 : (((Nd.raw d m).kind : Int) == 2) = false := by rw [beq_eq_false_iff_ne]; omega
  by_cases hto : sz < 0
  · have HR : Hid (Nd.truncate d (m : Int) sz = ([], 2)) := Nd.trunc_rng he hk2 (.inl hto)
    clear he hx hgd hbk hd hF hk2
    go_enter Try.func14, Try.ntmps14
    go_wp2_with (first
      | (go_at_call 40; (with_reducible refine HWO.out.mono ?_); rintro e w2 ⟨a, g, cap, rfl, hvs2, hb2⟩)
      | (refine wpList_store_part rfl 42 _ _ rfl w2.heap.size 0 14 (ic (Nd.raw d m)) rfl rfl 42 [.int .i64 0, .int .i64 0, .int .i64 0, .int .i64 0, .int .i64 0, .int .i64 0, .int .i64 0, .int .i64 0, .int .i64 0, .int .i64 0, .int .i64 0, .int .i64 0, .int .i64 0, .int .i64 0] (Bk.new w2 _ [.int .i64 0, .int .i64 0, .int .i64 0, .int .i64 0, .int .i64 0, .int .i64 0, .int .i64 0, .int .i64 0, .int .i64 0, .int .i64 0, .int .i64 0, .int .i64 0, .int .i64 0, .int .i64 0]) (ic_len HXN.out) (by simp) Try.sizeII (ic_one _) ?_; intro w3 hk3 hg3; rw [splice_all _ _ (by rw [ic_len HXN.out]; rfl)] at hk3; have z0 : w3.cell? ⟨w2.heap.size, 0, none⟩ = some (.int .i64 ((Nd.raw d m).kind : Int)) := hk3.cell 0))
    go_ret2
    rw [HR.out]
    exact ⟨_, rfl, Sl.nil _ _, stepAny hb2 ((low_alloc w2 (.cells #[.int .i64 0, .int .i64 0, .int .i64 0, .int .i64 0, .int .i64 0, .int .i64 0, .int .i64 0, .int .i64 0, .int .i64 0, .int .i64 0, .int .i64 0, .int .i64 0, .int .i64 0, .int .i64 0] 42 (0, 0))).trans (below_of_grown hg3 (Nat.le_refl _) (low_alloc w2 (.cells #[.int .i64 0, .int .i64 0, .int .i64 0, .int .i64 0, .int .i64 0, .int .i64 0, .int .i64 0, .int .i64 0, .int .i64 0, .int .i64 0, .int .i64 0, .int .i64 0, .int .i64 0, .int .i64 0] 42 (0, 0))).size))⟩
  by_cases hto2 : 1536 < sz
  · have HR : Hid (Nd.truncate d (m : Int) sz = ([], 2)) := Nd.trunc_rng he hk2 (.inr hto2)
    clear he hx hgd hbk hd hF hk2
    go_enter Try.func14, Try.ntmps14
    go_wp2_with (first
      | (go_at_call 40; (with_reducible refine HWO.out.mono ?_); rintro e w2 ⟨a, g, cap, rfl, hvs2, hb2⟩)
      | (refine wpList_store_part rfl 42 _ _ rfl w2.heap.size 0 14 (ic (Nd.raw d m)) rfl rfl 42 [.int .i64 0, .int .i64 0, .int .i64 0, .int .i64 0, .int .i64 0, .int .i64 0, .int .i64 0, .int .i64 0, .int .i64 0, .int .i64 0, .int .i64 0, .int .i64 0, .int .i64 0, .int .i64 0] (Bk.new w2 _ [.int .i64 0, .int .i64 0, .int .i64 0, .int .i64 0, .int .i64 0, .int .i64 0, .int .i64 0, .int .i64 0, .int .i64 0, .int .i64 0, .int .i64 0, .int .i64 0, .int .i64 0, .int .i64 0]) (ic_len HXN.out) (by simp) Try.sizeII (ic_one _) ?_; intro w3 hk3 hg3; rw [splice_all _ _ (by rw [ic_len HXN.out]; rfl)] at hk3; have z0 : w3.cell? ⟨w2.heap.size, 0, none⟩ = some (.int .i64 ((Nd.raw d m).kind : Int)) := hk3.cell 0))
    go_ret2
    rw [HR.out]
    exact ⟨_, rfl, Sl.nil _ _, stepAny hb2 ((low_alloc w2 (.cells #[.int .i64 0, .int .i64 0, .int .i64 0, .int .i64 0, .int .i64 0, .int .i64 0, .int .i64 0, .int .i64 0, .int .i64 0, .int .i64 0, .int .i64 0, .int .i64 0, .int .i64 0, .int .i64 0] 42 (0, 0))).trans (below_of_grown hg3 (Nat.le_refl _) (low_alloc w2 (.cells #[.int .i64 0, .int .i64 0, .int .i64 0, .int .i64 0, .int .i64 0, .int .i64 0, .int .i64 0, .int .i64 0, .int .i64 0, .int .i64 0, .int .i64 0, .int .i64 0, .int .i64 0, .int .i64 0] 42 (0, 0))).size))⟩
  obtain ⟨s, rfl⟩ : ∃ s : Nat, sz = s := ⟨sz.toNat, by omega⟩
  have hs : s ≤ 1536 := by omega
  have HEND := Lib.hid (Nd.trunc_end hd hF hm he hk2 hs hbk)
  have HW2 : Hid ((Nd.wipe d (Nd.cut (Nd.raw d m) s) s).length = 12288) := Nd.wipe_len' hd hbk
  have HBL := Lib.hid (fun k => Nd.trB_len hd (Nd.raw d m) s k)
  have HDR := Lib.hid (fun k h => Nd.trL_drop (d := d) (x := Nd.raw d m) (s := s) (k := k) h)
  have HDK := Lib.hid (fun k h => Nd.trL_keep (x := Nd.raw d m) (s := s) (k := k) h)
  have HXP := Lib.hid (fun k hk h => Nd.trX_put (x := Nd.raw d m) (s := s) (k := k) hk h)
  have HXK := Lib.hid (fun k hk h => Nd.trX_keep (x := Nd.raw d m) (s := s) (k := k) hk h)
  have HXH := Lib.hid (fun k hk => Nd.trX_here (x := Nd.raw d m) (s := s) (k := k) hk)
  have HXL := Lib.hid (fun k => Nd.trX_len (Nd.raw d m) s k)
  have HX0 := Lib.hid (Nd.trX_zero HXN.out s)
  have HL0 : Hid (Nd.drops (Nd.bits d) (Nd.trL (Nd.raw d m) s 0) = Nd.bits d) := rfl
  have HB96 : Hid (∀ i, i < 12 → Nd.bk (Nd.raw d m) i < 96) := fun i hi => by rcases hbk i hi with h | h <;> omega
  have HWN := Lib.hid (fun h => Nd.wipe_no (d := d) (x := Nd.raw d m) (s := s) h)
  have HWY := Lib.hid (fun h h2 => Nd.wipe_yes (d := d) (x := Nd.raw d m) (s := s) h h2)
  have HCUT := Lib.hid (Nd.trX_cut (Nd.raw d m) s)
  have HCL : Hid ((Nd.cut (Nd.raw d m) s).bl.length = 12) := Nd.cut_len _ _
  have HC96 : Hid (∀ i, Nd.bk (Nd.trX (Nd.raw d m) s 12) i < 96) := fun i => by rw [← Nd.cut_bk12]; rcases Nd.cut_96 hbk (s := s) i with h | h <;> omega
  have HIC : Hid ((ic (Nd.trX (Nd.raw d m) s 12)).set 1 (.int .i64 (s : Int)) = ic (Nd.cut (Nd.raw d m) s)) := by rw [← Nd.trX_cut]; rfl
  have HD := Lib.hid hd
  have HPA := Lib.hid (fun W => vparts_w s (by omega) W)
  clear hv he hx hgd hbk hd hF hk2
  go_enter Try.func14, Try.ntmps14
  go_upto_region 4 with (first
    | (go_at_call 40; (with_reducible refine HWO.out.mono ?_); rintro e w2 ⟨a, g, cap, rfl, hvs2, hb2⟩)
    | (refine wpList_store_part rfl 42 _ _ rfl w2.heap.size 0 14 (ic (Nd.raw d m)) rfl rfl 42 [.int .i64 0, .int .i64 0, .int .i64 0, .int .i64 0, .int .i64 0, .int .i64 0, .int .i64 0, .int .i64 0, .int .i64 0, .int .i64 0, .int .i64 0, .int .i64 0, .int .i64 0, .int .i64 0] (Bk.new w2 _ [.int .i64 0, .int .i64 0, .int .i64 0, .int .i64 0, .int .i64 0, .int .i64 0, .int .i64 0, .int .i64 0, .int .i64 0, .int .i64 0, .int .i64 0, .int .i64 0, .int .i64 0, .int .i64 0]) (ic_len HXN.out) (by simp) Try.sizeII (ic_one _) ?_; intro w3 hk3 hg3))
  rw [splice_all _ _ (by rw [ic_len HXN.out]; rfl)] at hk3
  have hl23 : Below w2.heap.size w2 w3 := (low_alloc w2 (.cells #[.int .i64 0, .int .i64 0, .int .i64 0, .int .i64 0, .int .i64 0, .int .i64 0, .int .i64 0, .int .i64 0, .int .i64 0, .int .i64 0, .int .i64 0, .int .i64 0, .int .i64 0, .int .i64 0] 42 (0, 0))).trans (below_of_grown hg3 (Nat.le_refl _) (low_alloc w2 (.cells #[.int .i64 0, .int .i64 0, .int .i64 0, .int .i64 0, .int .i64 0, .int .i64 0, .int .i64 0, .int .i64 0, .int .i64 0, .int .i64 0, .int .i64 0, .int .i64 0, .int .i64 0, .int .i64 0] 42 (0, 0))).size)
  have hvs := hvs2.later hl23
  have hl3 := stepAny hb2 hl23
  obtain ⟨bx, hbx⟩ : ∃ y, y = w2.heap.size := ⟨_, rfl⟩
  have hbxa : bx ≠ a := by have := hvs2.at; omega
  have hbxg : bx ≠ g := by have := hvs2.at; omega
  have hbxl : w.heap.size ≤ bx := by rw [hbx]; exact hb2.size
  rw [← hbx] at hk3 ⊢
  rw [← hbx] at hvs
  clear hbx hvs2 hl23 hg3 hb2 HWO
  have z0 : w3.cell? ⟨bx, 0, none⟩ = some (.int .i64 ((Nd.raw d m).kind : Int)) := hk3.cell 0
  have hat := hvs.at
  generalize Nd.raw d m = x at *
  have HV3 : Hid (Vs w.heap.size bx w3 a g cap (Nd.inos d) d (Nd.drops (Nd.bits d) (Nd.trL x s 0))) := by rw [HL0.out]; exact hvs
  have HK3 : Hid (Bk w3 bx 42 (ic (Nd.trX x s 0))) := by rw [HX0.out]; exact hk3
  have HL3 := Lib.hid hl3
  clear hvs hk3 hl3 hto hto2
  go_upto_region 9 with fail
  clear z0
  go_wp2_with fail
  go_loopw [11, 35] (fun _ i wr => ∃ k : Nat, i = .int .i64 k ∧ k ≤ 12 ∧ Vs w.heap.size bx wr a g cap (Nd.inos d) d (Nd.drops (Nd.bits d) (Nd.trL x s k)) ∧ Bk wr bx 42 (ic (Nd.trX x s k)) ∧ Below w.heap.size w wr) (fun _ i _ => 12 - (intOf i).toNat)
  case atStart => exact ⟨0, rfl, by omega, HV3.out, HK3.out, HL3.out⟩
  case round =>
    clear HV3 HK3 HL3
    obtain ⟨k, rfl, hk, hvr, hkr, hlr⟩ := hrel
    by_cases hlt : k < 12
    · have HPW := Lib.hid (HPA.out wr)
      have hdr := HDR.out k
      have hdk := HDK.out k
      have hxp := HXP.out k hlt
      have hxk := HXK.out k hlt
      have hxh := HXH.out k hlt
      have hbl := HBL.out k
      have hxl := HXL.out k
      have hq := HB96.out k hlt
      have f5 : (0 : Int) ≤ (k : Int) := by omega
      have f6 : (k : Int) < 12 := by omega
      by_cases hge : s ≤ k * 128
      · have f7 : (((s + 127) / 128 : Nat) : Int) ≤ (k : Int) := by omega
        have z2 : wr.cell? ⟨bx, 2 + k, none⟩ = some (.int .i64 ((Nd.bk x k : Nat) : Int)) := by rw [hkr.cell, ic_bk hxl hlt, hxh]
        have hdp := hvr.drop hkr.lt hbl (Nd.bk x k) hq
        rw [hdr hge] at hdp
        have HDP := Lib.hid hdp
        have HXS := Lib.hid (hxp hge)
        have HKR := Lib.hid hkr
        have HLR := Lib.hid hlr
        generalize ((s + 127) / 128 : Nat) = pt at *
        generalize Nd.bk x k = q at *
        clear hdr hdk hxp hxk hxh hdp hvr hkr hlr hge
        go_upto_region 13 with (first
          | (go_at_call 41; (with_reducible refine HPW.out.mono ?_); rintro e w' ⟨rfl, rfl⟩)
          | (go_at_call 42; (with_reducible refine HDP.out.mono ?_); rintro e w5 ⟨rfl, hv5, hb5⟩))
        have hk5 := HKR.out.keep (hb5.rest bx HKR.out.lt hbxa)
        have z5 : w5.cell? ⟨bx, 2 + k, none⟩ = some (.int .i64 ((Nd.bk (Nd.trX x s k) k : Nat) : Int)) := by rw [hk5.cell]; exact ic_bk hxl hlt
        have x5 := hk5.frozen (2 + k)
        have hk6 := hk5.set (2 + k) (.int .i64 ((0 : Nat) : Int))
        rw [ic_setBl, HXS.out] at hk6
        have HK6 : Hid (Bk (w5.setCell ⟨bx, 2 + k, none⟩ (.int .i64 0)) bx 42 (ic (Nd.trX x s (k + 1)))) := hk6
        have HV6 := Lib.hid (hv5.box (grown_set (w := w5) (g := bx) (i := 2 + k) (u := .int .i64 0)) hbxa hbxg)
        have HL6 : Hid (Below w.heap.size w (w5.setCell ⟨bx, 2 + k, none⟩ (.int .i64 0))) := (HLR.out.trans (hb5.low.mono hat.2.1)).setCell hbxl _
        clear hk5 hk6 hv5 hb5 z2 HKR HLR HDP
        generalize Nd.bk (Nd.trX x s k) k = old at *
        go_wp2_with fail
        go_roundw
        case rel => exact ⟨k + 1, by go_num, by omega, HV6.out, HK6.out, HL6.out⟩
        case measure => simp [intOf]; omega
      · have f7 : ¬ (((s + 127) / 128 : Nat) : Int) ≤ (k : Int) := by omega
        have HDK2 := Lib.hid (hdk hge)
        have HXK2 := Lib.hid (hxk hge)
        have HVR := Lib.hid hvr
        have HKR := Lib.hid hkr
        have HLR := Lib.hid hlr
        generalize ((s + 127) / 128 : Nat) = pt at *
        clear hdr hdk hxp hxk hxh hvr hkr hlr hge
        go_wp2_with (go_at_call 41; (with_reducible refine HPW.out.mono ?_); rintro e w' ⟨rfl, rfl⟩)
        go_roundw
        case rel => exact ⟨k + 1, by go_num, by omega, by rw [HDK2.out]; exact HVR.out, by rw [HXK2.out]; exact HKR.out, HLR.out⟩
        case measure => simp [intOf]; omega
    · have hk12 : k = 12 := by omega
      have f5 : ¬ (k : Int) < 12 := by omega
      rw [hk12] at hvr hkr
      have f6 : (0 : Int) ≤ (s : Int) := by omega
      have HVR := Lib.hid hvr
      have HKR := Lib.hid hkr
      have HLR := Lib.hid hlr
      have hhl := hkr.lt
      have HBL12 := Lib.hid (HBL.out 12)
      have z0 : wr.cell? ⟨bx, 1, none⟩ = some (.int .i64 ((Nd.trX x s 12).size : Int)) := hkr.cell 1
      have x0 := hkr.frozen 1
      have hkz := hkr.set 1 (.int .i64 (s : Int))
      rw [HIC.out] at hkz
      have HKZ := Lib.hid hkz
      have HVZ := Lib.hid (hvr.box (grown_set (w := wr) (g := bx) (i := 1) (u := .int .i64 (s : Int))) hbxa hbxg)
      have HLZ : Hid (Below w.heap.size w (wr.setCell ⟨bx, 1, none⟩ (.int .i64 (s : Int)))) := hlr.setCell hbxl _
      have hc96 := HC96.out (s / 128)
      have hwn := HWN.out
      have hwy := HWY.out
      have h12 : s % 128 ≠ 0 → wr.cell? ⟨bx, 2 + s / 128, none⟩ = some (.int .i64 ((Nd.bk (Nd.trX x s 12) (s / 128) : Nat) : Int)) := fun h => by rw [hkr.cell]; exact ic_bk (HXL.out 12) (by omega)
      have g1 : (s : Int) / 128 = ((s / 128 : Nat) : Int) := by omega
      have g2 : (s : Int) % 128 = ((s % 128 : Nat) : Int) := by omega
      have g3 : s % 128 ≠ 0 → s / 128 < 12 := fun h => by omega
      have g4 : s % 128 < 128 := Nat.mod_lt _ (by decide)
      clear hvr hkr hlr hkz hk12 hk hlt HDR HDK HXP HXK HXH HPA HBL HB96 HX0 HL0
      generalize (Nd.trX x s 12).size = osz at *
      generalize Nd.bk (Nd.trX x s 12) (s / 128) = q at *
      generalize s / 128 = p at *
      generalize s % 128 = r at *
      by_cases hr0 : r = 0
      · have hw2 := hwn (fun h => h.1 hr0)
        have HW3 := Lib.hid hw2
        have f7 : ((r : Int) != 0) = false := by rw [hr0]; rfl
        clear hwn hwy h12 hw2 hr0 hc96 g3
        rw [HW3.out] at HEND HW2
        go_upto_region 19 with fail
        have hkz := HKZ.out
        have hvz := HVZ.out
        have hlz := HLZ.out
        generalize wr.setCell ⟨bx, 1, none⟩ (.int .i64 (s : Int)) = w8 at *
        clear HKZ HVZ HLZ HVR HKR HLR z0 x0
        have mm0 : (0 : Int) ≤ (m : Int) := by omega
        have mm1 : (m : Int) < 32 := by omega
        obtain ⟨bvz, hvwz⟩ := hvz.vw
        have HS4 : Hid (w8.drew.rangeAt bx 0 (ic (Nd.cut x s))) := (hkz.keep rfl : Bk w8.drew bx 42 (ic (Nd.cut x s))).range
        have HS5 : Hid (∀ W, w8.drew.grownBy W (some a) → W.rangeAt bx 0 (ic (Nd.cut x s))) := fun W hW => (hkz.keep (hW.block bx hkz.lt (by simpa using hbxa)) : Bk W bx 42 (ic (Nd.cut x s))).range
        have HVSD := Lib.hid hvz.drew
        have HVW : Hid (Vw w8.drew a (.slice (some ⟨g, 0, none⟩) 12288 cap) bvz (Nd.inos d)) := ⟨hvwz.k.keep rfl, hvwz.f⟩
        have hlaz := hvz.at.2.1
        have HL9 : Hid (∀ W, w8.drew.grownBy W (some a) → Below w.heap.size w W) := fun W hW => hlz.drew.trans (below_of_grown hW hlaz hlz.size)
        clear hkz hvz hvwz hlz
        refine wp_region_noPanic ?_
        refine wp_region_held_drew (S := fun w' => w'.rangeAt bx 0 (ic (Nd.cut x s))) (by kernel_rfl) HS4.out (fun _ => ?_)
        refine wpAnyH_take (i := 2) (oi := ⟨some 77, _, _, _, _, _⟩) (v := .agg (ic (Nd.cut x s)).toArray) rfl (by kernel_rfl) (by kernel_rfl) (by kernel_rfl) (fun _ _ _ h => h) (yieldsIf_load_mid (by rfl) 42 _ rfl bx 0 rfl (ic (Nd.cut x s)) _ (fun _ h => h) Try.underlying42 rfl (by rw [ic_len HCL.out]; exact Try.sizeII)) HS4.out ?rea2
        (try simp only [Act.put, List.setIfInBounds_toArray, List.set_cons_zero, List.set_cons_succ])
        refine wpAnyH_take (i := 0) (oi := ⟨some 75, _, _, _, _, _⟩) (v := ?_) rfl (by kernel_rfl) (by kernel_rfl) (by kernel_rfl) (fun _ _ _ h => h) (Or.inl ⟨by rfl, ?hya0⟩) HS4.out ?rea0
        case hya0 => ((intro w hSw; (try dsimp only at hSw); go_simp); first | done | with_reducible rfl)
        (try simp only [Act.put, List.setIfInBounds_toArray, List.set_cons_zero, List.set_cons_succ])
        refine wpAnyH_take (i := 1) (oi := ⟨some 76, _, _, _, _, _⟩) (v := ?_) rfl (by kernel_rfl) (by kernel_rfl) (by kernel_rfl) (fun _ _ _ h => h) (Or.inl ⟨by rfl, ?hya1⟩) HS4.out ?rea1
        case hya1 => ((intro w hSw; (try dsimp only at hSw); go_simp); first | done | with_reducible rfl)
        (try simp only [Act.put, List.setIfInBounds_toArray, List.set_cons_zero, List.set_cons_succ])
        refine wpAnyH_take (i := 3) (oi := ⟨some 78, _, _, _, _, _⟩) (v := ?_) rfl (by kernel_rfl) (by kernel_rfl) (by kernel_rfl) (fun _ _ _ h => h) (Or.inl ⟨by rfl, ?hya3⟩) HS4.out ?rea3
        case hya3 => ((intro w hSw; (try dsimp only at hSw); go_simp); first | done | with_reducible rfl)
        (try simp only [Act.put, List.setIfInBounds_toArray, List.set_cons_zero, List.set_cons_succ])
        refine wpAnyH_take (i := 4) (oi := ⟨some 79, _, _, _, _, _⟩) (v := ?_) rfl (by kernel_rfl) (by kernel_rfl) (by kernel_rfl) (fun _ _ _ h => h) (Or.inl ⟨by rfl, ?hya4⟩) HS4.out ?rea4
        case hya4 => ((intro w hSw; (try dsimp only at hSw); go_simp); first | done | with_reducible rfl)
        (try simp only [Act.put, List.setIfInBounds_toArray, List.set_cons_zero, List.set_cons_succ])
        refine wpAnyH_take (i := 5) (oi := ⟨some 80, _, _, _, _, _⟩) (v := ?_) rfl (by kernel_rfl) (by kernel_rfl) (by kernel_rfl) (fun _ _ _ h => h) (Or.inl ⟨by rfl, ?hya5⟩) HS4.out ?rea5
        case hya5 => ((intro w hSw; (try dsimp only at hSw); go_simp); first | done | with_reducible rfl)
        (try simp only [Act.put, List.setIfInBounds_toArray, List.set_cons_zero, List.set_cons_succ])
        refine wpAnyH_ready (rs := [6]) (by kernel_rfl) (by simp) ?_
        refine AllReadyH.cons rfl (fun K hK => ?_) AllReadyH.nil
        refine step_store_vino rfl 42 _ _ rfl a m _ rfl (by omega) (Nd.cut x s) (HCL.out) rfl HVW.out hm Try.sizeII ?_
        intro w9 hv9 hg9
        refine hK.out _ _ (HS5.out _ hg9) (fun _ => ?_)
        clear hK K
        (try simp only [Act.put, List.setIfInBounds_toArray, List.set_cons_zero, List.set_cons_succ])
        refine wpAnyH_done (by kernel_rfl) ?_ _
        refine NoPanic.normal ?_
        have hvs9 := HVSD.out.ino HVW.out hv9 hg9
        have hdn := hvs9.done HD.out HBL12.out
        have hat := hvs9.at
        have hl9 := HL9.out w9 hg9
        go_wp2_with (go_at_call 44; (with_reducible refine hdn.mono ?_); rintro e w10 ⟨rfl, ho10, hb10⟩)
        go_ret2
        rw [HEND.out]
        exact ⟨_, rfl, own_sl0 ho10 (by rw [Nd.putB_len (Nd.doneTo_len HD.out hvs9.full.2 32 (Nat.le_refl _)) HBL12.out]), hl9.trans (hb10.low.mono hat.2.2.1)⟩
      have f7 : ((r : Int) != 0) = true := by rw [bne_iff_ne]; omega
      have z2 := h12 hr0
      have hp := g3 hr0
      have f8 : (p : Int) < 12 := by omega
      have f9 : (0 : Int) ≤ (p : Int) := by omega
      by_cases hq0 : q = 0
      · have hw2 := hwn (fun h => h.2 hq0)
        have HW3 := Lib.hid hw2
        have f10 : ((q : Int) != 0) = false := by rw [hq0]; rfl
        clear hwn hwy h12 hw2 hr0 hc96 g3 hq0
        rw [HW3.out] at HEND HW2
        go_upto_region 19 with fail
        have hkz := HKZ.out
        have hvz := HVZ.out
        have hlz := HLZ.out
        generalize wr.setCell ⟨bx, 1, none⟩ (.int .i64 (s : Int)) = w8 at *
        clear HKZ HVZ HLZ HVR HKR HLR z0 x0 z2
        have mm0 : (0 : Int) ≤ (m : Int) := by omega
        have mm1 : (m : Int) < 32 := by omega
        obtain ⟨bvz, hvwz⟩ := hvz.vw
        have HS4 : Hid (w8.drew.rangeAt bx 0 (ic (Nd.cut x s))) := (hkz.keep rfl : Bk w8.drew bx 42 (ic (Nd.cut x s))).range
        have HS5 : Hid (∀ W, w8.drew.grownBy W (some a) → W.rangeAt bx 0 (ic (Nd.cut x s))) := fun W hW => (hkz.keep (hW.block bx hkz.lt (by simpa using hbxa)) : Bk W bx 42 (ic (Nd.cut x s))).range
        have HVSD := Lib.hid hvz.drew
        have HVW : Hid (Vw w8.drew a (.slice (some ⟨g, 0, none⟩) 12288 cap) bvz (Nd.inos d)) := ⟨hvwz.k.keep rfl, hvwz.f⟩
        have hlaz := hvz.at.2.1
        have HL9 : Hid (∀ W, w8.drew.grownBy W (some a) → Below w.heap.size w W) := fun W hW => hlz.drew.trans (below_of_grown hW hlaz hlz.size)
        clear hkz hvz hvwz hlz
        refine wp_region_noPanic ?_
        refine wp_region_held_drew (S := fun w' => w'.rangeAt bx 0 (ic (Nd.cut x s))) (by kernel_rfl) HS4.out (fun _ => ?_)
        refine wpAnyH_take (i := 2) (oi := ⟨some 77, _, _, _, _, _⟩) (v := .agg (ic (Nd.cut x s)).toArray) rfl (by kernel_rfl) (by kernel_rfl) (by kernel_rfl) (fun _ _ _ h => h) (yieldsIf_load_mid (by rfl) 42 _ rfl bx 0 rfl (ic (Nd.cut x s)) _ (fun _ h => h) Try.underlying42 rfl (by rw [ic_len HCL.out]; exact Try.sizeII)) HS4.out ?reb2
        (try simp only [Act.put, List.setIfInBounds_toArray, List.set_cons_zero, List.set_cons_succ])
        refine wpAnyH_take (i := 0) (oi := ⟨some 75, _, _, _, _, _⟩) (v := ?_) rfl (by kernel_rfl) (by kernel_rfl) (by kernel_rfl) (fun _ _ _ h => h) (Or.inl ⟨by rfl, ?hyb0⟩) HS4.out ?reb0
        case hyb0 => ((intro w hSw; (try dsimp only at hSw); go_simp); first | done | with_reducible rfl)
        (try simp only [Act.put, List.setIfInBounds_toArray, List.set_cons_zero, List.set_cons_succ])
        refine wpAnyH_take (i := 1) (oi := ⟨some 76, _, _, _, _, _⟩) (v := ?_) rfl (by kernel_rfl) (by kernel_rfl) (by kernel_rfl) (fun _ _ _ h => h) (Or.inl ⟨by rfl, ?hyb1⟩) HS4.out ?reb1
        case hyb1 => ((intro w hSw; (try dsimp only at hSw); go_simp); first | done | with_reducible rfl)
        (try simp only [Act.put, List.setIfInBounds_toArray, List.set_cons_zero, List.set_cons_succ])
        refine wpAnyH_take (i := 3) (oi := ⟨some 78, _, _, _, _, _⟩) (v := ?_) rfl (by kernel_rfl) (by kernel_rfl) (by kernel_rfl) (fun _ _ _ h => h) (Or.inl ⟨by rfl, ?hyb3⟩) HS4.out ?reb3
        case hyb3 => ((intro w hSw; (try dsimp only at hSw); go_simp); first | done | with_reducible rfl)
        (try simp only [Act.put, List.setIfInBounds_toArray, List.set_cons_zero, List.set_cons_succ])
        refine wpAnyH_take (i := 4) (oi := ⟨some 79, _, _, _, _, _⟩) (v := ?_) rfl (by kernel_rfl) (by kernel_rfl) (by kernel_rfl) (fun _ _ _ h => h) (Or.inl ⟨by rfl, ?hyb4⟩) HS4.out ?reb4
        case hyb4 => ((intro w hSw; (try dsimp only at hSw); go_simp); first | done | with_reducible rfl)
        (try simp only [Act.put, List.setIfInBounds_toArray, List.set_cons_zero, List.set_cons_succ])
        refine wpAnyH_take (i := 5) (oi := ⟨some 80, _, _, _, _, _⟩) (v := ?_) rfl (by kernel_rfl) (by kernel_rfl) (by kernel_rfl) (fun _ _ _ h => h) (Or.inl ⟨by rfl, ?hyb5⟩) HS4.out ?reb5
        case hyb5 => ((intro w hSw; (try dsimp only at hSw); go_simp); first | done | with_reducible rfl)
        (try simp only [Act.put, List.setIfInBounds_toArray, List.set_cons_zero, List.set_cons_succ])
        refine wpAnyH_ready (rs := [6]) (by kernel_rfl) (by simp) ?_
        refine AllReadyH.cons rfl (fun K hK => ?_) AllReadyH.nil
        refine step_store_vino rfl 42 _ _ rfl a m _ rfl (by omega) (Nd.cut x s) (HCL.out) rfl HVW.out hm Try.sizeII ?_
        intro w9 hv9 hg9
        refine hK.out _ _ (HS5.out _ hg9) (fun _ => ?_)
        clear hK K
        (try simp only [Act.put, List.setIfInBounds_toArray, List.set_cons_zero, List.set_cons_succ])
        refine wpAnyH_done (by kernel_rfl) ?_ _
        refine NoPanic.normal ?_
        have hvs9 := HVSD.out.ino HVW.out hv9 hg9
        have hdn := hvs9.done HD.out HBL12.out
        have hat := hvs9.at
        have hl9 := HL9.out w9 hg9
        go_wp2_with (go_at_call 44; (with_reducible refine hdn.mono ?_); rintro e w10 ⟨rfl, ho10, hb10⟩)
        go_ret2
        rw [HEND.out]
        exact ⟨_, rfl, own_sl0 ho10 (by rw [Nd.putB_len (Nd.doneTo_len HD.out hvs9.full.2 32 (Nat.le_refl _)) HBL12.out]), hl9.trans (hb10.low.mono hat.2.2.1)⟩
      · have hw2 := hwy hr0 hq0
        have HW3 := Lib.hid hw2
        have f10 : ((q : Int) != 0) = true := by rw [bne_iff_ne]; omega
        have f11 : ¬ cap - q * 128 < r := by unfold maxLen at hat; omega
        have f12 : (0 : Int) ≤ (r : Int) := by omega
        have f13 : (r : Int) ≤ 128 := by omega
        have HBK := Lib.hid (HVR.out.block q hc96)
        have hfit : q * 128 + r + (128 - r) ≤ 12288 := by omega
        clear hwn hwy h12 hw2 hr0 g3 hq0 HKZ HVZ HLZ
        rw [HW3.out] at HEND HW2
        go_upto_region 18 with (first
          | (go_at_call 43; (with_reducible refine HBK.out.mono ?_); rintro e w' ⟨rfl, rfl⟩)
          | (refine wpList_clear_own8 rfl (.tmp 72) 25 rfl 5 Try.underlying25 Try.zero8 w.heap.size g 12288 cap d HVR.out.own (q * 128 + r) (128 - r) (cap - q * 128 - r) rfl hfit ?_; intro w7 ho7 hg7))
        have hv7 := HVR.out.row ho7 hg7
        have hk7 := HKR.out.keep (hg7.block bx HKR.out.lt (by simpa using hbxg))
        have hl7 := HLR.out.trans (below_of_grown hg7 hat.2.2.1 HLR.out.size)
        have z7 : w7.cell? ⟨bx, 1, none⟩ = some (.int .i64 ((Nd.trX x s 12).size : Int)) := hk7.cell 1
        have x7 := hk7.frozen 1
        have hk8 := hk7.set 1 (.int .i64 (s : Int))
        rw [HIC.out] at hk8
        have HKZ := Lib.hid hk8
        have HVZ := Lib.hid (hv7.box (grown_set (w := w7) (g := bx) (i := 1) (u := .int .i64 (s : Int))) hbxa hbxg)
        have HLZ : Hid (Below w.heap.size w (w7.setCell ⟨bx, 1, none⟩ (.int .i64 (s : Int)))) := hl7.setCell hbxl _
        clear hv7 hk7 hl7 hk8 ho7 hg7 HVR HKR HLR z0 x0 z2 HBK
        generalize (Nd.trX x s 12).size = osz at *
        go_upto_region 19 with fail
        have hkz := HKZ.out
        have hvz := HVZ.out
        have hlz := HLZ.out
        generalize w7.setCell ⟨bx, 1, none⟩ (.int .i64 (s : Int)) = w8 at *
        clear HKZ HVZ HLZ z7 x7
        have mm0 : (0 : Int) ≤ (m : Int) := by omega
        have mm1 : (m : Int) < 32 := by omega
        obtain ⟨bvz, hvwz⟩ := hvz.vw
        have HS4 : Hid (w8.drew.rangeAt bx 0 (ic (Nd.cut x s))) := (hkz.keep rfl : Bk w8.drew bx 42 (ic (Nd.cut x s))).range
        have HS5 : Hid (∀ W, w8.drew.grownBy W (some a) → W.rangeAt bx 0 (ic (Nd.cut x s))) := fun W hW => (hkz.keep (hW.block bx hkz.lt (by simpa using hbxa)) : Bk W bx 42 (ic (Nd.cut x s))).range
        have HVSD := Lib.hid hvz.drew
        have HVW : Hid (Vw w8.drew a (.slice (some ⟨g, 0, none⟩) 12288 cap) bvz (Nd.inos d)) := ⟨hvwz.k.keep rfl, hvwz.f⟩
        have hlaz := hvz.at.2.1
        have HL9 : Hid (∀ W, w8.drew.grownBy W (some a) → Below w.heap.size w W) := fun W hW => hlz.drew.trans (below_of_grown hW hlaz hlz.size)
        clear hkz hvz hvwz hlz
        refine wp_region_noPanic ?_
        refine wp_region_held_drew (S := fun w' => w'.rangeAt bx 0 (ic (Nd.cut x s))) (by kernel_rfl) HS4.out (fun _ => ?_)
        refine wpAnyH_take (i := 2) (oi := ⟨some 77, _, _, _, _, _⟩) (v := .agg (ic (Nd.cut x s)).toArray) rfl (by kernel_rfl) (by kernel_rfl) (by kernel_rfl) (fun _ _ _ h => h) (yieldsIf_load_mid (by rfl) 42 _ rfl bx 0 rfl (ic (Nd.cut x s)) _ (fun _ h => h) Try.underlying42 rfl (by rw [ic_len HCL.out]; exact Try.sizeII)) HS4.out ?rec2
        (try simp only [Act.put, List.setIfInBounds_toArray, List.set_cons_zero, List.set_cons_succ])
        refine wpAnyH_take (i := 0) (oi := ⟨some 75, _, _, _, _, _⟩) (v := ?_) rfl (by kernel_rfl) (by kernel_rfl) (by kernel_rfl) (fun _ _ _ h => h) (Or.inl ⟨by rfl, ?hyc0⟩) HS4.out ?rec0
        case hyc0 => ((intro w hSw; (try dsimp only at hSw); go_simp); first | done | with_reducible rfl)
        (try simp only [Act.put, List.setIfInBounds_toArray, List.set_cons_zero, List.set_cons_succ])
        refine wpAnyH_take (i := 1) (oi := ⟨some 76, _, _, _, _, _⟩) (v := ?_) rfl (by kernel_rfl) (by kernel_rfl) (by kernel_rfl) (fun _ _ _ h => h) (Or.inl ⟨by rfl, ?hyc1⟩) HS4.out ?rec1
        case hyc1 => ((intro w hSw; (try dsimp only at hSw); go_simp); first | done | with_reducible rfl)
        (try simp only [Act.put, List.setIfInBounds_toArray, List.set_cons_zero, List.set_cons_succ])
        refine wpAnyH_take (i := 3) (oi := ⟨some 78, _, _, _, _, _⟩) (v := ?_) rfl (by kernel_rfl) (by kernel_rfl) (by kernel_rfl) (fun _ _ _ h => h) (Or.inl ⟨by rfl, ?hyc3⟩) HS4.out ?rec3
        case hyc3 => ((intro w hSw; (try dsimp only at hSw); go_simp); first | done | with_reducible rfl)
        (try simp only [Act.put, List.setIfInBounds_toArray, List.set_cons_zero, List.set_cons_succ])
        refine wpAnyH_take (i := 4) (oi := ⟨some 79, _, _, _, _, _⟩) (v := ?_) rfl (by kernel_rfl) (by kernel_rfl) (by kernel_rfl) (fun _ _ _ h => h) (Or.inl ⟨by rfl, ?hyc4⟩) HS4.out ?rec4
        case hyc4 => ((intro w hSw; (try dsimp only at hSw); go_simp); first | done | with_reducible rfl)
        (try simp only [Act.put, List.setIfInBounds_toArray, List.set_cons_zero, List.set_cons_succ])
        refine wpAnyH_take (i := 5) (oi := ⟨some 80, _, _, _, _, _⟩) (v := ?_) rfl (by kernel_rfl) (by kernel_rfl) (by kernel_rfl) (fun _ _ _ h => h) (Or.inl ⟨by rfl, ?hyc5⟩) HS4.out ?rec5
        case hyc5 => ((intro w hSw; (try dsimp only at hSw); go_simp); first | done | with_reducible rfl)
        (try simp only [Act.put, List.setIfInBounds_toArray, List.set_cons_zero, List.set_cons_succ])
        refine wpAnyH_ready (rs := [6]) (by kernel_rfl) (by simp) ?_
        refine AllReadyH.cons rfl (fun K hK => ?_) AllReadyH.nil
        refine step_store_vino rfl 42 _ _ rfl a m _ rfl (by omega) (Nd.cut x s) (HCL.out) rfl HVW.out hm Try.sizeII ?_
        intro w9 hv9 hg9
        refine hK.out _ _ (HS5.out _ hg9) (fun _ => ?_)
        clear hK K
        (try simp only [Act.put, List.setIfInBounds_toArray, List.set_cons_zero, List.set_cons_succ])
        refine wpAnyH_done (by kernel_rfl) ?_ _
        refine NoPanic.normal ?_
        have hvs9 := HVSD.out.ino HVW.out hv9 hg9
        have hdn := hvs9.done HW2.out HBL12.out
        have hat := hvs9.at
        have hl9 := HL9.out w9 hg9
        go_wp2_with (go_at_call 44; (with_reducible refine hdn.mono ?_); rintro e w10 ⟨rfl, ho10, hb10⟩)
        go_ret2
        rw [HEND.out]
        exact ⟨_, rfl, own_sl0 ho10 (by rw [Nd.putB_len (Nd.doneTo_len HW2.out hvs9.full.2 32 (Nat.le_refl _)) HBL12.out]), hl9.trans (hb10.low.mono hat.2.2.1)⟩
end Go.Proofs.Ytbklmpekpcneeaa
