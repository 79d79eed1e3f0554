/-
  The walks of Content of the reference and of the disk (bytes.Join: the kit's contract, laid here).
-/
import Derived.Test.YteeoonoccklhmaaRdo
import Derived.Test.YteeoonoccklhmaaApp
import Derived.Shelf.Bytes.SlJoin
namespace Go.Proofs.Yteeoonoccklhmaa
open Go.RowKit

theorem flat_len {bs : List (List UInt8)} (h : ∀ i (h : i < bs.length), bs[i].length = 128) (k : Nat) (hk : k ≤ bs.length) : ((bs.take k).flatten).length = k * 128 := by
  induction k with
  | zero => simp
  | succ k ih =>
    rw [List.take_succ_eq_append_getElem (by omega), List.flatten_append, List.length_append, ih (by omega), List.flatten_singleton, h k (by omega)]
    omega
theorem flat_step {bs : List (List UInt8)} (k : Nat) (hk : k < bs.length) : (bs.take (k + 1)).flatten = (bs.take k).flatten ++ bs[k] := by
  rw [List.take_succ_eq_append_getElem hk, List.flatten_append, List.flatten_singleton]

set_option maxRecDepth 100000 in
set_option maxHeartbeats 4000000 in
theorem rcont_w (o : Bool) (ct co cp l lt la : Int) {au ac al : Option Addr} {cu nc cc nl cl : Nat} {bs : List (List UInt8)} {w : World} (hb : Pg w (.slice au bs.length cu) bs) (hn : bs.length ≤ 160) (h128 : ∀ i (h : i < bs.length), bs[i].length = 128) :
    Calls Try.prog 26 #[.agg #[.slice au bs.length cu, .bool o, .int .i64 ct, .int .i64 co, .int .i64 cp, .slice ac nc cc, .int .i64 l, .int .i64 lt, .int .i64 la, .slice al nl cl]] w fun e w' => ∃ v', e = .returned v' ∧ w'.ownsRow w.heap.size 5 1 v' (bs.length * 128) (bs.flatten.map eb) ∧ Below w.heap.size w w' := by
  obtain ⟨a, cap, e1, hc1, hc2, -, hop⟩ := hb.open
  injection e1 with e1 e2 e3
  subst e1 e3
  unfold maxLen at hc2
  have HOP := Lib.hid hop
  have HL := Lib.hid (flat_len h128)
  have HS := Lib.hid (fun k hk => flat_step (bs := bs) k hk)
  have H128 := Lib.hid h128
  have HFL : Hid ((bs.take bs.length).flatten = bs.flatten) := by show _ = _; rw [List.take_length]
  have hb0 : Bk (w.alloc (.cells #[.slice au bs.length cu, .bool o, .int .i64 ct, .int .i64 co, .int .i64 cp, .slice ac nc cc, .int .i64 l, .int .i64 lt, .int .i64 la, .slice al nl cl] 31 (0, 0))) w.heap.size 31 (dkC (.slice au bs.length cu) o ct co cp (.slice ac nc cc) l lt la (.slice al nl cl)) := Bk.new w _ (dkC _ _ _ _ _ _ _ _ _ _)
  obtain ⟨W0, hW0⟩ : ∃ W0, W0 = (w.alloc (.cells #[.slice au bs.length cu, .bool o, .int .i64 ct, .int .i64 co, .int .i64 cp, .slice ac nc cc, .int .i64 l, .int .i64 lt, .int .i64 la, .slice al nl cl] 31 (0, 0))) := ⟨_, rfl⟩
  have hl0 : Below w.heap.size w W0 := by rw [hW0]; exact low_alloc _ _
  rw [← hW0] at hb0
  have HC : Hid (∀ W, Below W0.heap.size W0 W → W.cell? ⟨w.heap.size, 0, none⟩ = some (.slice au bs.length cu)) := fun W hW => (hb0.below hW hb0.lt).cell 0
  have HL0 := Lib.hid hl0
  have hlt0 := hb0.lt
  have HW0 := Lib.hid hW0
  obtain ⟨i0, hi, hz0, hz1, hz2⟩ := info_parts Try.info5
  clear hop h128 hb hW0 hb0 hl0
  go_enter Try.func26, Try.ntmps26
  go_upto_region 1 with fail
  rw [← HW0.out]
  go_wp2_with fail
  go_loopw [3, 4] (fun s3 s4 wr => ∃ (k : Nat) (v : Value), v = s3 ∧ s4 = .int .i64 k ∧ k ≤ bs.length ∧ wr.ownsRow W0.heap.size 5 1 v (k * 128) (((bs.take k).flatten).map eb) ∧ Below W0.heap.size W0 wr) (fun _ s4 _ => bs.length - (intOf s4).toNat)
  case atStart => exact ⟨0, _, rfl, rfl, Nat.zero_le _, World.ownsRow_nil _ _ _ _, low_refl _⟩
  case round =>
    obtain ⟨k, v, rfl, rfl, hk, ho, hlow⟩ := hrel
    have y0 := HC.out wr hlow
    have hbs := hlow.size
    obtain ⟨av, cv, rfl⟩ := own_slice ho
    have HO := Lib.hid ho
    have HLO := Lib.hid hlow
    by_cases hlt : k < bs.length
    · obtain ⟨b, off, a', c', rfl, hbw, x0, hx1, hx2, hx3, hx4⟩ := HOP.out k hlt
      have h8 := H128.out k hlt
      have hbl := stepAny HL0.out hlow
      have HSL : Hid (Sl eb wr (.slice a' 128 c') bs[k]) := ⟨a', c', by rw [h8], hx1, hx2, hx3, hx4.below hbl (Nat.le_refl _)⟩
      have HSk := Lib.hid (HS.out k hlt)
      have H8 := Lib.hid h8
      have x1 : wr.cell? ⟨b, off + k, none⟩ = some (.slice a' 128 c') := by rw [hbl.cell (p := ⟨b, off + k, none⟩) hbw, x0, h8]
      have f1 : (0 : Int) ≤ (k : Int) := by omega
      have f2 : (k : Int) < (bs.length : Int) := by omega
      clear x0 hx1 hx2 hx3 hx4 ho hlow hbl h8
      generalize bs[k] = row at *
      go_wp2_with (at_builtin; refine wpList_append_sl eb (fun _ => rfl) rfl _ _ 23 rfl W0.heap.size 5 i0 (.int .u8 0) 1 Try.underlying23 hi hz0 hz1 hz2 rfl (.slice av (k * 128) cv) (k * 128) ((bs.take k).flatten) rfl HO.out (.slice a' 128 c') row rfl HSL.out (by rw [H8.out]; unfold maxLen; omega) (by rw [H8.out]; omega) (by omega) ?_; intro v7 w7 ho7 hs7 hb7)
      go_roundw
      case rel =>
        refine ⟨k + 1, _, rfl, by go_num, by omega, ?_, HLO.out.trans hb7⟩
        rw [HSk.out, show (k + 1) * 128 = k * 128 + 128 by omega]
        rw [H8.out] at ho7
        exact ho7
      case measure => simp [intOf]; omega
    · obtain rfl : k = bs.length := by omega
      rw [HFL.out] at HO
      clear ho hlow
      go_wp2_with fail
      go_ret
      exact ⟨_, rfl, own_down HO.out (by have := HL0.out.size; omega), stepAny HL0.out HLO.out⟩

/-- bytes.Join of the kit's shelf, laid here in plain words. -/
def Try.laysJoin_ren : Go.Shelf.Ren := ⟨(fun | 14 => 47 | 15 => 54 | n => n), (fun | 0 => 0 | 3 => 3 | 4 => 4 | 9 => 9 | 20 => 20 | 22 => 23 | 26 => 22 | 5 => 5 | n => n), (fun n => n)⟩
theorem Try.laysJoin : SlLaysJ.n14 Try.prog Try.laysJoin_ren := {
  mixed := by kernel_rfl,
  f14 := Try.func47.trans (congrArg some (by kernel_rfl)),
  f15 := Try.func54.trans (congrArg some (by kernel_rfl)),
  t0 := Try.underlying0,
  a0 := Try.isAgg0,
  z0 := Try.sizeOf0,
  v0 := Try.zeroValue0,
  t3 := Try.underlying3,
  a3 := Try.isAgg3,
  z3 := Try.sizeOf3,
  v3 := Try.zeroValue3,
  t4 := Try.underlying4,
  a4 := Try.isAgg4,
  z4 := Try.sizeOf4,
  v4 := Try.zeroValue4,
  t9 := Try.underlying9,
  a9 := Try.isAgg9,
  z9 := Try.sizeOf9,
  v9 := Try.zeroValue9,
  t20 := Try.underlying20,
  a20 := Try.isAgg20,
  z20 := Try.sizeOf20,
  v20 := Try.zeroValue20,
  t22 := Try.underlying23,
  a22 := Try.isAgg23,
  z22 := Try.sizeOf23,
  v22 := Try.zeroValue23,
  t26 := Try.underlying22,
  a26 := Try.isAgg22,
  z26 := Try.sizeOf22,
  v26 := Try.zeroValue22,
  t5 := Try.underlying5,
  z5 := Try.sizeOf5,
  i5 := by kernel_rfl }

theorem Fresh.sl {B : Nat} {w : World} {v : Value} {l : List UInt8} (h : Lib.FreshBytes B w v l) : Sl eb w v l := by
  obtain ⟨g, cap, zs, rfl, -, h2, h3, h4, h5, h6, h7, -⟩ := h
  refine ⟨some ⟨g, 0, none⟩, cap, rfl, h2, h3, by simp, fun i hi => ?_⟩
  have h0 := h7 0 (by omega)
  refine ⟨g, 0, rfl, World.block_lt_of_cell? w _ h0, ?_⟩
  rw [Nat.zero_add, h7 i (by omega)]
  have hz : i < zs.length := by omega
  have e1 : zs.getD i 0 = zs[i] := by simp [List.getD, hz]
  have e2 : l[i] = UInt8.ofNat (zs[i]).toNat := by
    have h8 : l[i]? = some (UInt8.ofNat (zs[i]).toNat) := by
      rw [← h6]
      unfold Lib.bytesOf
      rw [List.getElem?_map, List.getElem?_take, if_pos hi, List.getElem?_eq_getElem hz]
      rfl
    rw [List.getElem?_eq_getElem hi] at h8
    exact Option.some.inj h8
  obtain ⟨g1, g2⟩ := h5 _ (List.getElem_mem hz)
  rw [e1, e2]
  unfold eb
  congr 2
  rw [UInt8.toNat_ofNat']
  omega

theorem join_flat (ls : List (List UInt8)) : Lib.join ls [] = ls.flatten := by
  cases ls with
  | nil => rfl
  | cons x r =>
    rw [Lib.join_cons, List.flatten_cons]
    unfold Lib.joinTail
    simp
theorem lens_flat (ls : List (List UInt8)) : Lib.lens ls = ls.flatten.length := by
  unfold Lib.lens
  rw [List.length_flatten]

theorem djoin_w {au : Option Addr} {cu : Nat} {bs : List (List UInt8)} {w : World} (hb : Pg w (.slice au bs.length cu) bs) (hn : bs.length ≤ 160) (h1 : bs.length ≠ 1) (h128 : ∀ i (h : i < bs.length), bs[i].length = 128) :
    Calls Try.prog 47 #[.slice au bs.length cu, .slice none 0 0] w fun e w' => ∃ v', e = .returned v' ∧ Sl eb w' v' bs.flatten ∧ Below w.heap.size w w' := by
  obtain ⟨vs, ⟨a, cap, e1, hc1, hc2, hna, hrd⟩, hl, he⟩ := hb
  injection e1 with e1 e2 e3
  subst e1 e3
  by_cases h0 : bs.length = 0
  · have hbs : bs = [] := List.eq_nil_of_length_eq_zero h0
    subst hbs
    refine (Any.bytes_Join_none Try.laysJoin au cu (.slice none 0 0) w).mono ?_
    rintro e w' ⟨rfl, rfl⟩
    exact ⟨_, rfl, ⟨some ⟨w.heap.size, 0, none⟩, 0, rfl, Nat.le_refl _, Nat.zero_le _, by simp, fun i hi => absurd hi (by simp)⟩, low_alloc _ _⟩
  · obtain ⟨b, off, rfl, hlt, hcell⟩ := hrd.form (by omega)
    have hP : Lib.PartsAt w ⟨b, off, none⟩ vs bs := by
      refine ⟨hl, fun i v hv => ?_, fun i v l hv hl2 => ?_⟩
      · obtain ⟨hi, rfl⟩ := List.getElem?_eq_some_iff.1 hv
        rw [Lib.add_plain2, hcell i hi]
        rfl
      · obtain ⟨hi, rfl⟩ := List.getElem?_eq_some_iff.1 hv
        obtain ⟨hi2, rfl⟩ := List.getElem?_eq_some_iff.1 hl2
        obtain ⟨a', c', e, k1, k2, k3, k4⟩ := he i hi hi2
        refine ⟨a', c', e, fun hn0 => ?_, fun x hx j y hy => ?_⟩
        · have := k3 hn0
          exact List.eq_nil_of_length_eq_zero (by omega)
        · obtain ⟨hj, rfl⟩ := List.getElem?_eq_some_iff.1 hy
          obtain ⟨b2, o2, e2, -, k6⟩ := k4.form (by omega)
          rw [hx] at e2
          injection e2 with e2
          subst e2
          rw [Lib.add_plain2, k6 j hj]
          rfl
    have hfl := flat_len h128 bs.length (Nat.le_refl _)
    rw [List.take_length] at hfl
    refine (Any.bytes_Join_many Try.laysJoin b off bs.length cu vs bs (.slice none 0 0) [] w rfl (by omega) hP (by omega) ⟨none, 0, rfl, fun _ => rfl, fun a h => by cases h⟩ (by omega) (by rw [lens_flat, hfl]; simp; omega)).mono ?_
    rintro e w' ⟨v', rfl, hf, hb⟩
    rw [join_flat] at hf
    exact ⟨v', rfl, Fresh.sl hf, hb⟩

set_option maxRecDepth 100000 in
theorem dcont_w (o : Bool) (ct co cp l lt la : Int) {au ac al : Option Addr} {cu nc cc nl cl : Nat} {bs : List (List UInt8)} {w : World} (hb : Pg w (.slice au bs.length cu) bs) (hn : bs.length ≤ 160) (h1 : bs.length ≠ 1) (h128 : ∀ i (h : i < bs.length), bs[i].length = 128) :
    Calls Try.prog 25 #[.agg #[.slice au bs.length cu, .bool o, .int .i64 ct, .int .i64 co, .int .i64 cp, .slice ac nc cc, .int .i64 l, .int .i64 lt, .int .i64 la, .slice al nl cl]] w fun e w' => ∃ v', e = .returned v' ∧ Sl eb w' v' bs.flatten ∧ Below w.heap.size w w' := by
  have hb0 : Bk (w.alloc (.cells #[.slice au bs.length cu, .bool o, .int .i64 ct, .int .i64 co, .int .i64 cp, .slice ac nc cc, .int .i64 l, .int .i64 lt, .int .i64 la, .slice al nl cl] 39 (0, 0))) w.heap.size 39 (dkC (.slice au bs.length cu) o ct co cp (.slice ac nc cc) l lt la (.slice al nl cl)) := Bk.new w _ (dkC _ _ _ _ _ _ _ _ _ _)
  obtain ⟨W0, hW0⟩ : ∃ W0, W0 = (w.alloc (.cells #[.slice au bs.length cu, .bool o, .int .i64 ct, .int .i64 co, .int .i64 cp, .slice ac nc cc, .int .i64 l, .int .i64 lt, .int .i64 la, .slice al nl cl] 39 (0, 0))) := ⟨_, rfl⟩
  have hl0 : Below w.heap.size w W0 := by rw [hW0]; exact low_alloc _ _
  rw [← hW0] at hb0
  have HJ := Lib.hid (djoin_w (hb.below hl0 (Nat.le_refl _)) hn h1 h128)
  have y0 : W0.cell? ⟨w.heap.size, 0, none⟩ = some (.slice au bs.length cu) := hb0.cell 0
  have HL0 := Lib.hid hl0
  have HW0 := Lib.hid hW0
  clear hb h128 hW0 hb0 hl0 h1
  go_enter Try.func25, Try.ntmps25
  go_upto_region 1 with fail
  rw [← HW0.out]
  go_wp2_with (go_at_call 47; (with_reducible refine HJ.out.mono ?_); rintro e w1 ⟨v1, rfl, hs1, hb1⟩)
  go_ret
  exact ⟨_, rfl, hs1, stepAny HL0.out hb1⟩
end Go.Proofs.Yteeoonoccklhmaa
