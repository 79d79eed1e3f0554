/-
  The walks of bytes.Clone, bytes.Equal, and of the reference's SameBytes and SameInts.
-/
import Derived.Test.YtkgheilaleekdaaRows
import Derived.Test.YtkgheilaleekdaaMem2
import Derived.Laws.BytesArg
namespace Go.Proofs.Ytkgheilaleekdaa
open Go.RowKit

theorem Try.info5 : (Try.prog.info? 5).map (fun i => (i.zero, i.size, i.bytes)) = some (some (.int .u8 0), 1, 1) := by kernel_rfl

set_option maxHeartbeats 400000 in
/-- bytes.Clone. -/
theorem bclone_w {v : Value} {xs : List UInt8} {w : World} (hv : Sl eb w v xs) (hm : xs.length ≤ 1000000) :
    Calls Try.prog 34 #[v] w fun e w' => ∃ v, e = .returned v ∧ w'.ownsRow w.heap.size 5 1 v xs.length (xs.map eb) ∧ Below w.heap.size w w' := by
  obtain ⟨a, cap, rfl, hc, hcm, hn, hr⟩ := hv
  obtain ⟨i0, hi, hz0, hz1, hz2⟩ := info_parts Try.info5
  have he := fun (W : World) (a : Option Addr) (n c : Nat) => Lib.run_eql_slice_nil (P := Try.prog) W 27 5 a n c 0 0 Try.underlying27
  cases a with
  | none =>
    have hc0 := hn rfl
    obtain rfl : xs = [] := by cases xs with | nil => rfl | cons x xs => simp at hc; omega
    subst hc0
    go_enter Try.func34, Try.ntmps34
    go_wp2
    go_ret
    exact ⟨_, rfl, World.ownsRow_nil _ _ _ _, Below.refl _ _⟩
  | some ad =>
    go_enter Try.func34, Try.ntmps34
    go_wp2_with (at_builtin; refine wpList_append_rd eb (fun _ => rfl) rfl _ _ 27 rfl w.heap.size 5 i0 (.int .u8 0) 1 Try.underlying27 hi hz0 hz1 hz2 rfl _ 0 [] rfl (World.ownsRow_made w #[] 0 (Nat.le_refl _) (Nat.zero_le _) rfl) (some ad) cap xs xs.length rfl rfl (by simp) hc (hr.below ((Below.refl _ w).alloc (Nat.le_refl _) _) (Nat.le_refl _)) (by unfold maxLen; omega) (by omega) (by simp) ?_; intro v1 w1 hown hg hbl)
    go_wp2
    go_ret
    exact ⟨_, rfl, by simpa using hown, ((Below.refl _ w).alloc (Nat.le_refl _) _).trans hbl⟩

theorem strOf_bytes (xs : List UInt8) : strOfNums (xs.map fun b => (b.toNat : Int)) = ⟨xs.toArray⟩ := by
  unfold strOfNums
  rw [List.map_map]
  congr 2
  conv => rhs; rw [← List.map_id xs]
  apply List.map_congr_left
  intro b _
  simp

theorem conv_run (w : World) (a : Option Addr) (xs : List UInt8) (c : Nat) (h : Rd eb w a xs) : (convert 27 9 (.slice a xs.length c)).run Try.prog w = .ok (.string ⟨xs.toArray⟩) w := by
  have h1 : Try.prog.underlying 27 = some (.slice 5) := rfl
  have h2 : Try.prog.underlying 5 = some (.int .u8) := rfl
  have h3 : Try.prog.underlying 9 = some .string := rfl
  by_cases h0 : 0 < xs.length
  · obtain ⟨b, off, rfl, hb, hc⟩ := h.form h0
    have := run_convert_bytes_arg (P := Try.prog) w 27 5 h1 h2 b off xs.length c (xs.map fun b => (b.toNat : Int)) (by simp) (fun i hi => by
      rw [hc i hi]; simp [eb, hi]) 9 h3
    rw [strOf_bytes] at this
    exact this
  · obtain rfl : xs = [] := List.eq_nil_of_length_eq_zero (by omega)
    cases a with
    | none => exact run_convert_bytes_nil (P := Try.prog) w 27 5 h1 h2 0 c 9 h3
    | some p =>
      rw [run_convert_bytes_string w _ _ _ _ _ _ h1 h2 h3]
      have := run_bytesToString (P := Try.prog) w p 0 c [] (by simpa using run_loadCells_list (P := Try.prog) w p [] (by simp))
      exact this

set_option maxHeartbeats 400000 in
theorem bequal_w (va vb : Value) (xs ys : List UInt8) (w : World) (ha : Sl eb w va xs) (hb : Sl eb w vb ys) :
    Calls Try.prog 42 #[va, vb] w fun e w' => e = .returned (.bool (decide (xs = ys))) ∧ w = w' := by
  obtain ⟨a, ca, rfl, ha1, ha2, ha3, hra⟩ := ha
  obtain ⟨b, cb, rfl, hb1, hb2, hb3, hrb⟩ := hb
  have H1 := conv_run w a xs ca hra
  have H2 := conv_run w b ys cb hrb
  clear hra hrb
  go_enter Try.func42, Try.ntmps42
  go_wp2_with fail
  go_ret
  exact ⟨ret_bool (by rw [Bool.eq_iff_iff]; simp), rfl⟩

theorem eb_ne {x y : UInt8} (h : x ≠ y) : ((x.toNat : Int) != (y.toNat : Int)) = true := by
  rw [bne_iff_ne]; intro e; exact h (UInt8.toNat_inj.1 (by omega))

set_option maxHeartbeats 400000 in
theorem sameBytes_q (va vb : Value) (xs ys : List UInt8) (w : World) (ha : Sl eb w va xs) (hb : Sl eb w vb ys) :
    Calls Try.prog 15 #[va, vb] w fun e w' => e = .returned (.bool (decide (xs = ys))) ∧ ∃ q, w' = w.drewN q := by
  obtain ⟨a, ca, rfl, ha1, ha2, ha3, hra⟩ := ha
  obtain ⟨b, cb, rfl, hb1, hb2, hb3, hrb⟩ := hb
  unfold maxLen at ha2 hb2
  by_cases hl : xs.length = ys.length
  · have hne : ((xs.length : Int) != (ys.length : Int)) = false := by simp [hl]
    have HL := Lib.hid hl
    clear hl
    go_enter Try.func15, Try.ntmps15
    go_wp2
    go_loopw [5] (fun i wr => ∃ k : Nat, k ≤ xs.length ∧ i = .int .i64 k ∧ (∀ j (hj : j < xs.length) (hj' : j < ys.length), j < k → xs[j] = ys[j]) ∧ ∃ q, wr = w.drewN q) (fun i _ => xs.length - (intOf i).toNat)
    case atStart => exact ⟨0, Nat.zero_le _, rfl, fun j _ _ hj => absurd hj (Nat.not_lt_zero _), 0, rfl⟩
    case round =>
      obtain ⟨k, hk, rfl, hno, q, rfl⟩ := hrel
      have HN := Lib.hid hno
      clear hno
      by_cases hlt : k < xs.length
      · have hlt' : k < ys.length := by have := HL.out; omega
        obtain ⟨b1, off1, rfl, hbl1, hc1⟩ := hra.form (by omega)
        obtain ⟨b2, off2, rfl, hbl2, hc2⟩ := hrb.form (by omega)
        have hk1 : w.cell? ⟨b1, off1 + k, none⟩ = some (.int .u8 (xs[k].toNat : Int)) := hc1 k hlt
        have hk2 : w.cell? ⟨b2, off2 + k, none⟩ = some (.int .u8 (ys[k].toNat : Int)) := hc2 k hlt'
        clear hc1 hc2
        have f1 : (0 : Int) ≤ (k : Int) := by omega
        have f2 : (k : Int) < (xs.length : Int) := by omega
        have f3 : (k : Int) < (ys.length : Int) := by omega
        by_cases he : xs[k] = ys[k]
        · have hq : ((xs[k].toNat : Int) != (ys[k].toNat : Int)) = false := by simp [he]
          have HE := Lib.hid he
          clear he
          go_wp2_with fail
          go_quiet (fail)
          go_wp2
          go_roundw
          case rel => exact ⟨k + 1, by omega, by go_num, fun j hj hj' hjk => by by_cases e : j = k; { subst e; exact HE.out }; exact HN.out j hj hj' (by omega), by first | exact ⟨_, rfl⟩ | exact ⟨_, World.drewN_drewN _ _ _⟩⟩
          case measure => simp [intOf]; omega
        · have hq : ((xs[k].toNat : Int) != (ys[k].toNat : Int)) = true := eb_ne he
          have HE := Lib.hid he
          clear he
          go_wp2_with fail
          go_quiet (fail)
          go_wp2
          go_ret
          refine ⟨ret_bool ?_, by first | exact ⟨_, rfl⟩ | exact ⟨_, World.drewN_drewN _ _ _⟩⟩
          symm
          rw [decide_eq_false_iff_not]
          intro e
          subst e
          exact HE.out rfl
      · go_wp2
        go_ret
        refine ⟨ret_bool ?_, q, rfl⟩
        symm
        rw [decide_eq_true_iff]
        exact List.ext_getElem HL.out fun j h1 h2 => HN.out j h1 h2 (by omega)
  · have hne : ((xs.length : Int) != (ys.length : Int)) = true := by rw [bne_iff_ne]; omega
    have HL := Lib.hid hl
    clear hl
    go_enter Try.func15, Try.ntmps15
    go_wp2
    go_ret
    refine ⟨ret_bool ?_, 0, rfl⟩
    symm
    rw [decide_eq_false_iff_not]
    intro e
    subst e
    exact HL.out rfl

theorem drewN_below {w : World} (q : Nat) : Below w.heap.size w (w.drewN q) := ⟨rfl, rfl, rfl, Nat.le_refl _, fun _ _ => rfl⟩

theorem sameBytes_w {va vb : Value} {xs ys : List UInt8} {w : World} (ha : Sl eb w va xs) (hb : Sl eb w vb ys) :
    Calls Try.prog 15 #[va, vb] w fun e w' => e = .returned (.bool (decide (xs = ys))) ∧ Below w.heap.size w w' :=
  (sameBytes_q va vb xs ys w ha hb).mono fun _ _ ⟨h, q, hq⟩ => ⟨h, hq ▸ drewN_below q⟩

theorem sameBytes_t {va vb : Value} {xs : List UInt8} {w : World} (ha : Sl eb w va xs) (hb : Sl eb w vb xs) :
    Calls Try.prog 15 #[va, vb] w fun e w' => e = .returned (.bool true) ∧ Below w.heap.size w w' :=
  (sameBytes_w ha hb).mono fun _ _ ⟨h, h'⟩ => ⟨by rw [h, decide_eq_true rfl], h'⟩

set_option maxHeartbeats 400000 in
theorem sameInts_q (va vb : Value) (xs ys : List Int) (w : World) (ha : Sl (Value.int .i64) w va xs) (hb : Sl (Value.int .i64) w vb ys) :
    Calls Try.prog 24 #[va, vb] w fun e w' => e = .returned (.bool (decide (xs = ys))) ∧ ∃ q, w' = w.drewN q := by
  obtain ⟨a, ca, rfl, ha1, ha2, ha3, hra⟩ := ha
  obtain ⟨b, cb, rfl, hb1, hb2, hb3, hrb⟩ := hb
  unfold maxLen at ha2 hb2
  by_cases hl : xs.length = ys.length
  · have hne : ((xs.length : Int) != (ys.length : Int)) = false := by simp [hl]
    have HL := Lib.hid hl
    clear hl
    go_enter Try.func24, Try.ntmps24
    go_wp2
    go_loopw [5] (fun i wr => ∃ k : Nat, k ≤ xs.length ∧ i = .int .i64 k ∧ (∀ j (hj : j < xs.length) (hj' : j < ys.length), j < k → xs[j] = ys[j]) ∧ ∃ q, wr = w.drewN q) (fun i _ => xs.length - (intOf i).toNat)
    case atStart => exact ⟨0, Nat.zero_le _, rfl, fun j _ _ hj => absurd hj (Nat.not_lt_zero _), 0, rfl⟩
    case round =>
      obtain ⟨k, hk, rfl, hno, q, rfl⟩ := hrel
      have HN := Lib.hid hno
      clear hno
      by_cases hlt : k < xs.length
      · have hlt' : k < ys.length := by have := HL.out; omega
        obtain ⟨b1, off1, rfl, hbl1, hc1⟩ := hra.form (by omega)
        obtain ⟨b2, off2, rfl, hbl2, hc2⟩ := hrb.form (by omega)
        have hk1 : w.cell? ⟨b1, off1 + k, none⟩ = some (.int .i64 xs[k]) := hc1 k hlt
        have hk2 : w.cell? ⟨b2, off2 + k, none⟩ = some (.int .i64 ys[k]) := hc2 k hlt'
        clear hc1 hc2
        have f1 : (0 : Int) ≤ (k : Int) := by omega
        have f2 : (k : Int) < (xs.length : Int) := by omega
        have f3 : (k : Int) < (ys.length : Int) := by omega
        by_cases he : xs[k] = ys[k]
        · have hq : (xs[k] != ys[k]) = false := by simp [he]
          have HE := Lib.hid he
          clear he
          go_wp2_with fail
          go_quiet (fail)
          go_wp2
          go_roundw
          case rel => exact ⟨k + 1, by omega, by go_num, fun j hj hj' hjk => by by_cases e : j = k; { subst e; exact HE.out }; exact HN.out j hj hj' (by omega), by first | exact ⟨_, rfl⟩ | exact ⟨_, World.drewN_drewN _ _ _⟩⟩
          case measure => simp [intOf]; omega
        · have hq : (xs[k] != ys[k]) = true := by simp [he]
          have HE := Lib.hid he
          clear he
          go_wp2_with fail
          go_quiet (fail)
          go_wp2
          go_ret
          refine ⟨ret_bool ?_, by first | exact ⟨_, rfl⟩ | exact ⟨_, World.drewN_drewN _ _ _⟩⟩
          symm
          rw [decide_eq_false_iff_not]
          intro e
          subst e
          exact HE.out rfl
      · go_wp2
        go_ret
        refine ⟨ret_bool ?_, q, rfl⟩
        symm
        rw [decide_eq_true_iff]
        exact List.ext_getElem HL.out fun j h1 h2 => HN.out j h1 h2 (by omega)
  · have hne : ((xs.length : Int) != (ys.length : Int)) = true := by rw [bne_iff_ne]; omega
    have HL := Lib.hid hl
    clear hl
    go_enter Try.func24, Try.ntmps24
    go_wp2
    go_ret
    refine ⟨ret_bool ?_, 0, rfl⟩
    symm
    rw [decide_eq_false_iff_not]
    intro e
    subst e
    exact HL.out rfl

theorem sameInts_t {va vb : Value} {xs : List Int} {w : World} (ha : Sl (Value.int .i64) w va xs) (hb : Sl (Value.int .i64) w vb xs) :
    Calls Try.prog 24 #[va, vb] w fun e w' => e = .returned (.bool true) ∧ Below w.heap.size w w' :=
  (sameInts_q va vb xs xs w ha hb).mono fun _ _ ⟨h, q, hq⟩ => ⟨by rw [h, decide_eq_true rfl], hq ▸ drewN_below q⟩
end Go.Proofs.Ytkgheilaleekdaa
