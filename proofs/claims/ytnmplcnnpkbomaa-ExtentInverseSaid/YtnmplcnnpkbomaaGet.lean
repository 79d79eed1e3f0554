/-
  The walks of Get (both), put, valid (both), few.
-/
import Derived.Test.YtnmplcnnpkbomaaRows
import Derived.Test.YtnmplcnnpkbomaaMem
import Derived.Test.YtnmplcnnpkbomaaSpec
namespace Go.Proofs.Ytnmplcnnpkbomaa
open Go.RowKit

theorem ret_bool {a b : Bool} (h : a = b) : Ending.returned (.bool a) = .returned (.bool b) := by rw [h]
theorem ret_int {k : IntKind} {a b : Int} (h : a = b) : Ending.returned (.int k a) = .returned (.int k b) := by rw [h]

theorem wrap_u8_in (n : Int) (h0 : 0 ≤ n) (h1 : n < 256) : IntKind.u8.wrap n = n := by
  simp only [IntKind.wrap, IntKind.bits, IntKind.signed, Bool.false_and]
  simp
  omega

theorem bv8 (x : Nat) (h : x < 256) : (BitVec.ofInt 8 (x : Int)).toNat = x := by
  rw [BitVec.ofInt_natCast, BitVec.toNat_ofNat]; exact Nat.mod_eq_of_lt (by omega)

theorem get_bit (x : UInt8) (k : Nat) : (Go.bits BinOp.and IntKind.u8 ((x.toNat : Int) / 2 ^ k) 1 == 1) = Ex.bitB x k := by
  have hx : x.toNat < 256 := x.toNat_lt
  have hd : x.toNat / 2 ^ k < 256 := Nat.lt_of_le_of_lt (Nat.div_le_self _ _) hx
  have h1 : ((x.toNat : Int) / 2 ^ k) = ((x.toNat / 2 ^ k : Nat) : Int) := by simp
  have h2 : x.toNat / 2 ^ k &&& 1 < 2 ^ 8 := Nat.and_lt_two_pow _ (by omega)
  have h3 : Go.bits BinOp.and IntKind.u8 ((x.toNat : Int) / 2 ^ k) 1 = ((x.toNat / 2 ^ k % 2 : Nat) : Int) := by
    rw [h1]
    show IntKind.u8.wrap ((BitVec.ofInt 8 ((x.toNat / 2 ^ k : Nat) : Int) &&& BitVec.ofInt 8 (1 : Int)).toNat : Int) = _
    rw [BitVec.toNat_and, bv8 _ hd, show (BitVec.ofInt 8 (1 : Int)).toNat = 1 from rfl, wrap_u8_in _ (by omega) (by omega), Nat.and_one_is_mod]
  rw [h3]
  unfold Ex.bitB
  rw [Nat.testBit_eq_decide_div_mod_eq, Bool.eq_iff_iff]
  simp
  omega

theorem pow8 {k : Nat} (hk : k < 8) : (2 : Int) ^ k % 256 = ((2 ^ k : Nat) : Int) ∧ 2 ^ k < 256 := by
  have h2 : 2 ^ k < 256 := by
    have : 2 ^ k < 2 ^ 8 := Nat.pow_lt_pow_right (by omega) hk
    simpa using this
  have h : (2 : Int) ^ k = ((2 ^ k : Nat) : Int) := by simp
  refine ⟨?_, h2⟩
  rw [h]
  exact Int.emod_eq_of_lt (Int.natCast_nonneg _) (Int.ofNat_lt.2 h2)

theorem set_on (x : UInt8) {k : Nat} (hk : k < 8) : Go.bits BinOp.or IntKind.u8 (x.toNat : Int) (2 ^ k % 256) = ((Ex.setB x k true).toNat : Int) := by
  obtain ⟨h1, h2⟩ := pow8 hk
  have hx : x.toNat < 256 := x.toNat_lt
  have h3 : x.toNat ||| 2 ^ k < 2 ^ 8 := Nat.or_lt_two_pow (by omega) (by omega)
  rw [h1, Ex.setB_nat x hk true]
  show IntKind.u8.wrap ((BitVec.ofInt 8 (x.toNat : Int) ||| BitVec.ofInt 8 ((2 ^ k : Nat) : Int)).toNat : Int) = _
  rw [BitVec.toNat_or, bv8 _ hx, bv8 _ h2, wrap_u8_in _ (by omega) (by omega)]
  simp

theorem set_off (x : UInt8) {k : Nat} (hk : k < 8) : Go.bits BinOp.andNot IntKind.u8 (x.toNat : Int) (2 ^ k % 256) = ((Ex.setB x k false).toNat : Int) := by
  obtain ⟨h1, h2⟩ := pow8 hk
  have hx : x.toNat < 256 := x.toNat_lt
  rw [h1, Ex.setB_nat x hk false]
  have h3 : (BitVec.ofInt 8 (x.toNat : Int) &&& ~~~BitVec.ofInt 8 ((2 ^ k : Nat) : Int)) = (BitVec.ofInt 8 (x.toNat : Int) ^^^ (BitVec.ofInt 8 (x.toNat : Int) &&& BitVec.ofInt 8 ((2 ^ k : Nat) : Int))) := by
    apply BitVec.eq_of_getLsbD_eq
    intro i hi
    simp only [BitVec.getLsbD_and, BitVec.getLsbD_not, BitVec.getLsbD_xor, hi, decide_true, Bool.true_and]
    cases (BitVec.ofInt 8 (x.toNat : Int)).getLsbD i <;> simp
  show IntKind.u8.wrap ((BitVec.ofInt 8 (x.toNat : Int) &&& ~~~BitVec.ofInt 8 ((2 ^ k : Nat) : Int)).toNat : Int) = _
  rw [h3, BitVec.toNat_xor, BitVec.toNat_and, bv8 _ hx, bv8 _ h2]
  have h4 : x.toNat ^^^ (x.toNat &&& 2 ^ k) < 2 ^ 8 := Nat.xor_lt_two_pow (by omega) (Nat.and_lt_two_pow _ (by omega))
  rw [wrap_u8_in _ (by omega) (by omega)]
  simp

set_option maxHeartbeats 400000 in
theorem get_w (a : Option Addr) (cap n : Nat) (xs : List UInt8) (i : Int) (w : World) (hl : xs.length = n) (hm : n ≤ 1000000) (hr : Rd eb w a xs) (hi : i ≤ 9223372036854775807) :
    Calls Try.prog 18 #[.slice a n cap, .int .i64 i] w fun e w' => e = .returned (.bool (Ex.getB xs i)) ∧ w = w' := by
  subst hl
  by_cases h0 : 0 ≤ i
  · by_cases h1 : i / 8 < (xs.length : Int)
    · obtain ⟨j, rfl⟩ := Int.eq_ofNat_of_zero_le h0
      have hj : j / 8 < xs.length := by omega
      obtain ⟨b, off, rfl, hb, hc⟩ := hr.form (by omega)
      have hck := hc (j / 8) hj
      unfold eb at hck
      clear hc hr
      have e1 : ((j : Int) / 8).toNat = j / 8 := by omega
      go_enter Try.func18, Try.ntmps18
      go_wp2
      go_ret
      refine ⟨ret_bool ?_, rfl⟩
      rw [get_bit, Ex.getB_nat, decide_eq_true hj]
      simp [List.getD, hj]
    · have h1' : (xs.length : Int) ≤ i / 8 := by omega
      go_enter Try.func18, Try.ntmps18
      go_wp2
      go_ret
      refine ⟨ret_bool ?_, rfl⟩
      obtain ⟨j, rfl⟩ := Int.eq_ofNat_of_zero_le h0
      rw [Ex.getB_out xs (by omega)]
  · go_enter Try.func18, Try.ntmps18
    go_wp2
    go_ret
    exact ⟨ret_bool (by rw [Ex.getB_neg xs (by omega)]), rfl⟩

set_option maxHeartbeats 400000 in
theorem rget_w (a : Option Addr) (cap n : Nat) (xs : List UInt8) (i : Int) (w : World) (hl : xs.length = n) (hm : n ≤ 1000000) (hr : Rd eb w a xs) (hi : i ≤ 9223372036854775807) :
    Calls Try.prog 25 #[.slice a n cap, .int .i64 i] w fun e w' => e = .returned (.bool (Ex.getB xs i)) ∧ w = w' := by
  subst hl
  by_cases h0 : 0 ≤ i
  · by_cases h1 : i / 8 < (xs.length : Int)
    · obtain ⟨j, rfl⟩ := Int.eq_ofNat_of_zero_le h0
      have hj : j / 8 < xs.length := by omega
      obtain ⟨b, off, rfl, hb, hc⟩ := hr.form (by omega)
      have hck := hc (j / 8) hj
      unfold eb at hck
      clear hc hr
      have e1 : ((j : Int) / 8).toNat = j / 8 := by omega
      go_enter Try.func25, Try.ntmps25
      go_wp2
      go_ret
      refine ⟨ret_bool ?_, rfl⟩
      rw [get_bit, Ex.getB_nat, decide_eq_true hj]
      simp [List.getD, hj]
    · have h1' : (xs.length : Int) ≤ i / 8 := by omega
      go_enter Try.func25, Try.ntmps25
      go_wp2
      go_ret
      refine ⟨ret_bool ?_, rfl⟩
      obtain ⟨j, rfl⟩ := Int.eq_ofNat_of_zero_le h0
      rw [Ex.getB_out xs (by omega)]
  · go_enter Try.func25, Try.ntmps25
    go_wp2
    go_ret
    exact ⟨ret_bool (by rw [Ex.getB_neg xs (by omega)]), rfl⟩

/-- A row of bytes of the call's own in block g. -/
def Bm (w : World) (base g cap : Nat) (xs : List UInt8) : Prop := w.ownsRow base 5 1 (.slice (some ⟨g, 0, none⟩) xs.length cap) xs.length (xs.map eb)

theorem Bm.cell {w : World} {base g cap : Nat} {xs : List UInt8} (h : Bm w base g cap xs) (j : Nat) (hj : j < xs.length) : w.cell? ⟨g, j, none⟩ = some (eb xs[j]) := by
  have := World.ownsRow.cellAt h j (by omega)
  rw [this]
  simp [hj]

theorem Bm.rd {w : World} {base g cap : Nat} {xs : List UInt8} (h : Bm w base g cap xs) : Rd eb w (some ⟨g, 0, none⟩) xs := by
  intro i hi
  exact ⟨g, 0, rfl, (World.ownsRow.lt h g rfl).2, by rw [Nat.zero_add]; exact h.cell i hi⟩

set_option maxHeartbeats 400000 in
theorem put_w (base g cap : Nat) (xs : List UInt8) (i : Int) (on : Bool) (w : World) (h : Bm w base g cap xs) (hm : xs.length ≤ 1000000) (hi0 : 0 ≤ i) (hi : i < 8 * xs.length) :
    Calls Try.prog 34 #[.slice (some ⟨g, 0, none⟩) xs.length cap, .int .i64 i, .bool on] w fun e w' => e = .returned (.tuple #[]) ∧ Bm w' base g cap (Ex.putB xs i.toNat on) ∧ w.grownBy w' (some g) := by
  obtain ⟨j, rfl⟩ := Int.eq_ofNat_of_zero_le hi0
  rw [Int.toNat_natCast]
  have hj : j / 8 < xs.length := by omega
  have hk : j % 8 < 8 := Nat.mod_lt _ (by omega)
  have hck := h.cell (j / 8) hj
  have hfz := World.ownsRow.frozenAt h (j / 8)
  have hst := World.ownsRow.stored (w := w.drew) h (j / 8) (eb (Ex.setB xs[j / 8] (j % 8) on))
  have hpb : (xs.map eb).set (j / 8) (eb (Ex.setB xs[j / 8] (j % 8) on)) = (Ex.putB xs j on).map eb := by
    unfold Ex.putB; simp [List.getD, hj]
  rw [hpb] at hst
  have hlen := Ex.length_putB xs j on
  unfold eb at hck
  have e1 : ((j : Int) / 8).toNat = j / 8 := by omega
  have e2 : (0 : Int) ≤ (j : Int) / 8 := by omega
  have e3 : (j : Int) / 8 < (xs.length : Int) := by omega
  have e4 : (0 : Int) ≤ (j : Int) % 8 := by omega
  have HST := Lib.hid hst
  have HON := Lib.hid (set_on xs[j / 8] hk)
  have HOF := Lib.hid (set_off xs[j / 8] hk)
  have HL := Lib.hid hlen
  clear hst hpb hlen h
  cases on with
  | true =>
    go_enter Try.func34, Try.ntmps34
    go_wp2
    go_region
    go_end0
    rw [HON.out]
    refine ⟨rfl, ?_, ?_⟩
    · unfold Bm
      rw [HL.out]
      exact HST.out.1
    · have h2 := HST.out.2
      exact ⟨h2.os, h2.tape, h2.output, h2.size, h2.block⟩
  | false =>
    go_enter Try.func34, Try.ntmps34
    go_wp2
    go_region
    go_end0
    rw [HOF.out]
    refine ⟨rfl, ?_, ?_⟩
    · unfold Bm
      rw [HL.out]
      exact HST.out.1
    · have h2 := HST.out.2
      exact ⟨h2.os, h2.tape, h2.output, h2.size, h2.block⟩

set_option maxHeartbeats 400000 in
theorem valid_w (a : Option Addr) (cap n : Nat) (x y : Int) (w : World) (hm : n ≤ 1000000) :
    Calls Try.prog 32 #[.slice a n cap, .int .i64 x, .int .i64 y] w fun e w' => e = .returned (.bool (Ex.okR n x y)) ∧ w = w' := by
  by_cases h1 : 0 ≤ x
  · by_cases h2 : x ≤ y
    · by_cases h3 : y ≤ 8 * (n : Int)
      · go_enter Try.func32, Try.ntmps32
        go_wp2
        go_ret
        exact ⟨ret_bool (by simp [Ex.okR]; omega), rfl⟩
      · go_enter Try.func32, Try.ntmps32
        go_wp2
        go_ret
        exact ⟨ret_bool (by simp [Ex.okR]; omega), rfl⟩
    · go_enter Try.func32, Try.ntmps32
      go_wp2
      go_ret
      exact ⟨ret_bool (by simp [Ex.okR]; omega), rfl⟩
  · go_enter Try.func32, Try.ntmps32
    go_wp2
    go_ret
    exact ⟨ret_bool (by simp [Ex.okR]; omega), rfl⟩

set_option maxHeartbeats 400000 in
theorem rvalid_w (a : Option Addr) (cap n : Nat) (x y : Int) (w : World) (hm : n ≤ 1000000) :
    Calls Try.prog 35 #[.slice a n cap, .int .i64 x, .int .i64 y] w fun e w' => e = .returned (.bool (Ex.okR n x y)) ∧ w = w' := by
  by_cases h1 : 0 ≤ x
  · by_cases h2 : x ≤ y
    · by_cases h3 : y ≤ 8 * (n : Int)
      · go_enter Try.func35, Try.ntmps35
        go_wp2
        go_ret
        exact ⟨ret_bool (by simp [Ex.okR]; omega), rfl⟩
      · go_enter Try.func35, Try.ntmps35
        go_wp2
        go_ret
        exact ⟨ret_bool (by simp [Ex.okR]; omega), rfl⟩
    · go_enter Try.func35, Try.ntmps35
      go_wp2
      go_ret
      exact ⟨ret_bool (by simp [Ex.okR]; omega), rfl⟩
  · go_enter Try.func35, Try.ntmps35
    go_wp2
    go_ret
    exact ⟨ret_bool (by simp [Ex.okR]; omega), rfl⟩

theorem Try.info5 : (Try.prog.info? 5).map (fun i => (i.zero, i.size, i.bytes)) = some (some (.int .u8 0), 1, 1) := by kernel_rfl

set_option maxHeartbeats 400000 in
/-- slices.Clone of bytes. -/
theorem clone_w {v : Value} {xs : List UInt8} {w : World} (hv : Sl eb w v xs) (hm : xs.length ≤ 1000000) :
    Calls Try.prog 33 #[v] w fun e w' => ∃ v, e = .returned v ∧ w'.ownsRow w.heap.size 5 1 v xs.length (xs.map eb) ∧ Below w.heap.size w w' := by
  obtain ⟨a, cap, rfl, hc, hcm, hn, hr⟩ := hv
  obtain ⟨i0, hi, hz0, hz1, hz2⟩ := info_parts Try.info5
  have he := fun (W : World) (a : Option Addr) (n c : Nat) => Lib.run_eql_slice_nil (P := Try.prog) W 22 5 a n c 0 0 Try.underlying22
  cases a with
  | none =>
    have hc0 := hn rfl
    obtain rfl : xs = [] := by cases xs with | nil => rfl | cons x xs => simp at hc; omega
    subst hc0
    go_enter Try.func33, Try.ntmps33
    go_wp2
    go_ret
    exact ⟨_, rfl, World.ownsRow_nil _ _ _ _, Below.refl _ _⟩
  | some ad =>
    go_enter Try.func33, Try.ntmps33
    go_wp2_with (at_builtin; refine wpList_append_rd eb (fun _ => rfl) rfl _ _ 22 rfl w.heap.size 5 i0 (.int .u8 0) 1 Try.underlying22 hi hz0 hz1 hz2 rfl _ 0 [] rfl (World.ownsRow_made w #[] 0 (Nat.le_refl _) (Nat.zero_le _) rfl) (some ad) cap xs xs.length rfl rfl (by simp) hc (hr.below ((Below.refl _ w).alloc (Nat.le_refl _) _) (Nat.le_refl _)) (by unfold maxLen; omega) (by omega) (by simp) ?_; intro v1 w1 hown hg hbl)
    go_wp2
    go_ret
    exact ⟨_, rfl, by simpa using hown, ((Below.refl _ w).alloc (Nat.le_refl _) _).trans hbl⟩

set_option maxHeartbeats 400000 in
theorem few_w (v : Value) (xs : List UInt8) (w : World) (hv : Sl eb w v xs) :
    Calls Try.prog 11 #[v] w fun e w' => e = .returned (.bool (decide ((xs.length : Int) ≤ 40))) ∧ w = w' := by
  obtain ⟨a, cap, rfl, hc, hcm, hn, hr⟩ := hv
  go_enter Try.func11, Try.ntmps11
  go_wp2
  go_ret
  exact ⟨rfl, rfl⟩
end Go.Proofs.Ytnmplcnnpkbomaa
