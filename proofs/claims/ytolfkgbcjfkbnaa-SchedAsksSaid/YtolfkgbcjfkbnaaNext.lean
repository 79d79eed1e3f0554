/-
  The walks of sched.Next and of the reference's Next.
-/
import Derived.Test.YtolfkgbcjfkbnaaSched
namespace Go.Proofs.Ytolfkgbcjfkbnaa
open Go.RowKit

theorem ret3 {v : Value} {a b : Int} {p q : Bool} (h : a = b) (h' : p = q) : Ending.returned (.tuple #[v, .int .i64 a, .bool p]) = .returned (.tuple #[v, .int .i64 b, .bool q]) := by rw [h, h']

set_option maxHeartbeats 800000 in
/-- Next over a valid queue and whatever function: HX says what slices.IndexFunc comes to over it. -/
theorem nextF_w (fv : Value) (r : Int → Bool) (J : World → Prop) (a : Option Addr) (cap n : Nat) (xs : List Int) (w : World) (hl : xs.length = n) (hm : n ≤ 1000) (hc : n ≤ cap) (hcm : cap ≤ maxLen) (hn : a = none → cap = 0) (L : Nat) (hL : L ≤ w.heap.size) (hr : ∀ W, Below L w W → Rd (Value.int .i64) W a xs)
    (hval : Sq.valid xs = true) (HX : Calls Try.prog 23 #[.slice a n cap, fv] w fun e w' => e = .returned (.int .i64 (Sq.idx r xs)) ∧ J w') (hJ : ∀ W, J W → Below L w W) :
    Calls Try.prog 11 #[.slice a n cap, fv] w fun e w' =>
      ∃ v W, J W ∧ e = .returned (.tuple #[v, .int .i64 (Sq.next r xs).2.1, .bool (Sq.next r xs).2.2]) ∧ Sl (Value.int .i64) w' v (Sq.next r xs).1 ∧ Below W.heap.size W w' := by
  subst hl
  have hcm' := hcm
  unfold maxLen at hcm'
  obtain ⟨i0, hi, hz0, hz1, hz2⟩ := info_parts Try.info3
  have HV := valid_w a cap xs.length xs w rfl (by omega) hc (hr w (Below.refl _ _))
  have HJ := Lib.hid hJ
  rw [hval] at HV
  clear hJ
  rcases Sq.idx_cases r xs with ⟨e, _⟩ | ⟨k, hk, e, _, _⟩
  · rw [Sq.next_none hval e]
    rw [e] at HX
    clear hval e
    have HC := Lib.hid (fun W (hW : Below L w W) => clone_w a cap xs.length xs W rfl hc hcm (by omega) hn (hr W hW))
    go_enter Try.func11, Try.ntmps11
    go_wp2_with (first | (go_at_call 15; refine HV.mono ?_; rintro e w' ⟨rfl, rfl⟩) | (go_at_call 23; refine HX.mono ?_; rintro e w1 ⟨rfl, hJ1⟩; have HJ1 := Lib.hid hJ1; clear hJ1) | (go_at_call 24; refine (HC.out _ (HJ.out _ HJ1.out)).mono ?_; rintro e w2 ⟨v2, rfl, ho2, hb2⟩))
    go_ret3
    exact ⟨_, w1, HJ1.out, rfl, Sl.ofOwn ho2, hb2⟩
  · rw [Sq.next_some hval hk e]
    rw [e] at HX
    clear hval e
    have f1 : (0 : Int) ≤ (k : Int) := by omega
    have f2 : (k : Int) ≤ (cap : Int) := by omega
    have f3 : (k : Int) + 1 ≤ (xs.length : Int) := by omega
    have f4 : (k : Int) < (xs.length : Int) := by omega
    have f5 : IntKind.i64.wrap ((k : Int) + 1) = (k : Int) + 1 := by exact IntWalk.i64_in _ (by omega)
    have f6 : (0 : Int) ≤ (k : Int) + 1 := by omega
    have f7 : ((k : Int) + 1).toNat = k + 1 := by omega
    obtain ⟨b, off, rfl, _, _⟩ := (hr w (Below.refl _ _)).form (by omega)
    have HR := Lib.hid hr
    clear hr
    obtain ⟨ad2, hA⟩ : ∃ ad2, (if cap = k + 1 then some (⟨b, off, none⟩ : Addr) else some ⟨b, off + (k + 1), none⟩) = ad2 := ⟨_, rfl⟩
    have hD' : cutA (some ⟨b, off, none⟩) (k + 1) cap 1 = ad2 := by rw [← hA]; simp [cutA, Addr.add]
    have HA2 : Hid (ad2 = none → cap - (k + 1) = 0) := by intro h; rw [h] at hA; split at hA <;> cases hA
    have HC := Lib.hid (fun W (hW : Below L w W) => clone_w (some ⟨b, off, none⟩) cap k (xs.take k) W (by simp; omega) (by omega) hcm (by omega) (by simp) ((HR.out W hW).take k))
    have HD : Hid (∀ W, Below L w W → Rd (Value.int .i64) W ad2 (xs.drop (k + 1))) := fun W hW => by rw [← hD']; exact (HR.out W hW).drop (k + 1) cap hc
    clear hD'
    go_enter Try.func11, Try.ntmps11
    go_wp2_with (first | (go_at_call 15; refine HV.mono ?_; rintro e w' ⟨rfl, rfl⟩) | (go_at_call 23; refine HX.mono ?_; rintro e w1 ⟨rfl, hJ1⟩; have HJ1 := Lib.hid hJ1; clear hJ1))
    have hB := HJ.out _ HJ1.out
    have hBz := Nat.le_trans hL hB.size
    have hbw1 := ((HR.out _ hB).at k hk).1
    have HB := Lib.hid hB
    clear hB HV HX
    go_region_held3 (fun _ => True) (trivial) (first
      | (go_at_call 24; refine (HC.out _ ?_).mono ?_; (exact HB.out.drew); rintro e w2 ⟨v2, rfl, ho2, hb2⟩)
      | (refine step_append_rd (Value.int .i64) (fun _ => rfl) rfl _ _ 26 (by rfl) w1.heap.size 3 i0 (.int .i64 0) 8 Try.underlying26 hi hz0 hz1 hz2 rfl v2 k (xs.take k) (by rfl) ho2 ad2 (cap - (k + 1)) (xs.drop (k + 1)) (xs.length - (k + 1)) (by rfl) (by simp) HA2.out (by omega) (HD.out _ (HB.out.drew.trans (hb2.mono (by simpa using hBz)))) (by unfold maxLen; omega) (by omega) hb2.size ?_; intro v3 w3 ho3 hs3 hb3))
    have hb13 : Below w1.heap.size w1 w3 := ((Below.refl _ _).drew.trans hb2).trans hb3
    have hck3 : w3.cell? ⟨b, off + k, none⟩ = some (.int .i64 xs[k]) := ((HR.out _ (HB.out.trans (hb13.mono hBz))).at k hk).2
    have hs13 := hb13.size
    have hbl3 : b < w3.heap.size := by omega
    clear hs3 ho2 hb2 hb3 HC HD
    go_wp2_with fail
    go_region_held3 (fun w' => w'.cell? ⟨b, off + k, none⟩ = some (.int .i64 xs[k])) (first | go_keep | assumption | (rw [hb4.cell (p := ⟨b, off + k, none⟩) (by show b < w1.heap.size; omega)]; go_keep)) ((refine step_append_rd (Value.int .i64) (fun _ => rfl) rfl _ _ 26 (by rfl) w1.heap.size 3 i0 (.int .i64 0) 8 Try.underlying26 hi hz0 hz1 hz2 rfl v3 (k + (xs.length - (k + 1))) (xs.take k ++ xs.drop (k + 1)) (by rfl) (ho3.alloc _).drew (some ⟨w3.heap.size, 0, none⟩) 1 [xs[k]] 1 (by rfl) rfl (by simp) (by omega) (Rd.oneDrew _ _ _ _ _) (by unfold maxLen; omega) (by omega) (by simp; omega) ?_; intro v4 w4 ho4 hs4 hb4))
    go_wp2
    go_ret3
    exact ⟨_, w1, HJ1.out, rfl, Sl.ofOwn ho4, hb13.trans (((Below.refl _ w3).alloc (by omega) _).drew.trans hb4)⟩

set_option maxHeartbeats 800000 in
theorem next_w (a : Option Addr) (cap n : Nat) (xs : List Int) (bits : Int) (B : Nat) (w : World) (hl : xs.length = n) (hm : n ≤ 1000) (hc : n ≤ cap) (hcm : cap ≤ maxLen) (hn : a = none → cap = 0) (hr : Rd (Value.int .i64) w a xs)
    (hb0 : 0 ≤ bits) (hb1 : bits < 4294967296) (hcb : w.cell? ⟨B, 0, none⟩ = some (.int .u32 bits)) :
    Calls Try.prog 11 #[.slice a n cap, .func (.func 25) #[] #[.pointer (some ⟨B, 0, none⟩)]] w fun e w' =>
      ∃ v, e = .returned (.tuple #[v, .int .i64 (Sq.next (Sq.ready bits) xs).2.1, .bool (Sq.next (Sq.ready bits) xs).2.2]) ∧ Sl (Value.int .i64) w' v (Sq.next (Sq.ready bits) xs).1 ∧ Below w.heap.size w w' := by
  cases hv : Sq.valid xs with
  | false =>
    have HV := valid_w a cap n xs w hl (by omega) hc hr
    rw [Sq.next_bad hv]
    rw [hv] at HV
    clear hv
    go_enter Try.func11, Try.ntmps11
    go_wp2_with (go_at_call 15; refine HV.mono ?_; rintro e w' ⟨rfl, rfl⟩)
    go_ret3
    exact ⟨_, rfl, Sl.nil _ _, Below.refl _ _⟩
  | true =>
    refine (nextF_w _ (Sq.ready bits) (fun W => w = W) a cap n xs w hl hm hc hcm hn w.heap.size (Nat.le_refl _) (fun W hW => hr.below hW (Nat.le_refl _)) hv (indexBy_w a cap n xs bits B w hl (by omega) hr hb0 hb1 hcb) (fun W h => h ▸ Below.refl _ _)).mono ?_
    rintro e w' ⟨v, W, rfl, h⟩
    exact ⟨v, h⟩

end Go.Proofs.Ytolfkgbcjfkbnaa
