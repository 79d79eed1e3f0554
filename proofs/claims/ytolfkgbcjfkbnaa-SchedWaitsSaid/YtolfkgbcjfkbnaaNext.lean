/-
  The walks of sched.Next and of the reference's Next.
-/
import Derived.Test.YtolfkgbcjfkbnaaSched
namespace Go.Proofs.Ytolfkgbcjfkbnaa
open Go.RowKit

theorem ret3 {v : Value} {a b : Int} {p q : Bool} (h : a = b) (h' : p = q) : Ending.returned (.tuple #[v, .int .i64 a, .bool p]) = .returned (.tuple #[v, .int .i64 b, .bool q]) := by rw [h, h']

set_option maxHeartbeats 800000 in
theorem next_w (a : Option Addr) (cap n : Nat) (xs : List Int) (bits : Int) (B : Nat) (w : World) (hl : xs.length = n) (hm : n ≤ 1000) (hc : n ≤ cap) (hcm : cap ≤ maxLen) (hn : a = none → cap = 0) (hr : Rd (Value.int .i64) w a xs)
    (hb0 : 0 ≤ bits) (hb1 : bits < 4294967296) (hcb : w.cell? ⟨B, 0, none⟩ = some (.int .u32 bits)) :
    Calls Try.prog 11 #[.slice a n cap, .func (.func 25) #[] #[.pointer (some ⟨B, 0, none⟩)]] w fun e w' =>
      ∃ v, e = .returned (.tuple #[v, .int .i64 (Sq.next (Sq.ready bits) xs).2.1, .bool (Sq.next (Sq.ready bits) xs).2.2]) ∧ Sl (Value.int .i64) w' v (Sq.next (Sq.ready bits) xs).1 ∧ Below w.heap.size w w' := by
  subst hl
  have hcm' := hcm
  unfold maxLen at hcm'
  obtain ⟨i0, hi, hz0, hz1, hz2⟩ := info_parts Try.info3
  have HV := valid_w a cap xs.length xs w rfl (by omega) hc hr
  have HX := indexBy_w a cap xs.length xs bits B w rfl (by omega) hr hb0 hb1 hcb
  cases hv : Sq.valid xs with
  | false =>
    rw [Sq.next_bad hv]
    rw [hv] at HV
    clear HX hv
    go_enter Try.func11, Try.ntmps11
    go_wp2_with (go_at_call 15; refine HV.mono ?_; rintro e w' ⟨rfl, rfl⟩)
    go_ret3
    exact ⟨_, rfl, Sl.nil _ _, Below.refl _ _⟩
  | true =>
    rw [hv] at HV
    rcases Sq.idx_cases (Sq.ready bits) xs with ⟨e, _⟩ | ⟨k, hk, e, _, _⟩
    · rw [Sq.next_none hv e]
      rw [e] at HX
      clear hv e
      have HC := clone_w a cap xs.length xs w rfl hc hcm (by omega) hn hr
      go_enter Try.func11, Try.ntmps11
      go_wp2_with (first | (go_at_call 15; refine HV.mono ?_; rintro e w' ⟨rfl, rfl⟩) | (go_at_call 23; refine HX.mono ?_; rintro e w' ⟨rfl, rfl⟩) | (go_at_call 24; refine HC.mono ?_; rintro e w' ⟨v1, rfl, ho1, hb1⟩))
      go_ret3
      exact ⟨_, rfl, Sl.ofOwn ho1, hb1⟩
    · rw [Sq.next_some hv hk e]
      rw [e] at HX
      clear hv e
      obtain ⟨b, off, rfl, hbl, hcell⟩ := hr.form (by omega)
      have hck := hcell k hk
      clear hcell
      have f1 : (0 : Int) ≤ (k : Int) := by omega
      have f2 : (k : Int) ≤ (cap : Int) := by omega
      have f3 : (k : Int) + 1 ≤ (xs.length : Int) := by omega
      have f4 : (k : Int) < (xs.length : Int) := by omega
      have f5 : IntKind.i64.wrap ((k : Int) + 1) = (k : Int) + 1 := by exact IntWalk.i64_in _ (by omega)
      have f6 : (0 : Int) ≤ (k : Int) + 1 := by omega
      have f7 : ((k : Int) + 1).toNat = k + 1 := by omega
      have HC := Lib.hid (fun W (hW : Below w.heap.size w W) => clone_w (some ⟨b, off, none⟩) cap k (xs.take k) W (by simp; omega) (by omega) hcm (by omega) (by simp) ((hr.take k).below hW (Nat.le_refl _)))
      have HD : Hid (∀ W, Below w.heap.size w W → Rd (Value.int .i64) W (cutA (some ⟨b, off, none⟩) (k + 1) cap 1) (xs.drop (k + 1))) := fun W hW => (hr.drop (k + 1) cap hc).below hW (Nat.le_refl _)
      obtain ⟨ad2, hA⟩ : ∃ ad2, (if cap = k + 1 then some (⟨b, off, none⟩ : Addr) else some ⟨b, off + (k + 1), none⟩) = ad2 := ⟨_, rfl⟩
      have hD' : cutA (some ⟨b, off, none⟩) (k + 1) cap 1 = ad2 := by rw [← hA]; simp [cutA, Addr.add]
      have hA2 : ad2 = none → cap - (k + 1) = 0 := by intro h; rw [h] at hA; split at hA <;> cases hA
      rw [hD'] at HD
      clear hD'
      have HA2 := Lib.hid hA2
      clear hA2
      · 
        go_enter Try.func11, Try.ntmps11
        go_wp2_with (first | (go_at_call 15; refine HV.mono ?_; rintro e w' ⟨rfl, rfl⟩) | (go_at_call 23; refine HX.mono ?_; rintro e w' ⟨rfl, rfl⟩))
        go_region_held3 (fun _ => True) (trivial) (first
          | (go_at_call 24; refine (HC.out _ ?_).mono ?_; (exact (Below.refl _ _).drew); rintro e w1 ⟨v1, rfl, ho1, hb1⟩)
          | (refine step_append_rd (Value.int .i64) (fun _ => rfl) rfl _ _ 26 (by rfl) w.heap.size 3 i0 (.int .i64 0) 8 Try.underlying26 hi hz0 hz1 hz2 rfl v1 k (xs.take k) (by rfl) ho1 ad2 (cap - (k + 1)) (xs.drop (k + 1)) (xs.length - (k + 1)) (by rfl) (by simp) HA2.out (by omega) (HD.out _ ((Below.refl _ _).drew.trans hb1)) (by unfold maxLen; omega) (by omega) hb1.size ?_; intro v2 w2 ho2 hg2 hb2))
        have hb12 : Below w.heap.size w w2 := ((Below.refl _ _).drew.trans hb1).trans hb2
        have hck2 : w2.cell? ⟨b, off + k, none⟩ = some (.int .i64 xs[k]) := by rw [hb12.cell (p := ⟨b, off + k, none⟩) (by exact hbl)]; exact hck
        have hs2 := hb12.size
        have hbl2 : b < w2.heap.size := by omega
        clear hg2 ho1 hb1 hb2 HC HD HV HX
        go_wp2_with fail
        go_region_held3 (fun w' => w'.cell? ⟨b, off + k, none⟩ = some (.int .i64 xs[k])) (first | go_keep | assumption | (rw [hb3.cell (p := ⟨b, off + k, none⟩) (by exact hbl)]; go_keep)) ((refine step_append_rd (Value.int .i64) (fun _ => rfl) rfl _ _ 26 (by rfl) w.heap.size 3 i0 (.int .i64 0) 8 Try.underlying26 hi hz0 hz1 hz2 rfl v2 (k + (xs.length - (k + 1))) (xs.take k ++ xs.drop (k + 1)) (by rfl) (ho2.alloc _).drew (some ⟨w2.heap.size, 0, none⟩) 1 [xs[k]] 1 (by rfl) rfl (by simp) (by omega) (Rd.oneDrew _ _ _ _ _) (by unfold maxLen; omega) (by omega) (by simp; omega) ?_; intro v3 w3 ho3 hg3 hb3))
        go_wp2
        go_ret3
        exact ⟨_, rfl, Sl.ofOwn ho3, hb12.trans (((Below.refl _ w2).alloc (by omega) _).drew.trans hb3)⟩

end Go.Proofs.Ytolfkgbcjfkbnaa
