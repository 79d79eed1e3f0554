/-
  The walk of the reference's Next.
-/
import Derived.Test.YtolfkgbcjfkbnaaNext
namespace Go.Proofs.Ytolfkgbcjfkbnaa
open Go.RowKit

set_option maxHeartbeats 1600000 in
theorem rnext_w (a : Option Addr) (cap n : Nat) (xs : List Int) (bits : Int) (w : World) (hl : xs.length = n) (hm : n ≤ 1000) (hc : n ≤ cap) (hcm : cap ≤ maxLen) (hn : a = none → cap = 0) (hr : Rd (Value.int .i64) w a xs)
    (hb0 : 0 ≤ bits) (hb1 : bits < 4294967296) :
    Calls Try.prog 13 #[.slice a n cap, .int .u32 bits] w fun e w' =>
      ∃ v, e = .returned (.tuple #[v, .int .i64 (Sq.next (Sq.ready bits) xs).2.1, .bool (Sq.next (Sq.ready bits) xs).2.2]) ∧ Sl (Value.int .i64) w' v (Sq.next (Sq.ready bits) xs).1 ∧ Below w.heap.size w w' := by
  subst hl
  have hcm' := hcm
  unfold maxLen at hcm'
  obtain ⟨i0, hi, hz0, hz1, hz2⟩ := info_parts Try.info3
  have HV := rvalid_w a cap xs.length xs w rfl (by omega) hr
  cases hv : Sq.valid xs with
  | false =>
    rw [Sq.next_bad hv]
    rw [hv] at HV
    clear hv
    go_enter Try.func13, Try.ntmps13
    go_wp2_with (go_at_call 16; refine HV.mono ?_; rintro e w' ⟨rfl, rfl⟩)
    go_ret3
    exact ⟨_, rfl, Sl.nil _ _, Below.refl _ _⟩
  | true =>
    rw [hv] at HV
    have HVV := Lib.hid hv
    clear hv
    go_enter Try.func13, Try.ntmps13
    go_wp2_with (go_at_call 16; refine HV.mono ?_; rintro e w' ⟨rfl, rfl⟩)
    clear HV
    go_loop [7] (fun i => ∃ k : Nat, k ≤ xs.length ∧ i = .int .i64 k ∧ ∀ j (hj : j < xs.length), j < k → Sq.ready bits xs[j] = false) (fun i => xs.length - (intOf i).toNat)
    case atStart => exact ⟨0, Nat.zero_le _, rfl, fun j _ hj => absurd hj (Nat.not_lt_zero _)⟩
    case round =>
      obtain ⟨k, hk, rfl, hno⟩ := hrel
      have HN := Lib.hid hno
      clear hno
      by_cases hlt : k < xs.length
      · obtain ⟨b, off, rfl, hbl, hcell⟩ := hr.form (by omega)
        have hck := hcell k hlt
        clear hcell
        have ht := Sq.valid_task HVV.out hlt
        have e0 : 0 ≤ bits / 2 ^ (xs[k]).toNat := Int.ediv_nonneg hb0 (Int.pow_nonneg (by decide))
        have e1 : bits / 2 ^ (xs[k]).toNat ≤ bits := Int.ediv_le_self _ hb0
        have hT : (Go.bits BinOp.and IntKind.u32 (bits / 2 ^ (xs[k]).toNat) 1 == 1) = Sq.ready bits xs[k] := by
          rw [and_one_u32 _ e0 (by omega)]
          simp [Sq.ready, (by omega : 0 ≤ xs[k]), ht.2]
        clear e0 e1
        have t1 := ht.1
        have t2 := ht.2
        clear ht
        cases hq : Sq.ready bits xs[k] with
        | false =>
          rw [hq] at hT
          have HQ := Lib.hid hq
          clear hq
          go_wp2
          go_round
          case rel => exact ⟨k + 1, by omega, by go_num, fun j hj hjk => by by_cases e : j = k; { subst e; exact HQ.out }; exact HN.out j hj (by omega)⟩
          case measure => simp [intOf]; omega
        | true =>
          rw [hq] at hT
          have hidx := Sq.idx_some hlt hq HN.out
          have HNX := Lib.hid (Sq.next_some HVV.out hlt hidx)
          clear hidx hq HN
          have f1 : (0 : Int) ≤ (k : Int) := by omega
          have f2 : (k : Int) ≤ (cap : Int) := by omega
          have f3 : (k : Int) + 1 ≤ (xs.length : Int) := by omega
          have f4 : (k : Int) < (xs.length : Int) := by omega
          have f5 : IntKind.i64.wrap ((k : Int) + 1) = (k : Int) + 1 := by exact IntWalk.i64_in _ (by omega)
          have f6 : (0 : Int) ≤ (k : Int) + 1 := by omega
          have f7 : ((k : Int) + 1).toNat = k + 1 := by omega
          obtain ⟨ad2, hA⟩ : ∃ ad2, (if cap = k + 1 then some (⟨b, off, none⟩ : Addr) else some ⟨b, off + (k + 1), none⟩) = ad2 := ⟨_, rfl⟩
          have hD' : cutA (some ⟨b, off, none⟩) (k + 1) cap 1 = ad2 := by rw [← hA]; simp [cutA, Addr.add]
          have HD : Hid (∀ W, Below w.heap.size w W → Rd (Value.int .i64) W ad2 (xs.drop (k + 1))) := fun W hW => by rw [← hD']; exact (hr.drop (k + 1) cap hc).below hW (Nat.le_refl _)
          have HT : Hid (∀ W, Below w.heap.size w W → Rd (Value.int .i64) W (some ⟨b, off, none⟩) (xs.take k)) := fun W hW => (hr.take k).below hW (Nat.le_refl _)
          have HA2 : Hid (ad2 = none → cap - (k + 1) = 0) := by intro h; rw [h] at hA; split at hA <;> cases hA
          clear hD' hr
          go_wp2_with fail
          go_region_held3 (fun w' => w'.cell? ⟨b, off + k, none⟩ = some (.int .i64 xs[k])) (first | go_keep | assumption | (rw [hb1.cell (p := ⟨b, off + k, none⟩) (by exact hbl)]; go_keep) | (rw [hb2.cell (p := ⟨b, off + k, none⟩) (by exact hbl)]; go_keep) | (rw [hb3.cell (p := ⟨b, off + k, none⟩) (by exact hbl)]; go_keep)) (first
            | (refine step_append_rd (Value.int .i64) (fun _ => rfl) rfl (.tmp 26) (.tmp 29) 23 (by rfl) w.heap.size 3 i0 (.int .i64 0) 8 Try.underlying23 hi hz0 hz1 hz2 rfl _ 0 [] (by rfl) (by first | exact own_empty (heap_alloc_new w _) (Nat.le_refl _) | exact own_empty (heap_alloc2_old w _ _) (Nat.le_refl _) | exact own_empty (heap_alloc2_new w _ _) (by omega)) (some ⟨b, off, none⟩) cap (xs.take k) k (by rfl) (by simp; omega) (by simp) (by omega) (HT.out _ (by go_grown)) (by unfold maxLen; omega) (by omega) (by go_size) ?_; intro v1 w1 ho1 hs1 hb1; simp only [Nat.zero_add, List.nil_append] at ho1; have z1 := hb1.size; try simp only [World.size_alloc, World.size_drew] at z1)
            | (refine step_append_rd (Value.int .i64) (fun _ => rfl) rfl (.tmp 30) (.tmp 34) 23 (by rfl) w.heap.size 3 i0 (.int .i64 0) 8 Try.underlying23 hi hz0 hz1 hz2 rfl v1 k (xs.take k) (by rfl) (by first | exact ho1 | exact ho1.alloc _) ad2 (cap - (k + 1)) (xs.drop (k + 1)) (xs.length - (k + 1)) (by rfl) (by simp) HA2.out (by omega) (HD.out _ (by first | exact Below.trans (by go_grown) hb1 | exact (Below.trans (by go_grown) hb1).alloc (by go_size) _)) (by unfold maxLen; omega) (by omega) (by go_size) ?_; intro v2 w2 ho2 hs2 hb2; have z2 := hb2.size; try simp only [World.size_alloc] at z2)
            | (refine step_append_rd (Value.int .i64) (fun _ => rfl) rfl (.tmp 35) (.tmp 40) 23 (by rfl) w.heap.size 3 i0 (.int .i64 0) 8 Try.underlying23 hi hz0 hz1 hz2 rfl v2 (k + (xs.length - (k + 1))) (xs.take k ++ xs.drop (k + 1)) (by rfl) (by first | exact ho2 | exact ho2.alloc _) _ 1 [xs[k]] 1 (by rfl) rfl (by simp) (by omega) (by first | exact Rd.block (heap_alloc_new w2 _) | exact Rd.block ((hs2 _ (by simp) (fun e => by have := (ho1.lt _ e).2; omega)).1.trans (heap_alloc_new w1 _)) | exact Rd.block ((hs2 _ (by omega) (hs1 _ (by go_size) (by first | exact fun e => Nat.ne_of_lt (Nat.lt_succ_self _) (Option.some.inj e) | exact fun e => Nat.ne_of_gt (Nat.lt_succ_self _) (Option.some.inj e))).2).1.trans ((hs1 _ (by go_size) (by first | exact fun e => Nat.ne_of_lt (Nat.lt_succ_self _) (Option.some.inj e) | exact fun e => Nat.ne_of_gt (Nat.lt_succ_self _) (Option.some.inj e))).1.trans (by first | exact heap_alloc2_new w _ _ | exact heap_alloc2_old w _ _)))) (by unfold maxLen; omega) (by omega) (by go_size) ?_; intro v3 w3 ho3 hs3 hb3; have z3 := hb3.size; try simp only [World.size_alloc] at z3))
          all_goals
            go_wp2
            go_ret3
            rw [HNX.out]
            exact ⟨_, rfl, Sl.ofOwn ho3, (Below.trans (by go_grown) hb1).trans ((Below.trans (by go_grown) hb2).trans (Below.trans (by go_grown) hb3))⟩
      · have hidx := Sq.idx_none (p := Sq.ready bits) fun i hi => HN.out i hi (by omega)
        have HNX := Lib.hid (Sq.next_none HVV.out hidx)
        clear hidx
        go_wp2_with (at_builtin; refine wpList_append_rd (Value.int .i64) (fun _ => rfl) rfl _ _ 23 rfl w.heap.size 3 i0 (.int .i64 0) 8 Try.underlying23 hi hz0 hz1 hz2 rfl _ 0 [] rfl (World.ownsRow_made w #[] 0 (Nat.le_refl _) (Nat.zero_le _) rfl) a cap xs xs.length rfl rfl hn hc (hr.below ((Below.refl _ w).alloc (Nat.le_refl _) _) (Nat.le_refl _)) (by unfold maxLen; omega) (by omega) (by simp) ?_; intro v1 w1 hown hg hbl)
        go_wp2
        go_ret3
        rw [HNX.out]
        exact ⟨_, rfl, Sl.ofOwn (by simpa using hown), ((Below.refl _ w).alloc (Nat.le_refl _) _).trans hbl⟩

end Go.Proofs.Ytolfkgbcjfkbnaa
