/-
  The walks of slices.IndexFunc and ContainsFunc over interrupts, of pending and Valid.
-/
import Derived.Test.YtehniblcodkmaaaIa
namespace Go.Proofs.Ytehniblcodkmaaa
open Go.RowKit

theorem any_list {α : Type} (f : α → Bool) (z : α) (l : List α) : Ix.any (fun k => f (l.getD k z)) l.length = l.any f := by
  rw [Bool.eq_iff_iff]
  unfold Ix.any
  rw [List.any_eq_true, List.any_eq_true]
  constructor
  · rintro ⟨k, hk, hf⟩
    have hk' : k < l.length := by simpa using hk
    rw [Iq.getD_at _ hk'] at hf
    exact ⟨_, List.getElem_mem hk', hf⟩
  · rintro ⟨x, hx, hf⟩
    obtain ⟨k, hk, rfl⟩ := List.getElem_of_mem hx
    exact ⟨k, by simpa using hk, by rw [Iq.getD_at _ hk]; exact hf⟩

set_option maxHeartbeats 400000 in
/-- slices.IndexFunc: `I k` holds of the world before the function is asked of element number k. -/
theorem indexFunc_ln (a : Option Addr) (cap : Nat) (xs : List El) (g : Nat) (lb : Array Value) (p : Nat → Bool) (I : Nat → World → Prop) (w : World) (hm : xs.length ≤ 9223372036854775807)
    (eg : ∀ args w, (callFunc g args).run Try.prog w = .ok (.enter g args) w)
    (hr : ∀ k W, I k W → Rm 4 el W a xs) (h0 : I 0 w)
    (hp : ∀ k W (_ : k < xs.length), I k W → ∀ d t n a' m c, xs[k] = (d, t, n, a', m, c) → Calls Try.prog g (#[.agg #[.int .i64 d, .int .i64 t, .int .i64 n, .slice a' m c]] ++ lb) W fun e W' => e = .returned (.bool (p k)) ∧ I (k + 1) W') :
    Calls Try.prog 37 #[.slice a xs.length cap, .func (.func g) #[] lb] w fun e w' => e = .returned (.int .i64 (Ix.idx p xs.length)) ∧ ∃ k, k ≤ xs.length ∧ I k w' := by
  have HP := Lib.hid hp
  have HR := Lib.hid hr
  have H0 := Lib.hid h0
  clear hp hr h0
  go_enter Try.func37, Try.ntmps37
  go_wp2
  go_loopw [5, 8] (fun _ i wr => ∃ k : Nat, k ≤ xs.length ∧ i = .int .i64 k ∧ (∀ j, j < k → p j = false) ∧ I k wr) (fun _ i _ => xs.length - (intOf i).toNat)
  case atStart => exact ⟨0, Nat.zero_le _, rfl, fun j hj => absurd hj (Nat.not_lt_zero _), H0.out⟩
  case round =>
    obtain ⟨k, hk, rfl, hno, hI⟩ := hrel
    have HN := Lib.hid hno
    have HI := Lib.hid hI
    clear hno hI
    by_cases hlt : k < xs.length
    · have HC := HP.out k wr hlt HI.out
      obtain ⟨b, off, rfl, hb, hc⟩ := (HR.out k wr HI.out).form (by omega)
      have hck := hc k hlt
      clear hc
      generalize xs[k] = e at *
      obtain ⟨d, t, n, a', m, c⟩ := e
      obtain ⟨c0, c1, c2, c3⟩ := at4_of hck
      have HC2 := HC d t n a' m c rfl
      clear hck HC
      generalize hpv : p k = pv at HC2
      have HPV := Lib.hid hpv
      clear hpv
      cases pv with
      | true =>
        go_wp2_with (go_at_fn g; refine HC2.mono ?_; rintro e w1 ⟨rfl, h1⟩)
        have H1 := Lib.hid h1
        clear h1
        go_wp2
        go_ret
        have := Ix.idx_some hlt HPV.out HN.out
        exact ⟨ret_int this.symm, k + 1, hlt, H1.out⟩
      | false =>
        go_wp2_with (go_at_fn g; refine HC2.mono ?_; rintro e w1 ⟨rfl, h1⟩)
        have H1 := Lib.hid h1
        clear h1
        go_wp2
        go_roundw
        case rel => exact ⟨k + 1, by omega, by go_num, fun j hj => by by_cases e : j = k; { subst e; exact HPV.out }; exact HN.out j (by omega), H1.out⟩
        case measure => simp [intOf]; omega
    · go_wp2
      go_ret
      have h1 := Ix.idx_none (p := p) (n := xs.length) fun i hi => HN.out i (by omega)
      exact ⟨ret_int h1.symm, k, hk, HI.out⟩

set_option maxHeartbeats 400000 in
theorem containsFunc_ln (a : Option Addr) (cap : Nat) (xs : List El) (g : Nat) (lb : Array Value) (p : Nat → Bool) (I : Nat → World → Prop) (w : World) (hm : xs.length ≤ 9223372036854775807)
    (eg : ∀ args w, (callFunc g args).run Try.prog w = .ok (.enter g args) w)
    (hr : ∀ k W, I k W → Rm 4 el W a xs) (h0 : I 0 w)
    (hp : ∀ k W (_ : k < xs.length), I k W → ∀ d t n a' m c, xs[k] = (d, t, n, a', m, c) → Calls Try.prog g (#[.agg #[.int .i64 d, .int .i64 t, .int .i64 n, .slice a' m c]] ++ lb) W fun e W' => e = .returned (.bool (p k)) ∧ I (k + 1) W') :
    Calls Try.prog 52 #[.slice a xs.length cap, .func (.func g) #[] lb] w fun e w' => e = .returned (.bool (Ix.any p xs.length)) ∧ ∃ k, k ≤ xs.length ∧ I k w' := by
  have HX := Lib.hid (indexFunc_ln a cap xs g lb p I w hm eg hr h0 hp)
  have HA := Lib.hid (Ix.any_iff p xs.length)
  clear hr h0 hp
  generalize Ix.idx p xs.length = r at *
  go_enter Try.func52, Try.ntmps52
  go_wp2_with (go_at_call 37; refine HX.out.mono ?_; rintro e w' ⟨rfl, h1⟩; have H1 := Lib.hid h1; clear h1)
  go_ret
  exact ⟨ret_bool HA.out.symm, H1.out⟩

theorem twin_of {d t d2 t2 n n2 : Int} {xs ys : List UInt8} : Iq.twin (d, t, n, xs) (d2, t2, n2, ys) = (decide (d2 = d) && decide (t2 = t)) := rfl

set_option maxHeartbeats 400000 in
/-- The test that pending hands over: x lies in block bx. -/
theorem pending1_w (bx : Nat) (d t d2 t2 n2 : Int) (u : Value) (w : World) (k0 : w.cell? ⟨bx, 0, none⟩ = some (.int .i64 d)) (k1 : w.cell? ⟨bx, 1, none⟩ = some (.int .i64 t)) :
    Calls Try.prog 53 #[.agg #[.int .i64 d2, .int .i64 t2, .int .i64 n2, u], .pointer (some ⟨bx, 0, none⟩)] w fun e w' => e = .returned (.bool (decide (d2 = d) && decide (t2 = t))) ∧ Below w.heap.size w w' := by
  have hb := World.block_lt_of_cell? w _ k0
  simp only at hb
  by_cases h1 : d2 = d
  · subst h1
    go_enter Try.func53, Try.ntmps53
    go_wp2
    go_ret
    exact ⟨ret_bool (by rw [Bool.eq_iff_iff]; simp), (Below.refl _ _).alloc (Nat.le_refl _) _⟩
  · have q1 : (d2 == d) = false := by simp [h1]
    have H1 := Lib.hid h1
    clear h1
    go_enter Try.func53, Try.ntmps53
    go_wp2
    go_ret
    exact ⟨ret_bool (by simp [H1.out]), (Below.refl _ _).alloc (Nat.le_refl _) _⟩

set_option maxHeartbeats 400000 in
theorem pending_w {v vx : Value} {ls : List Iq.Ln} {x : Iq.Ln} {w : World} (h : Lp w v ls) (hx : Lv w vx x) : Calls Try.prog 42 #[v, vx] w fun e w' => e = .returned (.bool (Iq.pend ls x)) ∧ Below w.heap.size w w' := by
  obtain ⟨es, ⟨a, cap, rfl, h2, h3, h4, hrd⟩, hl, he⟩ := h
  obtain ⟨u, rfl, -⟩ := hx
  unfold maxLen at h3
  have eg := enters_of Try.func53 (by kernel_rfl) rfl
  have HX : Hid (Calls Try.prog 52 #[.slice a es.length cap, .func (.func 53) #[] #[.pointer (some ⟨w.heap.size, 0, none⟩)]] (w.alloc (.cells #[.int .i64 x.1, .int .i64 x.2.1, .int .i64 x.2.2.1, u] 38 (0, 0))) fun e w' => e = .returned (.bool (Iq.pend ls x)) ∧ Below w.heap.size w w') := by
    have B0 : Below w.heap.size w (w.alloc (.cells #[.int .i64 x.1, .int .i64 x.2.1, .int .i64 x.2.2.1, u] 38 (0, 0))) := (Below.refl _ _).alloc (Nat.le_refl _) _
    have K : Bk (w.alloc (.cells #[.int .i64 x.1, .int .i64 x.2.1, .int .i64 x.2.2.1, u] 38 (0, 0))) w.heap.size 38 [.int .i64 x.1, .int .i64 x.2.1, .int .i64 x.2.2.1, u] := Bk.new w _ [_, _, _, _]
    refine (containsFunc_ln a cap es 53 _ (fun k => Iq.twin x (ls.getD k Iq.zln)) (fun _ W => Below (w.alloc (.cells #[.int .i64 x.1, .int .i64 x.2.1, .int .i64 x.2.2.1, u] 38 (0, 0))).heap.size (w.alloc (.cells #[.int .i64 x.1, .int .i64 x.2.1, .int .i64 x.2.2.1, u] 38 (0, 0))) W) _ (by omega) eg ?_ (Below.refl _ _) ?_).mono ?_
    · intro k W hb
      exact (hrd.below B0 (Nat.le_refl _)).below hb (Nat.le_refl _)
    · intro k W hk hb d t n a' m c e
      have hk' : k < ls.length := by omega
      have hkk := K.below hb K.lt
      obtain ⟨e1, e2, e3, _⟩ := he k hk hk'
      rw [e] at e1 e2 e3
      simp only at e1 e2 e3
      refine (pending1_w w.heap.size x.1 x.2.1 d t n _ W (hkk.cell 0) (hkk.cell 1)).mono fun e W' ⟨r1, r2⟩ => ⟨?_, hb.trans (r2.mono hb.size)⟩
      rw [r1, Iq.getD_at _ hk', e1, e2]
      rfl
    · rintro e w' ⟨r1, k, _, r2⟩
      refine ⟨?_, B0.trans (r2.mono B0.size)⟩
      rw [r1, hl, any_list]
      rfl
  have HL := Lib.hid hl
  clear hrd he hl
  generalize Iq.pend ls x = r at *
  go_enter Try.func42, Try.ntmps42
  go_wp2_with (go_at_call 52; refine HX.out.mono ?_; rintro e w' ⟨rfl, hb⟩)
  go_ret
  exact ⟨rfl, hb⟩

set_option maxHeartbeats 400000 in
theorem rpending_w {v vx : Value} {ls : List Iq.Ln} {x : Iq.Ln} {w : World} (h : Lp w v ls) (hx : Lv w vx x) : Calls Try.prog 34 #[v, vx] w fun e w' => e = .returned (.bool (Iq.pend ls x)) ∧ Below w.heap.size w w' := by
  obtain ⟨a, cap, rfl, hc, hcm, hna, hel⟩ := h.open
  obtain ⟨u, rfl, -⟩ := hx
  obtain ⟨d, t, n, xs⟩ := x
  have HE := Lib.hid hel
  clear hel h
  unfold maxLen at hcm
  simp only
  go_enter Try.func34, Try.ntmps34
  go_wp2
  go_loopw [5] (fun i wr => ∃ k : Nat, i = .int .i64 k ∧ k ≤ ls.length ∧ Hid (∀ j (hj : j < ls.length), j < k → Iq.twin (d, t, n, xs) ls[j] = false) ∧ ∃ q, wr = (w.alloc (.cells #[.int .i64 d, .int .i64 t, .int .i64 n, u] 37 (0, 0))).drewN q) (fun i _ => ls.length - (intOf i).toNat)
  case atStart => exact ⟨0, rfl, Nat.zero_le _, fun j _ h => absurd h (Nat.not_lt_zero _), 0, rfl⟩
  case round =>
    obtain ⟨k, rfl, hk, HN, q, rfl⟩ := hrel
    by_cases hlt : k < ls.length
    · obtain ⟨b, off, u2, rfl, hb, ⟨c0, c1, c2, c3⟩, _⟩ := HE.out k hlt
      have f1 : (0 : Int) ≤ (k : Int) := by omega
      have f2 : (k : Int) < (ls.length : Int) := by omega
      by_cases ht : Iq.twin (d, t, n, xs) ls[k] = true
      · have HT : Hid (Iq.pend ls (d, t, n, xs) = true) := by
          show _ = _
          unfold Iq.pend
          rw [List.any_eq_true]
          exact ⟨_, List.getElem_mem hlt, ht⟩
        generalize ls[k] = y at *
        obtain ⟨d2, t2, n2, ys⟩ := y
        have ht' : d2 = d ∧ t2 = t := by simpa [Iq.twin] using ht
        obtain ⟨rfl, rfl⟩ := ht'
        clear ht
        go_wp2_with fail
        go_quiet (fail)
        go_wp2
        go_ret
        exact ⟨ret_bool HT.out.symm, ((Below.refl _ _).alloc (Nat.le_refl _) _).trans ⟨rfl, rfl, rfl, Nat.le_refl _, fun _ _ => rfl⟩⟩
      · have HN2 : Hid (∀ j (hj : j < ls.length), j < k + 1 → Iq.twin (d, t, n, xs) ls[j] = false) := fun j hj hjk => by
          by_cases e : j = k
          · subst e; simpa using ht
          · exact HN.out j hj (by omega)
        generalize ls[k] = y at *
        obtain ⟨d2, t2, n2, ys⟩ := y
        by_cases h1 : d2 = d
        · have h2 : ¬ t2 = t := fun e => ht (by subst h1; subst e; simp [Iq.twin])
          subst h1
          have q1 : (t2 == t) = false := by simp [h2]
          clear ht h2
          go_wp2_with fail
          go_quiet (fail)
          go_wp2
          go_roundw
          case rel => exact ⟨k + 1, by go_num, by omega, HN2, by first | exact ⟨_, rfl⟩ | exact ⟨_, World.drewN_drewN _ _ _⟩⟩
          case measure => simp [intOf]; omega
        · have q1 : (d2 == d) = false := by simp [h1]
          clear ht h1
          go_wp2_with fail
          go_quiet (fail)
          go_wp2
          go_roundw
          case rel => exact ⟨k + 1, by go_num, by omega, HN2, by first | exact ⟨_, rfl⟩ | exact ⟨_, World.drewN_drewN _ _ _⟩⟩
          case measure => simp [intOf]; omega
    · have HN2 : Hid (Iq.pend ls (d, t, n, xs) = false) := by
        show _ = _
        unfold Iq.pend
        rw [List.any_eq_false]
        intro y hy
        obtain ⟨j, hj, rfl⟩ := List.getElem_of_mem hy
        rw [HN.out j hj (by omega)]
        simp
      go_wp2
      go_ret
      exact ⟨ret_bool HN2.out.symm, ((Below.refl _ _).alloc (Nat.le_refl _) _).trans ⟨rfl, rfl, rfl, Nat.le_refl _, fun _ _ => rfl⟩⟩
end Go.Proofs.Ytehniblcodkmaaa
