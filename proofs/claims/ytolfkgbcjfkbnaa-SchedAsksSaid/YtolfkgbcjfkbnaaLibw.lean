/-
  The walks of the library's functions on slices of tasks: slices.Index, Contains, IndexFunc, Clone.
-/
import Derived.Test.YtolfkgbcjfkbnaaRows
import Derived.Test.YtolfkgbcjfkbnaaMem
import Derived.Test.YtolfkgbcjfkbnaaSpec
namespace Go.Proofs.Ytolfkgbcjfkbnaa
open Go.RowKit

theorem ret_int {k : IntKind} {a b : Int} (h : a = b) : Ending.returned (.int k a) = .returned (.int k b) := by rw [h]
theorem ret_bool {a b : Bool} (h : a = b) : Ending.returned (.bool a) = .returned (.bool b) := by rw [h]

set_option maxHeartbeats 400000 in
theorem index_w (a : Option Addr) (cap n : Nat) (xs : List Int) (v : Int) (w : World) (hl : xs.length = n) (hm : n ≤ 9223372036854775807) (hr : Rd (Value.int .i64) w a xs) :
    Calls Try.prog 29 #[.slice a n cap, .int .i64 v] w fun e w' => e = .returned (.int .i64 (Sq.idx (fun y => v == y) xs)) ∧ w = w' := by
  subst hl
  go_enter Try.func29, Try.ntmps29
  go_wp2
  go_loop [5, 8] (fun _ i => ∃ k : Nat, k ≤ xs.length ∧ i = .int .i64 k ∧ ∀ j (hj : j < xs.length), j < k → (v == xs[j]) = false) (fun _ i => xs.length - (intOf i).toNat)
  case atStart => exact ⟨0, Nat.zero_le _, rfl, fun j _ hj => absurd hj (Nat.not_lt_zero _)⟩
  case round =>
    obtain ⟨k, hk, rfl, hno⟩ := hrel
    have HN := Lib.hid hno
    clear hno
    by_cases hlt : k < xs.length
    · obtain ⟨b, off, rfl, hb, hc⟩ := hr.form (by omega)
      have hck := hc k hlt
      clear hc
      go_wp2
      · have he : (v == xs[k]) = true := by assumption
        go_ret
        exact ⟨ret_int (Sq.idx_some hlt he HN.out).symm, rfl⟩
      · have he : (v == xs[k]) = false := by assumption
        go_round
        case rel => exact ⟨k + 1, by omega, by go_num, fun j hj hjk => by by_cases e : j = k; { subst e; exact he }; exact HN.out j hj (by omega)⟩
        case measure => simp [intOf]; omega
    · go_wp2
      go_ret
      exact ⟨ret_int (Sq.idx_none (p := fun y => v == y) fun i hi => HN.out i hi (by omega)).symm, rfl⟩

set_option maxHeartbeats 400000 in
theorem contains_w (a : Option Addr) (cap n : Nat) (xs : List Int) (v : Int) (w : World) (hl : xs.length = n) (hm : n ≤ 9223372036854775807) (hr : Rd (Value.int .i64) w a xs) :
    Calls Try.prog 26 #[.slice a n cap, .int .i64 v] w fun e w' => e = .returned (.bool (decide (0 ≤ Sq.idx (fun y => v == y) xs))) ∧ w = w' := by
  have hx := index_w a cap n xs v w hl hm hr
  generalize Sq.idx (fun y => v == y) xs = r at hx ⊢
  go_enter Try.func26, Try.ntmps26
  go_wp2_with (go_at_call 29; refine hx.mono ?_; rintro e w' ⟨rfl, rfl⟩)
  go_ret
  exact ⟨rfl, rfl⟩

theorem Try.info3 : (Try.prog.info? 3).map (fun i => (i.zero, i.size, i.bytes)) = some (some (.int .i64 0), 1, 8) := by kernel_rfl

set_option maxHeartbeats 400000 in
/-- slices.IndexFunc, over a function that may write: `I k` holds of the world before it is asked of element number k. -/
theorem indexFunc_w (a : Option Addr) (cap : Nat) (xs : List Int) (g : Nat) (lb : Array Value) (p : Int → Bool) (I : Nat → World → Prop) (w : World) (hm : xs.length ≤ 9223372036854775807)
    (eg : ∀ args w, (callFunc g args).run Try.prog w = .ok (.enter g args) w)
    (hr : ∀ k W, I k W → Rd (Value.int .i64) W a xs) (h0 : I 0 w)
    (hp : ∀ k W (hk : k < xs.length), I k W → Calls Try.prog g (#[.int .i64 xs[k]] ++ lb) W fun e W' => e = .returned (.bool (p xs[k])) ∧ I (k + 1) W') :
    Calls Try.prog 23 #[.slice a xs.length cap, .func (.func g) #[] lb] w fun e w' => e = .returned (.int .i64 (Sq.idx p xs)) ∧
      ((Sq.idx p xs = -1 ∧ I xs.length w') ∨ ∃ k : Nat, k < xs.length ∧ Sq.idx p xs = k ∧ I (k + 1) w') := by
  have HP := Lib.hid hp
  have HR := Lib.hid hr
  have H0 := Lib.hid h0
  clear hp hr h0
  go_enter Try.func23, Try.ntmps23
  go_wp2
  go_loopw [5, 8] (fun _ i wr => ∃ k : Nat, k ≤ xs.length ∧ i = .int .i64 k ∧ (∀ j (hj : j < xs.length), j < k → p xs[j] = false) ∧ I k wr) (fun _ i _ => xs.length - (intOf i).toNat)
  case atStart => exact ⟨0, Nat.zero_le _, rfl, fun j _ hj => absurd hj (Nat.not_lt_zero _), H0.out⟩
  case round =>
    obtain ⟨k, hk, rfl, hno, hI⟩ := hrel
    have HN := Lib.hid hno
    have HI := Lib.hid hI
    clear hno hI
    by_cases hlt : k < xs.length
    · have HC := HP.out k wr hlt HI.out
      obtain ⟨b, off, rfl, hb, hc⟩ := (HR.out k wr HI.out).form (by omega)
      have hck := hc k hlt
      clear hc
      generalize hpv : p xs[k] = pv at HC
      have HPV := Lib.hid hpv
      clear hpv
      cases pv with
      | true =>
        go_wp2_with (go_at_fn g; refine HC.mono ?_; rintro e w1 ⟨rfl, h1⟩)
        have H1 := Lib.hid h1
        clear h1
        go_wp2
        go_ret
        have := Sq.idx_some hlt HPV.out HN.out
        exact ⟨ret_int this.symm, .inr ⟨k, hlt, this, H1.out⟩⟩
      | false =>
        go_wp2_with (go_at_fn g; refine HC.mono ?_; rintro e w1 ⟨rfl, h1⟩)
        have H1 := Lib.hid h1
        clear h1
        go_wp2
        go_roundw
        case rel => exact ⟨k + 1, by omega, by go_num, fun j hj hjk => by by_cases e : j = k; { subst e; exact HPV.out }; exact HN.out j hj (by omega), H1.out⟩
        case measure => simp [intOf]; omega
    · go_wp2
      go_ret
      have h1 := Sq.idx_none (p := p) fun i hi => HN.out i hi (by omega)
      have hkk : k = xs.length := by omega
      exact ⟨ret_int h1.symm, .inl ⟨h1, hkk ▸ HI.out⟩⟩

set_option maxHeartbeats 400000 in
/-- slices.Clone: the same list in memory of the call's own. -/
theorem clone_w (a : Option Addr) (cap n : Nat) (xs : List Int) (w : World) (hl : xs.length = n) (hm : n ≤ cap) (hcap : cap ≤ maxLen) (hb : n * 8 ≤ 140737488355328) (hn : a = none → cap = 0) (hr : Rd (Value.int .i64) w a xs) :
    Calls Try.prog 24 #[.slice a n cap] w fun e w' => ∃ v, e = .returned v ∧ w'.ownsRow w.heap.size 3 1 v n (xs.map (Value.int .i64)) ∧ Below w.heap.size w w' := by
  subst hl
  obtain ⟨i0, hi, hz0, hz1, hz2⟩ := info_parts Try.info3
  have he := fun (W : World) (a : Option Addr) (n c : Nat) => Lib.run_eql_slice_nil (P := Try.prog) W 26 3 a n c 0 0 Try.underlying26
  cases a with
  | none =>
    have hc0 := hn rfl
    obtain rfl : xs = [] := by cases xs with | nil => rfl | cons x xs => simp at hm; omega
    subst hc0
    go_enter Try.func24, Try.ntmps24
    go_wp2
    go_ret
    exact ⟨_, rfl, World.ownsRow_nil _ _ _ _, Below.refl _ _⟩
  | some ad =>
    go_enter Try.func24, Try.ntmps24
    go_wp2_with (at_builtin; refine wpList_append_rd (Value.int .i64) (fun _ => rfl) rfl _ _ 26 rfl w.heap.size 3 i0 (.int .i64 0) 8 Try.underlying26 hi hz0 hz1 hz2 rfl _ 0 [] rfl (World.ownsRow_made w #[] 0 (Nat.le_refl _) (Nat.zero_le _) rfl) (some ad) cap xs xs.length rfl rfl (by simp) hm (hr.below ((Below.refl _ w).alloc (Nat.le_refl _) _) (Nat.le_refl _)) (by omega) (by omega) (by simp) ?_; intro v1 w1 hown hg hbl)
    go_wp2
    go_ret
    exact ⟨_, rfl, by simpa using hown, ((Below.refl _ w).alloc (Nat.le_refl _) _).trans hbl⟩

end Go.Proofs.Ytolfkgbcjfkbnaa
