/-
  The walks of slices.IndexFunc and slices.ContainsFunc.
-/
import Derived.Test.YtkgheilaleekdaaRows
import Derived.Test.YtkgheilaleekdaaMem2
import Derived.Test.YtkgheilaleekdaaIdx0
namespace Go.Proofs.Ytkgheilaleekdaa
open Go.RowKit

set_option maxHeartbeats 400000 in
/-- slices.IndexFunc: `I k` holds of the world before the function is asked of element number k. -/
theorem indexFunc_pg {α : Type} (enc : α → Value) (a : Option Addr) (cap : Nat) (xs : List α) (g : Nat) (lb : Array Value) (p : Nat → Bool) (I : Nat → World → Prop) (w : World) (hm : xs.length ≤ 9223372036854775807)
    (eg : ∀ args w, (callFunc g args).run Try.prog w = .ok (.enter g args) w)
    (hr : ∀ k W, I k W → Rd enc W a xs) (h0 : I 0 w)
    (hp : ∀ k W (hk : k < xs.length), I k W → Calls Try.prog g (#[enc xs[k]] ++ lb) W fun e W' => e = .returned (.bool (p k)) ∧ I (k + 1) W') :
    Calls Try.prog 44 #[.slice a xs.length cap, .func (.func g) #[] lb] w fun e w' => e = .returned (.int .i64 (Ix.idx p xs.length)) ∧ ∃ k, k ≤ xs.length ∧ I k w' := by
  have HP := Lib.hid hp
  have HR := Lib.hid hr
  have H0 := Lib.hid h0
  clear hp hr h0
  go_enter Try.func44, Try.ntmps44
  go_wp2
  go_loopw [5, 8] (fun _ i wr => ∃ k : Nat, k ≤ xs.length ∧ i = .int .i64 k ∧ (∀ j, j < k → p j = false) ∧ I k wr) (fun _ i _ => xs.length - (intOf i).toNat)
  case atStart => exact ⟨0, Nat.zero_le _, rfl, fun j hj => absurd hj (Nat.not_lt_zero _), H0.out⟩
  case round =>
    obtain ⟨k, hk, rfl, hno, hI⟩ := hrel
    have HN := Lib.hid hno
    have HI := Lib.hid hI
    clear hno hI
    by_cases hlt : k < xs.length
    · have HC := HP.out k wr hlt HI.out
      obtain ⟨b, off, rfl, hb, hc⟩ := (HR.out k wr HI.out).form (by omega)
      have hck := hc k hlt
      clear hc
      generalize hpv : p k = pv at HC
      have HPV := Lib.hid hpv
      clear hpv
      cases pv with
      | true =>
        go_wp2_with (go_at_fn g; refine HC.mono ?_; rintro e w1 ⟨rfl, h1⟩)
        have H1 := Lib.hid h1
        clear h1
        go_wp2
        go_ret
        have := Ix.idx_some hlt HPV.out HN.out
        exact ⟨ret_int this.symm, k + 1, hlt, H1.out⟩
      | false =>
        go_wp2_with (go_at_fn g; refine HC.mono ?_; rintro e w1 ⟨rfl, h1⟩)
        have H1 := Lib.hid h1
        clear h1
        go_wp2
        go_roundw
        case rel => exact ⟨k + 1, by omega, by go_num, fun j hj => by by_cases e : j = k; { subst e; exact HPV.out }; exact HN.out j (by omega), H1.out⟩
        case measure => simp [intOf]; omega
    · go_wp2
      go_ret
      have h1 := Ix.idx_none (p := p) (n := xs.length) fun i hi => HN.out i (by omega)
      exact ⟨ret_int h1.symm, k, hk, HI.out⟩

set_option maxHeartbeats 400000 in
theorem containsFunc_pg {α : Type} (enc : α → Value) (a : Option Addr) (cap : Nat) (xs : List α) (g : Nat) (lb : Array Value) (p : Nat → Bool) (I : Nat → World → Prop) (w : World) (hm : xs.length ≤ 9223372036854775807)
    (eg : ∀ args w, (callFunc g args).run Try.prog w = .ok (.enter g args) w)
    (hr : ∀ k W, I k W → Rd enc W a xs) (h0 : I 0 w)
    (hp : ∀ k W (hk : k < xs.length), I k W → Calls Try.prog g (#[enc xs[k]] ++ lb) W fun e W' => e = .returned (.bool (p k)) ∧ I (k + 1) W') :
    Calls Try.prog 37 #[.slice a xs.length cap, .func (.func g) #[] lb] w fun e w' => e = .returned (.bool (Ix.any p xs.length)) ∧ ∃ k, k ≤ xs.length ∧ I k w' := by
  have HX := Lib.hid (indexFunc_pg enc a cap xs g lb p I w hm eg hr h0 hp)
  have HA := Lib.hid (Ix.any_iff p xs.length)
  clear hr h0 hp
  generalize Ix.idx p xs.length = r at *
  go_enter Try.func37, Try.ntmps37
  go_wp2_with (go_at_call 44; refine HX.out.mono ?_; rintro e w' ⟨rfl, h1⟩; have H1 := Lib.hid h1; clear h1)
  go_ret
  exact ⟨ret_bool HA.out.symm, H1.out⟩

set_option maxHeartbeats 400000 in
/-- slices.IndexFunc: `I k` holds of the world before the function is asked of element number k. -/
theorem indexFunc_by {α : Type} (enc : α → Value) (a : Option Addr) (cap : Nat) (xs : List α) (g : Nat) (lb : Array Value) (p : Nat → Bool) (I : Nat → World → Prop) (w : World) (hm : xs.length ≤ 9223372036854775807)
    (eg : ∀ args w, (callFunc g args).run Try.prog w = .ok (.enter g args) w)
    (hr : ∀ k W, I k W → Rd enc W a xs) (h0 : I 0 w)
    (hp : ∀ k W (hk : k < xs.length), I k W → Calls Try.prog g (#[enc xs[k]] ++ lb) W fun e W' => e = .returned (.bool (p k)) ∧ I (k + 1) W') :
    Calls Try.prog 45 #[.slice a xs.length cap, .func (.func g) #[] lb] w fun e w' => e = .returned (.int .i64 (Ix.idx p xs.length)) ∧ ∃ k, k ≤ xs.length ∧ I k w' := by
  have HP := Lib.hid hp
  have HR := Lib.hid hr
  have H0 := Lib.hid h0
  clear hp hr h0
  go_enter Try.func45, Try.ntmps45
  go_wp2
  go_loopw [5, 8] (fun _ i wr => ∃ k : Nat, k ≤ xs.length ∧ i = .int .i64 k ∧ (∀ j, j < k → p j = false) ∧ I k wr) (fun _ i _ => xs.length - (intOf i).toNat)
  case atStart => exact ⟨0, Nat.zero_le _, rfl, fun j hj => absurd hj (Nat.not_lt_zero _), H0.out⟩
  case round =>
    obtain ⟨k, hk, rfl, hno, hI⟩ := hrel
    have HN := Lib.hid hno
    have HI := Lib.hid hI
    clear hno hI
    by_cases hlt : k < xs.length
    · have HC := HP.out k wr hlt HI.out
      obtain ⟨b, off, rfl, hb, hc⟩ := (HR.out k wr HI.out).form (by omega)
      have hck := hc k hlt
      clear hc
      generalize hpv : p k = pv at HC
      have HPV := Lib.hid hpv
      clear hpv
      cases pv with
      | true =>
        go_wp2_with (go_at_fn g; refine HC.mono ?_; rintro e w1 ⟨rfl, h1⟩)
        have H1 := Lib.hid h1
        clear h1
        go_wp2
        go_ret
        have := Ix.idx_some hlt HPV.out HN.out
        exact ⟨ret_int this.symm, k + 1, hlt, H1.out⟩
      | false =>
        go_wp2_with (go_at_fn g; refine HC.mono ?_; rintro e w1 ⟨rfl, h1⟩)
        have H1 := Lib.hid h1
        clear h1
        go_wp2
        go_roundw
        case rel => exact ⟨k + 1, by omega, by go_num, fun j hj => by by_cases e : j = k; { subst e; exact HPV.out }; exact HN.out j (by omega), H1.out⟩
        case measure => simp [intOf]; omega
    · go_wp2
      go_ret
      have h1 := Ix.idx_none (p := p) (n := xs.length) fun i hi => HN.out i (by omega)
      exact ⟨ret_int h1.symm, k, hk, HI.out⟩

set_option maxHeartbeats 400000 in
theorem containsFunc_by {α : Type} (enc : α → Value) (a : Option Addr) (cap : Nat) (xs : List α) (g : Nat) (lb : Array Value) (p : Nat → Bool) (I : Nat → World → Prop) (w : World) (hm : xs.length ≤ 9223372036854775807)
    (eg : ∀ args w, (callFunc g args).run Try.prog w = .ok (.enter g args) w)
    (hr : ∀ k W, I k W → Rd enc W a xs) (h0 : I 0 w)
    (hp : ∀ k W (hk : k < xs.length), I k W → Calls Try.prog g (#[enc xs[k]] ++ lb) W fun e W' => e = .returned (.bool (p k)) ∧ I (k + 1) W') :
    Calls Try.prog 39 #[.slice a xs.length cap, .func (.func g) #[] lb] w fun e w' => e = .returned (.bool (Ix.any p xs.length)) ∧ ∃ k, k ≤ xs.length ∧ I k w' := by
  have HX := Lib.hid (indexFunc_by enc a cap xs g lb p I w hm eg hr h0 hp)
  have HA := Lib.hid (Ix.any_iff p xs.length)
  clear hr h0 hp
  generalize Ix.idx p xs.length = r at *
  go_enter Try.func39, Try.ntmps39
  go_wp2_with (go_at_call 45; refine HX.out.mono ?_; rintro e w' ⟨rfl, h1⟩; have H1 := Lib.hid h1; clear h1)
  go_ret
  exact ⟨ret_bool HA.out.symm, H1.out⟩
end Go.Proofs.Ytkgheilaleekdaa
