/-
  The walk of extent.Release.
-/
import Derived.Test.YtnmplcnnpkbomaaLalloc
namespace Ex
theorem inR_iff {xs : List UInt8} {i : Int} : inR xs i = true ↔ 0 ≤ i ∧ i / 8 < (xs.length : Int) := by
  unfold inR
  simp
  omega

theorem relGo_drop {xs ys : List UInt8} {l : List Int} {c : Int} {k : Nat} (h : relGo xs (l.drop k) = (ys, c)) (hk : k < l.length) :
    (getB xs l[k] = true → relGo (putB xs l[k].toNat false) (l.drop (k + 1)) = (ys, c)) ∧ (getB xs l[k] = false → ys = [] ∧ c = 7) := by
  rw [List.drop_eq_getElem_cons hk] at h
  unfold relGo at h
  constructor
  · intro hb; rw [if_pos hb] at h; exact h
  · intro hb
    rw [if_neg (by simp [hb])] at h
    simp only [Prod.mk.injEq] at h
    exact ⟨h.1.symm, h.2.symm⟩

theorem relGo_end {xs ys : List UInt8} {l : List Int} {c : Int} {k : Nat} (h : relGo xs (l.drop k) = (ys, c)) (hk : l.length ≤ k) : ys = xs ∧ c = 0 := by
  rw [List.drop_eq_nil_of_le hk] at h
  simp only [relGo, Prod.mk.injEq] at h
  exact ⟨h.1.symm, h.2.symm⟩

theorem release_out {xs ys : List UInt8} {l : List Int} {c : Int} (h : release xs l = (ys, c)) {k : Nat} (hk : k < l.length) (hn : inR xs l[k] = false) : ys = [] ∧ c = 2 := by
  unfold release at h
  rw [if_neg] at h
  · simp only [Prod.mk.injEq] at h
    exact ⟨h.1.symm, h.2.symm⟩
  · intro ha
    have := List.all_eq_true.1 ha l[k] (List.getElem_mem hk)
    rw [hn] at this; cases this

theorem release_in {xs ys : List UInt8} {l : List Int} {c : Int} (h : release xs l = (ys, c)) (ha : ∀ k (hk : k < l.length), inR xs l[k] = true) : relGo xs (l.drop 0) = (ys, c) := by
  unfold release at h
  rw [if_pos] at h
  · exact h
  · rw [List.all_eq_true]
    intro n hn
    obtain ⟨k, hk, rfl⟩ := List.getElem_of_mem hn
    exact ha k hk
end Ex
namespace Go.Proofs.Ytnmplcnnpkbomaa
open Go.RowKit

theorem ret2 {v : Value} {a b : Int} (h : a = b) : Ending.returned (.tuple #[v, .int .i64 a]) = .returned (.tuple #[v, .int .i64 b]) := by rw [h]

set_option maxHeartbeats 1600000 in
theorem rel_w {v vl : Value} {xs : List UInt8} {ls : List Int} {w : World} (hv : Sl eb w v xs) (hl : Sl (Value.int .i64) w vl ls) (hm : xs.length ≤ 1000) (hlm : ls.length ≤ 1000) (hlw : ∀ n ∈ ls, n ≤ 9223372036854775807) {ys : List UInt8} {c : Int} (hr : Ex.release xs ls = (ys, c)) :
    Calls Try.prog 19 #[v, vl] w fun e w' => ∃ v', e = .returned (.tuple #[v', .int .i64 c]) ∧ Sl eb w' v' ys ∧ Below w.heap.size w w' := by
  have HV := Lib.hid hv
  obtain ⟨a, cap, rfl, hc, hcm, hna, hrd⟩ := hv
  obtain ⟨al, cl, rfl, hlc, hlcm, hlna, hlrd⟩ := hl
  have HR := Lib.hid hr
  have HC2 := Lib.hid (clone_w HV.out (by omega))
  clear hr hrd HV
  go_enter Try.func19, Try.ntmps19
  go_wp2_with fail
  go_loop [7, 13] (fun _ s13 => ∃ k : Nat, s13 = .int .i64 k ∧ k ≤ ls.length ∧ Hid (∀ j (hj : j < ls.length), j < k → Ex.inR xs ls[j] = true)) (fun _ s13 => ls.length - (intOf s13).toNat)
  case atStart => exact ⟨0, rfl, Nat.zero_le _, fun j _ h => by omega⟩
  case round =>
    obtain ⟨k, rfl, hk, HN⟩ := hrel
    by_cases hlt : k < ls.length
    · obtain ⟨b, off, rfl, hb, hcs⟩ := hlrd.form (by omega)
      have hck := hcs k hlt
      have f1 : (0 : Int) ≤ (k : Int) := by omega
      have f2 : (k : Int) < (ls.length : Int) := by omega
      have hx63 := hlw _ (List.getElem_mem hlt)
      generalize he : ls[k] = x at *
      have HE := Lib.hid he
      clear he hcs
      by_cases h0 : x < 0
      · obtain ⟨rfl, rfl⟩ := Ex.release_out HR.out hlt (by rw [HE.out, Bool.eq_false_iff]; intro h; have := Ex.inR_iff.1 h; omega)
        go_wp2_with fail
        go_ret2
        exact ⟨_, rfl, Sl.nil _ _, Below.refl _ _⟩
      · obtain ⟨m, rfl⟩ := Int.eq_ofNat_of_zero_le (by omega : 0 ≤ x)
        by_cases h1 : (m : Int) / 8 < (xs.length : Int)
        · have HN2 : Hid (∀ j (hj : j < ls.length), j < k + 1 → Ex.inR xs ls[j] = true) := fun j hj hjk => by
            by_cases e : j = k
            · subst e; rw [HE.out]; exact Ex.inR_iff.2 ⟨by omega, h1⟩
            · exact HN.out j hj (by omega)
          go_wp2_with fail
          go_round
          case rel => exact ⟨k + 1, by go_num, by omega, HN2⟩
          case measure => simp [intOf]; omega
        · have h1' : (xs.length : Int) ≤ (m : Int) / 8 := by omega
          obtain ⟨rfl, rfl⟩ := Ex.release_out HR.out hlt (by rw [HE.out, Bool.eq_false_iff]; intro h; have := Ex.inR_iff.1 h; omega)
          go_wp2_with fail
          go_ret2
          exact ⟨_, rfl, Sl.nil _ _, Below.refl _ _⟩
    · have HG : Hid (∀ j (hj : j < ls.length), Ex.inR xs ls[j] = true) := fun j hj => HN.out j hj (by omega)
      have HR2 := Lib.hid (Ex.release_in HR.out HG.out)
      clear HR HN
      go_wp2_with (go_at_call 33; refine HC2.out.mono ?_; rintro e w1 ⟨v1, rfl, ho1, hb1⟩)
      obtain ⟨ag, c1, hv1⟩ := own_slice ho1
      subst hv1
      have hag : 0 < xs.length → ∃ g, ag = some ⟨g, 0, none⟩ := fun h => by
        obtain ⟨g, c, e⟩ := own_form ho1 h
        simp only [Value.slice.injEq] at e
        exact ⟨g, e.1⟩
      clear HC2
      go_loopw [10, 31] (fun _ s31 wr => ∃ (k : Nat) (zs : List UInt8), s31 = .int .i64 k ∧ k ≤ ls.length ∧ zs.length = xs.length ∧ Hid (Ex.relGo zs (ls.drop k) = (ys, c)) ∧ wr.ownsRow w.heap.size 5 1 (.slice ag xs.length c1) xs.length (zs.map eb) ∧ Below w.heap.size w wr) (fun _ s31 _ => ls.length - (intOf s31).toNat)
      case atStart => exact ⟨0, xs, rfl, Nat.zero_le _, rfl, HR2, ho1, hb1⟩
      case round =>
        obtain ⟨k, zs, rfl, hk, hzl, HZ, h9, hbl⟩ := hrel
        by_cases hlt : k < ls.length
        · have hin := Ex.inR_iff.1 (HG.out k hlt)
          obtain ⟨g, rfl⟩ := hag (by omega)
          obtain ⟨b, off, rfl, hb, hcs⟩ := (hlrd.below hbl (Nat.le_refl _)).form (by omega)
          have hck := hcs k hlt
          have f1 : (0 : Int) ≤ (k : Int) := by omega
          have f2 : (k : Int) < (ls.length : Int) := by omega
          obtain ⟨hz1, hz2⟩ := Ex.relGo_drop HZ.out hlt
          generalize he : ls[k] = x at *
          have hbm : Bm wr w.heap.size g c1 zs := by unfold Bm; rw [hzl]; exact h9
          have HC := get_w (some ⟨g, 0, none⟩) c1 xs.length zs x wr hzl (by omega) hbm.rd (by omega)
          cases hbx : Ex.getB zs x with
          | true =>
            rw [hbx] at HC
            have HN := Lib.hid (hz1 hbx)
            have HP := put_w w.heap.size g c1 zs x false wr hbm (by omega) (by omega) (by omega)
            unfold Bm at HP
            rw [Ex.length_putB, hzl] at HP
            have hg0 := (h9.lt g rfl).1
            clear he hcs hz1 hz2 hbx hbm h9 HZ
            go_wp2_with (first | (go_at_call 18; refine HC.mono ?_; rintro e w' ⟨rfl, rfl⟩) | (go_at_call 34; refine HP.mono ?_; rintro e w3 ⟨rfl, h93, hgr⟩))
            have hbl3 := hbl.trans (below_of_grown hgr hg0 hbl.size)
            clear hgr hbl HP
            go_roundw
            case rel => exact ⟨k + 1, _, by go_num, by omega, by rw [Ex.length_putB]; exact hzl, HN, h93, hbl3⟩
            case measure => simp [intOf]; omega
          | false =>
            rw [hbx] at HC
            obtain ⟨rfl, rfl⟩ := hz2 hbx
            clear he hcs hz1 hz2 hbx hbm h9 HZ
            go_wp2_with (go_at_call 18; refine HC.mono ?_; rintro e w' ⟨rfl, rfl⟩)
            go_ret2
            exact ⟨_, rfl, Sl.nil _ _, hbl⟩
        · obtain ⟨rfl, rfl⟩ := Ex.relGo_end HZ.out (by omega)
          have hS : Sl eb wr (.slice ag xs.length c1) ys := by
            have := Sl.ofOwn h9
            exact this
          go_wp2
          go_ret2
          exact ⟨_, rfl, hS, hbl⟩
end Go.Proofs.Ytnmplcnnpkbomaa
