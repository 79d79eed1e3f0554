/-
  The walk of the reference's Release.
-/
import Derived.Test.YtnmplcnnpkbomaaRel
namespace Go.Proofs.Ytnmplcnnpkbomaa
open Go.RowKit

set_option maxHeartbeats 400000 in
theorem rrel_w {v vl : Value} {xs : List UInt8} {ls : List Int} {w : World} (hv : Sl eb w v xs) (hl : Sl (Value.int .i64) w vl ls) (hm : xs.length ≤ 1000) (hlm : ls.length ≤ 1000) (hlw : ∀ n ∈ ls, n ≤ 9223372036854775807) {ys : List UInt8} {c : Int} (hr : Ex.release xs ls = (ys, c)) :
    Calls Try.prog 20 #[v, vl] w fun e w' => ∃ v', e = .returned (.tuple #[v', .int .i64 c]) ∧ Sl eb w' v' ys ∧ Below w.heap.size w w' := by
  have HV := Lib.hid hv
  obtain ⟨a, cap, rfl, hc, hcm, hna, hrd⟩ := hv
  obtain ⟨al, cl, rfl, hlc, hlcm, hlna, hlrd⟩ := hl
  have HR := Lib.hid hr
  obtain ⟨i0, hi', hz0, hz1, hz2⟩ := info_parts Try.info5
  clear hr HV
  go_enter Try.func20, Try.ntmps20
  go_wp2_with fail
  go_loop [6] (fun s13 => ∃ k : Nat, s13 = .int .i64 k ∧ k ≤ ls.length ∧ Hid (∀ j (hj : j < ls.length), j < k → Ex.inR xs ls[j] = true)) (fun s13 => ls.length - (intOf s13).toNat)
  case atStart => exact ⟨0, rfl, Nat.zero_le _, fun j _ h => by omega⟩
  case round =>
    obtain ⟨k, rfl, hk, HN⟩ := hrel
    by_cases hlt : k < ls.length
    · obtain ⟨b, off, rfl, hb, hcs⟩ := hlrd.form (by omega)
      have hck := hcs k hlt
      have f1 : (0 : Int) ≤ (k : Int) := by omega
      have f2 : (k : Int) < (ls.length : Int) := by omega
      have hx63 := hlw _ (List.getElem_mem hlt)
      generalize he : ls[k] = x at *
      have HE := Lib.hid he
      clear he hcs
      by_cases h0 : x < 0
      · obtain ⟨rfl, rfl⟩ := Ex.release_out HR.out hlt (by rw [HE.out, Bool.eq_false_iff]; intro h; have := Ex.inR_iff.1 h; omega)
        go_wp2_with fail
        go_ret2
        exact ⟨_, rfl, Sl.nil _ _, Below.refl _ _⟩
      · obtain ⟨m, rfl⟩ := Int.eq_ofNat_of_zero_le (by omega : 0 ≤ x)
        by_cases h1 : (m : Int) / 8 < (xs.length : Int)
        · have HN2 : Hid (∀ j (hj : j < ls.length), j < k + 1 → Ex.inR xs ls[j] = true) := fun j hj hjk => by
            by_cases e : j = k
            · subst e; rw [HE.out]; exact Ex.inR_iff.2 ⟨by omega, h1⟩
            · exact HN.out j hj (by omega)
          go_wp2_with fail
          go_round
          case rel => exact ⟨k + 1, by go_num, by omega, HN2⟩
          case measure => simp [intOf]; omega
        · have h1' : (xs.length : Int) ≤ (m : Int) / 8 := by omega
          obtain ⟨rfl, rfl⟩ := Ex.release_out HR.out hlt (by rw [HE.out, Bool.eq_false_iff]; intro h; have := Ex.inR_iff.1 h; omega)
          go_wp2_with fail
          go_ret2
          exact ⟨_, rfl, Sl.nil _ _, Below.refl _ _⟩
    · have HG : Hid (∀ j (hj : j < ls.length), Ex.inR xs ls[j] = true) := fun j hj => HN.out j hj (by omega)
      have HR2 := Lib.hid (Ex.release_in HR.out HG.out)
      clear HR HN
      go_wp2_with (at_builtin; refine wpList_append_rd eb (fun _ => rfl) rfl _ _ 22 rfl w.heap.size 5 i0 (.int .u8 0) 1 Try.underlying22 hi' hz0 hz1 hz2 rfl _ 0 [] rfl (World.ownsRow_made w #[] 0 (Nat.le_refl _) (Nat.zero_le _) rfl) a cap xs xs.length rfl rfl hna hc (hrd.below ((Below.refl _ w).alloc (Nat.le_refl _) _) (Nat.le_refl _)) (by unfold maxLen; omega) (by omega) (by simp) ?_; intro v1 w1 ho1 hs1 hb1; simp only [Nat.zero_add, List.nil_append] at ho1; have hb01 := ((Below.refl _ w).alloc (Nat.le_refl _) (Obj.cells #[] 5)).trans hb1; have hS1 := Sl.ofOwn ho1; clear ho1 hs1 hb1)
      go_loopw [7, 8] (fun s7 s8 wr => ∃ (k : Nat) (zs : List UInt8), s8 = .int .i64 k ∧ k ≤ ls.length ∧ zs.length = xs.length ∧ Hid (Ex.relGo zs (ls.drop k) = (ys, c)) ∧ Sl eb wr s7 zs ∧ Below w.heap.size w wr) (fun _ s8 _ => ls.length - (intOf s8).toNat)
      case atStart => exact ⟨0, xs, rfl, Nat.zero_le _, rfl, HR2, hS1, hb01⟩
      case round =>
        obtain ⟨k, zs, rfl, hk, hzl, HZ, h9, hbl⟩ := hrel
        by_cases hlt : k < ls.length
        · have hin := Ex.inR_iff.1 (HG.out k hlt)
          obtain ⟨b, off, rfl, hb, hcs⟩ := (hlrd.below hbl (Nat.le_refl _)).form (by omega)
          have hck := hcs k hlt
          have f1 : (0 : Int) ≤ (k : Int) := by omega
          have f2 : (k : Int) < (ls.length : Int) := by omega
          obtain ⟨hz1, hz2⟩ := Ex.relGo_drop HZ.out hlt
          generalize he : ls[k] = x at *
          have HS9 := Lib.hid h9
          obtain ⟨a9, c9, rfl, _, _, _, hr9⟩ := h9
          have HC := rget_w a9 c9 xs.length zs x wr hzl (by omega) hr9 (by omega)
          cases hbx : Ex.getB zs x with
          | true =>
            rw [hbx] at HC
            have HN := Lib.hid (hz1 hbx)
            have HP := rput_w x false HS9.out (by omega) (by omega) (by omega)
            rw [hzl] at HP
            clear he hcs hz1 hz2 hbx hr9 HS9 HZ
            go_wp2_with (first | (go_at_call 25; refine HC.mono ?_; rintro e w' ⟨rfl, rfl⟩) | (go_at_call 37; refine HP.mono ?_; rintro e w3 ⟨v3, rfl, h93, hgr⟩))
            have hS3 := Sl.ofOwn h93
            have hbl3 := hbl.trans (hgr.mono hbl.size)
            clear hgr hbl HP h93
            go_roundw
            case rel => exact ⟨k + 1, _, by go_num, by omega, by rw [Ex.length_putB]; exact hzl, HN, hS3, hbl3⟩
            case measure => simp [intOf]; omega
          | false =>
            rw [hbx] at HC
            obtain ⟨rfl, rfl⟩ := hz2 hbx
            clear he hcs hz1 hz2 hbx hr9 HS9 HZ
            go_wp2_with (go_at_call 25; refine HC.mono ?_; rintro e w' ⟨rfl, rfl⟩)
            go_ret2
            exact ⟨_, rfl, Sl.nil _ _, hbl⟩
        · obtain ⟨rfl, rfl⟩ := Ex.relGo_end HZ.out (by omega)
          clear HZ
          go_wp2
          go_ret2
          exact ⟨_, rfl, h9, hbl⟩
end Go.Proofs.Ytnmplcnnpkbomaa
