/-
  The walk of the reference's Take.
-/
import Derived.Test.YtnmplcnnpkbomaaTake
import Derived.Test.YtnmplcnnpkbomaaRput
namespace Go.Proofs.Ytnmplcnnpkbomaa
open Go.RowKit

set_option maxHeartbeats 1600000 in
theorem rtake_w {v : Value} {xs : List UInt8} {w : World} (x y n : Int) (hv : Sl eb w v xs) (hm : xs.length ≤ 1000) (hx : x ≤ 9223372036854775807) (hn : n ≤ 9223372036854775807) {l : List Nat} {ys : List UInt8} {c : Int} (hr : Ex.take xs x y n = (l, ys, c)) :
    Calls Try.prog 16 #[v, .int .i64 x, .int .i64 y, .int .i64 n] w fun e w' => ∃ v1 v2, e = .returned (.tuple #[v1, v2, .int .i64 c]) ∧ Sl ei w' v1 l ∧ Sl eb w' v2 ys ∧ Below w.heap.size w w' := by
  have HV := Lib.hid hv
  obtain ⟨a, cap, rfl, hc, hcm, hna, hrd⟩ := hv
  have HW := rvalid_w a cap xs.length x y w (by omega)
  cases hok : Ex.okR xs.length x y with
  | false =>
    rw [Ex.take_bad (.inl hok)] at hr
    simp only [Prod.mk.injEq] at hr
    obtain ⟨rfl, rfl, rfl⟩ := hr
    rw [hok] at HW
    clear hok
    go_enter Try.func16, Try.ntmps16
    go_wp2_with (go_at_call 35; refine HW.mono ?_; rintro e w' ⟨rfl, rfl⟩)
    go_ret3
    exact ⟨_, _, rfl, Sl.nil _ _, Sl.nil _ _, Below.refl _ _⟩
  | true =>
    rw [hok] at HW
    by_cases hn1 : n < 1
    · rw [Ex.take_bad (.inr hn1)] at hr
      simp only [Prod.mk.injEq] at hr
      obtain ⟨rfl, rfl, rfl⟩ := hr
      clear hok
      go_enter Try.func16, Try.ntmps16
      go_wp2_with (go_at_call 35; refine HW.mono ?_; rintro e w' ⟨rfl, rfl⟩)
      go_ret3
      exact ⟨_, _, rfl, Sl.nil _ _, Sl.nil _ _, Below.refl _ _⟩
    · obtain ⟨x, y, rfl, rfl, hxy, hy8⟩ := Ex.okR_nat hok
      obtain ⟨n, rfl⟩ := Int.eq_ofNat_of_zero_le (by omega : 0 ≤ n)
      have hn1' : 1 ≤ n := by omega
      have HR : Hid (∀ i, x ≤ i → i ≤ y → (Ex.cl xs x i).length ≤ n → (i < y → (Ex.cl xs x i).length = n) → ((Ex.cl xs x i).length < n ∧ l = [] ∧ ys = [] ∧ c = 13) ∨ ((Ex.cl xs x i).length = n ∧ l = Ex.cl xs x i ∧ ys = Ex.puts xs (Ex.cl xs x i) true ∧ c = 0)) := by
        intro i h1 h2 h3 h4
        by_cases h : (Ex.cl xs x i).length = n
        · right
          rw [Ex.take_some hok hn1' h1 h2 h] at hr
          simp only [Prod.mk.injEq] at hr
          exact ⟨h, hr.1.symm, hr.2.1.symm, hr.2.2.symm⟩
        · left
          have hiy : i = y := by
            by_cases hh : i < y
            · exact absurd (h4 hh) h
            · omega
          subst hiy
          rw [Ex.take_few hok hn1' (by omega)] at hr
          simp only [Prod.mk.injEq] at hr
          exact ⟨by omega, hr.1.symm, hr.2.1.symm, hr.2.2.symm⟩
      have HG := Lib.hid (fun (i : Nat) (hi : (i : Int) ≤ 9223372036854775807) (wr : World) (hbl : Below w.heap.size w wr) => rget_w a cap xs.length xs i wr rfl (by omega) (hrd.below hbl (Nat.le_refl _)) hi)
      obtain ⟨i0, hi, hz0, hz1, hz2⟩ := info_parts Try.info3
      clear hok hr hrd
      go_enter Try.func16, Try.ntmps16
      go_wp2_with (go_at_call 35; refine HW.mono ?_; rintro e w' ⟨rfl, rfl⟩)
      clear HW
      go_loopw [11, 12, 13] (fun s11 s12 s13 wr => ∃ (i : Nat) (a8 : Option Addr) (c8 : Nat) (L : List Nat), s13 = .int .i64 i ∧ s11 = .slice a8 L.length c8 ∧ x ≤ i ∧ i ≤ y ∧ Hid (L = Ex.cl xs x i) ∧ L.length ≤ n ∧ wr.ownsRow w.heap.size 3 1 (.slice a8 L.length c8) L.length (L.map ei) ∧ Hid (∀ w', (∀ b, b < wr.heap.size → (Value.slice a8 L.length c8).ownBlock ≠ some b → w'.heap[b]? = wr.heap[b]?) → Sl eb w' s12 (Ex.puts xs L true)) ∧ Below w.heap.size w wr) (fun _ _ s13 _ => y - (intOf s13).toNat)
      case atStart => exact ⟨x, none, 0, [], rfl, rfl, Nat.le_refl _, hxy, (Ex.cl_start _ _).symm, by simp, ⟨by simp, .inl ⟨rfl, rfl⟩⟩, fun w' h => HV.out.keep fun b hb => h b hb (by simp [Value.ownBlock]), Below.refl _ _⟩
      case round =>
        obtain ⟨i, a8, c8, L, rfl, rfl, hxi, hiy, HL, hLn, hO, h9, hbl⟩ := hrel
        have hLi : L.length ≤ i - x := by rw [HL.out]; exact Ex.cl_length _ _ _
        by_cases hlt : i < y
        · by_cases hln : L.length < n
          · have HC := HG.out i (by omega) wr hbl
            cases hb : Ex.getB xs i with
            | true =>
              rw [hb] at HC
              have HN : Hid (L = Ex.cl xs x (i + 1)) := by rw [Ex.cl_set xs hxi hb]; exact HL.out
              clear hb
              go_wp2_with (go_at_call 25; refine HC.mono ?_; rintro e w' ⟨rfl, rfl⟩)
              go_roundw
              case rel => exact ⟨i + 1, a8, c8, L, by go_num, rfl, by omega, by omega, HN, hLn, hO, h9, hbl⟩
              case measure => simp [intOf]; omega
            | false =>
              rw [hb] at HC
              have HN : Hid (L ++ [i] = Ex.cl xs x (i + 1)) := by rw [Ex.cl_clear xs hxi hb, ← HL.out]; rfl
              have HP : Hid (∀ (wq : World) (v : Value), Sl eb wq v (Ex.puts xs L true) → Calls Try.prog 37 #[v, .int .i64 i, .bool true] wq fun e w' => ∃ v', e = .returned v' ∧ w'.ownsRow wq.heap.size 5 1 v' (Ex.puts xs (L ++ [i]) true).length ((Ex.puts xs (L ++ [i]) true).map eb) ∧ Below wq.heap.size wq w') := by
                intro wq v hq
                have := rput_w (i : Int) true hq (by rw [Ex.length_puts]; omega) (by omega) (by rw [Ex.length_puts]; omega)
                rw [Int.toNat_natCast, ← Ex.puts_snoc] at this
                exact this
              clear hb HL
              go_wp2_with (first | (go_at_call 25; refine HC.mono ?_; rintro e w' ⟨rfl, rfl⟩) | (at_builtin; refine wpList_append_rd ei (fun _ => rfl) rfl _ _ 32 rfl w.heap.size 3 i0 (.int .i64 0) 8 Try.underlying32 hi hz0 hz1 hz2 rfl _ L.length L rfl (hO.alloc _) (some ⟨wr.heap.size, 0, none⟩) 1 [i] 1 rfl rfl (by simp) (by omega) (Rd.one _ _ _ _ _) (by unfold maxLen; omega) (by omega) (by have := hbl.size; simp; omega) ?_; intro v2 w2 ho2 hs2 hb2; obtain ⟨g2, c2, hv2⟩ := own_form ho2 (by omega); rw [hv2]; rw [hv2] at ho2 hs2; have h92 := h9.out w2 (fun b hb hne => by have h := (hs2 b (by simp; omega) hne).1; rw [h]; exact heap_alloc_old _ _ hb); have hbl2 := (hbl.alloc hbl.size (.cells #[.int .i64 i] 3 (0, 0))).trans hb2; clear hv2 hs2 hb2 hO h9) | (refine (HP.out _ _ h92).mono ?_; rintro e w3 ⟨v3, rfl, h93, hgr⟩))
              have hlt2 := ho2.lt g2 rfl
              have hO3 := own_keep ho2 (fun k hk => hgr.block k (ho2.lt k hk).2)
              have hbl3 := hbl2.trans (hgr.mono hbl2.size)
              have HS3 : Hid (∀ w', (∀ b, b < w3.heap.size → (Value.slice (some ⟨g2, 0, none⟩) (L.length + 1) c2).ownBlock ≠ some b → w'.heap[b]? = w3.heap[b]?) → Sl eb w' v3 (Ex.puts xs (L ++ [i]) true)) := fun w' h => Sl.ofOwn (own_keep h93 fun k hk => h k (h93.lt k hk).2 (fun e => by have := (h93.lt k hk).1; simp [Value.ownBlock] at e; omega))
              clear ho2 h92 hgr hbl2 HP h93 hlt2
              go_wp2
              go_roundw
              case rel => exact ⟨i + 1, some ⟨g2, 0, none⟩, c2, L ++ [i], by go_num, by rw [List.length_append]; rfl, by omega, by omega, HN, by rw [List.length_append]; show L.length + 1 ≤ n; omega, by rw [List.length_append]; exact hO3, by rw [List.length_append]; exact HS3, hbl3⟩
              case measure => simp [intOf]; omega
          · obtain ⟨h1, rfl, rfl, rfl⟩ : L.length = n ∧ l = L ∧ ys = Ex.puts xs L true ∧ c = 0 := by
              rcases HR.out i hxi hiy (by rw [← HL.out]; exact hLn) (fun _ => by rw [← HL.out]; omega) with h | h
              · rw [← HL.out] at h; omega
              · rw [← HL.out] at h; exact h
            have hS1 := Sl.ofOwn hO
            have hS2 := h9.out _ (fun _ _ _ => rfl)
            clear HR HG HL hO h9
            go_wp2
            go_ret3
            exact ⟨_, _, rfl, hS1, hS2, hbl⟩
        · have hR := HR.out i hxi hiy (by rw [← HL.out]; exact hLn) (fun h => absurd h hlt)
          rw [← HL.out] at hR
          rcases hR with ⟨h1, rfl, rfl, rfl⟩ | ⟨h1, rfl, rfl, rfl⟩
          · clear HR HG HL hO h9
            go_wp2
            go_ret3
            exact ⟨_, _, rfl, Sl.nil _ _, Sl.nil _ _, hbl⟩
          · have hS1 := Sl.ofOwn hO
            have hS2 := h9.out _ (fun _ _ _ => rfl)
            clear HR HG HL hO h9
            go_wp2
            go_ret3
            exact ⟨_, _, rfl, hS1, hS2, hbl⟩
end Go.Proofs.Ytnmplcnnpkbomaa
