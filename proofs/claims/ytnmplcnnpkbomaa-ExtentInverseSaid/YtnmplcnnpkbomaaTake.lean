/-
  The walk of extent.Take.
-/
import Derived.Test.YtnmplcnnpkbomaaAlloc
namespace Go.Proofs.Ytnmplcnnpkbomaa
open Go.RowKit

/-- An index as a value. -/
def ei (n : Nat) : Value := .int .i64 (n : Int)

theorem Try.info3 : (Try.prog.info? 3).map (fun i => (i.zero, i.size, i.bytes)) = some (some (.int .i64 0), 1, 8) := by kernel_rfl

theorem own_keep {w w' : World} {base n : Nat} {e : TypeId} {v : Value} {cs : List Value} (h : w.ownsRow base e 1 v n cs) (hk : ∀ k, v.ownBlock = some k → w'.heap[k]? = w.heap[k]?) : w'.ownsRow base e 1 v n cs := by
  refine ⟨h.1, h.2.elim .inl ?_⟩
  rintro ⟨g, cap, cur, hv, hg, hb, r⟩
  exact .inr ⟨g, cap, cur, hv, hg, by rw [hk g (by rw [hv]; rfl)]; exact hb, r⟩

theorem own_slice {W : World} {base : Nat} {e : TypeId} {v : Value} {n : Nat} {cs : List Value} (h : W.ownsRow base e 1 v n cs) : ∃ a c, v = .slice a n c := by
  rcases h.2 with ⟨h1, h2⟩ | ⟨g, c, _, h, _⟩
  · exact ⟨none, 0, by rw [h2]; exact h1⟩
  · exact ⟨_, c, h⟩

theorem Sl.keep {α : Type} {enc : α → Value} {w w' : World} {v : Value} {xs : List α} (h : Sl enc w v xs) (hk : ∀ b, b < w.heap.size → w'.heap[b]? = w.heap[b]?) : Sl enc w' v xs := by
  obtain ⟨a, cap, h1, h2, h3, h4, h5⟩ := h
  refine ⟨a, cap, h1, h2, h3, h4, fun i hi => ?_⟩
  obtain ⟨b, off, ha, hlt, hc⟩ := h5 i hi
  have hb := hk b hlt
  refine ⟨b, off, ha, ?_, by rw [World.cell?_of_block (a := ⟨b, off + i, none⟩) hb]; exact hc⟩
  rw [Array.getElem?_eq_getElem hlt] at hb
  exact (Array.getElem?_eq_some_iff.1 hb).1

/-- A list of indices reads as a list of integers. -/
theorem Sl.ints {w : World} {v : Value} {l : List Nat} (h : Sl ei w v l) : Sl (Value.int .i64) w v (l.map fun n : Nat => (n : Int)) := by
  obtain ⟨a, cap, h1, h2, h3, h4, h5⟩ := h
  refine ⟨a, cap, by simpa using h1, by simpa using h2, h3, h4, fun i hi => ?_⟩
  obtain ⟨b, off, ha, hlt, hc⟩ := h5 i (by simpa using hi)
  exact ⟨b, off, ha, hlt, by rw [hc]; simp [ei]⟩

theorem ret3b {v u : Value} {a b : Int} (h : a = b) : Ending.returned (.tuple #[v, u, .int .i64 a]) = .returned (.tuple #[v, u, .int .i64 b]) := by rw [h]

set_option maxHeartbeats 1600000 in
theorem take_w {v : Value} {xs : List UInt8} {w : World} (x y n : Int) (hv : Sl eb w v xs) (hm : xs.length ≤ 1000) (hx : x ≤ 9223372036854775807) (hn : n ≤ 9223372036854775807) {l : List Nat} {ys : List UInt8} {c : Int} (hr : Ex.take xs x y n = (l, ys, c)) :
    Calls Try.prog 15 #[v, .int .i64 x, .int .i64 y, .int .i64 n] w fun e w' => ∃ v1 v2, e = .returned (.tuple #[v1, v2, .int .i64 c]) ∧ Sl ei w' v1 l ∧ Sl eb w' v2 ys ∧ Below w.heap.size w w' := by
  have HV := Lib.hid hv
  obtain ⟨a, cap, rfl, hc, hcm, hna, hrd⟩ := hv
  have HW := valid_w a cap xs.length x y w (by omega)
  cases hok : Ex.okR xs.length x y with
  | false =>
    rw [Ex.take_bad (.inl hok)] at hr
    simp only [Prod.mk.injEq] at hr
    obtain ⟨rfl, rfl, rfl⟩ := hr
    rw [hok] at HW
    clear hok
    go_enter Try.func15, Try.ntmps15
    go_wp2_with (go_at_call 32; refine HW.mono ?_; rintro e w' ⟨rfl, rfl⟩)
    go_ret3
    exact ⟨_, _, rfl, Sl.nil _ _, Sl.nil _ _, Below.refl _ _⟩
  | true =>
    rw [hok] at HW
    by_cases hn1 : n < 1
    · rw [Ex.take_bad (.inr hn1)] at hr
      simp only [Prod.mk.injEq] at hr
      obtain ⟨rfl, rfl, rfl⟩ := hr
      clear hok
      go_enter Try.func15, Try.ntmps15
      go_wp2_with (go_at_call 32; refine HW.mono ?_; rintro e w' ⟨rfl, rfl⟩)
      go_ret3
      exact ⟨_, _, rfl, Sl.nil _ _, Sl.nil _ _, Below.refl _ _⟩
    · obtain ⟨x, y, rfl, rfl, hxy, hy8⟩ := Ex.okR_nat hok
      obtain ⟨n, rfl⟩ := Int.eq_ofNat_of_zero_le (by omega : 0 ≤ n)
      have hn1' : 1 ≤ n := by omega
      have HR : Hid (∀ i, x ≤ i → i ≤ y → (Ex.cl xs x i).length ≤ n → (i < y → (Ex.cl xs x i).length = n) → ((Ex.cl xs x i).length < n ∧ l = [] ∧ ys = [] ∧ c = 13) ∨ ((Ex.cl xs x i).length = n ∧ l = Ex.cl xs x i ∧ ys = Ex.puts xs (Ex.cl xs x i) true ∧ c = 0)) := by
        intro i h1 h2 h3 h4
        by_cases h : (Ex.cl xs x i).length = n
        · right
          rw [Ex.take_some hok hn1' h1 h2 h] at hr
          simp only [Prod.mk.injEq] at hr
          exact ⟨h, hr.1.symm, hr.2.1.symm, hr.2.2.symm⟩
        · left
          have hiy : i = y := by
            by_cases hh : i < y
            · exact absurd (h4 hh) h
            · omega
          subst hiy
          rw [Ex.take_few hok hn1' (by omega)] at hr
          simp only [Prod.mk.injEq] at hr
          exact ⟨by omega, hr.1.symm, hr.2.1.symm, hr.2.2.symm⟩
      have HG := Lib.hid (fun (i : Nat) (hi : (i : Int) ≤ 9223372036854775807) (wr : World) (hbl : Below w.heap.size w wr) => get_w a cap xs.length xs i wr rfl (by omega) (hrd.below hbl (Nat.le_refl _)) hi)
      have HC2 := Lib.hid (clone_w HV.out (by omega))
      obtain ⟨i0, hi, hz0, hz1, hz2⟩ := info_parts Try.info3
      clear hok hr hrd HV
      go_enter Try.func15, Try.ntmps15
      go_wp2_with (first | (go_at_call 32; refine HW.mono ?_; rintro e w' ⟨rfl, rfl⟩) | (go_at_call 33; refine HC2.out.mono ?_; rintro e w1 ⟨v1, rfl, ho1, hb1⟩))
      obtain ⟨ag, c1, hv1⟩ := own_slice ho1
      subst hv1
      clear HW HC2
      have hag : 0 < xs.length → ∃ g, ag = some ⟨g, 0, none⟩ := fun h => by
        obtain ⟨g, c, e⟩ := own_form ho1 h
        simp only [Value.slice.injEq] at e
        exact ⟨g, e.1⟩
      go_loopw [8, 11] (fun s8 s11 wr => ∃ (i : Nat) (a8 : Option Addr) (c8 : Nat) (L : List Nat), s11 = .int .i64 i ∧ s8 = .slice a8 L.length c8 ∧ x ≤ i ∧ i ≤ y ∧ Hid (L = Ex.cl xs x i) ∧ L.length ≤ n ∧ wr.ownsRow w.heap.size 3 1 (.slice a8 L.length c8) L.length (L.map ei) ∧ wr.ownsRow w.heap.size 5 1 (.slice ag xs.length c1) xs.length ((Ex.puts xs L true).map eb) ∧ Hid (∀ k, (Value.slice a8 L.length c8).ownBlock = some k → (Value.slice ag xs.length c1).ownBlock ≠ some k) ∧ Below w.heap.size w wr) (fun _ s11 _ => y - (intOf s11).toNat)
      case atStart => exact ⟨x, none, 0, [], rfl, rfl, Nat.le_refl _, hxy, (Ex.cl_start _ _).symm, by simp, ⟨by simp, .inl ⟨rfl, rfl⟩⟩, ho1, fun k h => (by cases h), hb1⟩
      case round =>
        obtain ⟨i, a8, c8, L, rfl, rfl, hxi, hiy, HL, hLn, hO, h9, AP, hbl⟩ := hrel
        have hLi : L.length ≤ i - x := by rw [HL.out]; exact Ex.cl_length _ _ _
        by_cases hlt : i < y
        · by_cases hln : L.length < n
          · obtain ⟨g, rfl⟩ := hag (by omega)
            have HC := HG.out i (by omega) wr hbl
            cases hb : Ex.getB xs i with
            | true =>
              rw [hb] at HC
              have HN : Hid (L = Ex.cl xs x (i + 1)) := by rw [Ex.cl_set xs hxi hb]; exact HL.out
              clear hb
              go_wp2_with (go_at_call 18; refine HC.mono ?_; rintro e w' ⟨rfl, rfl⟩)
              go_roundw
              case rel => exact ⟨i + 1, a8, c8, L, by go_num, rfl, by omega, by omega, HN, hLn, hO, h9, AP, hbl⟩
              case measure => simp [intOf]; omega
            | false =>
              rw [hb] at HC
              have HN : Hid (L ++ [i] = Ex.cl xs x (i + 1)) := by rw [Ex.cl_clear xs hxi hb, ← HL.out]; rfl
              have HP : Hid (∀ wq : World, wq.ownsRow w.heap.size 5 1 (.slice (some ⟨g, 0, none⟩) xs.length c1) xs.length ((Ex.puts xs L true).map eb) → Calls Try.prog 34 #[.slice (some ⟨g, 0, none⟩) xs.length c1, .int .i64 i, .bool true] wq fun e w' => e = .returned (.tuple #[]) ∧ w'.ownsRow w.heap.size 5 1 (.slice (some ⟨g, 0, none⟩) xs.length c1) xs.length ((Ex.puts xs (L ++ [i]) true).map eb) ∧ wq.grownBy w' (some g)) := by
                intro wq hq
                have hbm : Bm wq w.heap.size g c1 (Ex.puts xs L true) := by unfold Bm; rw [Ex.length_puts]; exact hq
                have := put_w w.heap.size g c1 _ (i : Int) true wq hbm (by rw [Ex.length_puts]; omega) (by omega) (by rw [Ex.length_puts]; omega)
                unfold Bm at this
                rw [Ex.length_putB, Ex.length_puts, Int.toNat_natCast, ← Ex.puts_snoc] at this
                exact this
              clear hb HL
              go_wp2_with (first | (go_at_call 18; refine HC.mono ?_; rintro e w' ⟨rfl, rfl⟩) | (at_builtin; refine wpList_append_rd ei (fun _ => rfl) rfl _ _ 32 rfl w.heap.size 3 i0 (.int .i64 0) 8 Try.underlying32 hi hz0 hz1 hz2 rfl _ L.length L rfl (hO.alloc _) (some ⟨wr.heap.size, 0, none⟩) 1 [i] 1 rfl rfl (by simp) (by omega) (Rd.one _ _ _ _ _) (by unfold maxLen; omega) (by omega) (by have := hbl.size; simp; omega) ?_; intro v2 w2 ho2 hs2 hb2; obtain ⟨g2, c2, hv2⟩ := own_form ho2 (by omega); rw [hv2]; rw [hv2] at ho2 hs2; have hlg := (h9.lt g rfl).2; have hne : (Value.slice a8 L.length c8).ownBlock ≠ some g := (fun e => AP.out g e rfl); have hsg := hs2 g (by simp; omega) hne; have h92 := own_keep (h9.alloc (.cells #[.int .i64 i] 3 (0, 0))) (fun k hk => by simp [Value.ownBlock] at hk; subst hk; exact hsg.1); have AP2 := Lib.hid hsg.2; have hbl2 := (hbl.alloc hbl.size (.cells #[.int .i64 i] 3 (0, 0))).trans hb2; clear hv2 hs2 hb2 hne hsg hlg hO h9 AP) | (refine (HP.out _ h92).mono ?_; rintro e w3 ⟨rfl, h93, hgr⟩))
              have hg0 := (h92.lt g rfl).1
              have hO3 := own_keep ho2 (fun k hk => hgr.block k (ho2.lt k hk).2 (fun e => by rw [e] at hk; exact AP2.out hk))
              have hbl3 := hbl2.trans (below_of_grown hgr hg0 hbl2.size)
              have AP3 : Hid (∀ k, (Value.slice (some ⟨g2, 0, none⟩) (L.length + 1) c2).ownBlock = some k → (Value.slice (some ⟨g, 0, none⟩) xs.length c1).ownBlock ≠ some k) := fun k h1 h2 => AP2.out (h1.trans h2.symm)
              clear ho2 h92 hgr hbl2 HP AP2
              go_roundw
              case rel => exact ⟨i + 1, some ⟨g2, 0, none⟩, c2, L ++ [i], by go_num, by rw [List.length_append]; rfl, by omega, by omega, HN, by rw [List.length_append]; show L.length + 1 ≤ n; omega, by rw [List.length_append]; exact hO3, h93, by rw [List.length_append]; exact AP3, hbl3⟩
              case measure => simp [intOf]; omega
          · obtain ⟨h1, rfl, rfl, rfl⟩ : L.length = n ∧ l = L ∧ ys = Ex.puts xs L true ∧ c = 0 := by
              rcases HR.out i hxi hiy (by rw [← HL.out]; exact hLn) (fun _ => by rw [← HL.out]; omega) with h | h
              · rw [← HL.out] at h; omega
              · rw [← HL.out] at h; exact h
            have hS1 := Sl.ofOwn hO
            have hS2 := Sl.ofOwn h9
            clear HR HG HL hO h9
            go_wp2
            go_ret3
            exact ⟨_, _, rfl, hS1, hS2, hbl⟩
        · have hR := HR.out i hxi hiy (by rw [← HL.out]; exact hLn) (fun h => absurd h hlt)
          rw [← HL.out] at hR
          rcases hR with ⟨h1, rfl, rfl, rfl⟩ | ⟨h1, rfl, rfl, rfl⟩
          · clear HR HG HL hO h9
            go_wp2
            go_ret3
            exact ⟨_, _, rfl, Sl.nil _ _, Sl.nil _ _, hbl⟩
          · have hS1 := Sl.ofOwn hO
            have hS2 := Sl.ofOwn h9
            clear HR HG HL hO h9
            go_wp2
            go_ret3
            exact ⟨_, _, rfl, hS1, hS2, hbl⟩
end Go.Proofs.Ytnmplcnnpkbomaa
