/-
  The walks of slices.Index, Contains (ints), ContainsFunc (bytes) and of blocks of the journal (printed by gen/mk36m.py).
-/
import Derived.Test.YtcbgablnbgpjdaaJl
import Derived.Test.YtcbgablnbgpjdaaIdx0
namespace Go.Proofs.Ytcbgablnbgpjdaa
open Go.RowKit

set_option maxHeartbeats 400000 in
/-- slices.IndexFunc: `I k` holds of the world before the function is asked of element number k. -/
theorem indexFunc_bytes {α : Type} (enc : α → Value) (a : Option Addr) (cap : Nat) (xs : List α) (g : Nat) (lb : Array Value) (p : Nat → Bool) (I : Nat → World → Prop) (w : World) (hm : xs.length ≤ 9223372036854775807)
    (eg : ∀ args w, (callFunc g args).run Try.prog w = .ok (.enter g args) w)
    (hr : ∀ k W, I k W → Rd enc W a xs) (h0 : I 0 w)
    (hp : ∀ k W (hk : k < xs.length), I k W → Calls Try.prog g (#[enc xs[k]] ++ lb) W fun e W' => e = .returned (.bool (p k)) ∧ I (k + 1) W') :
    Calls Try.prog 56 #[.slice a xs.length cap, .func (.func g) #[] lb] w fun e w' => e = .returned (.int .i64 (Ix.idx p xs.length)) ∧ ∃ k, k ≤ xs.length ∧ I k w' := by
  have HP := Lib.hid hp
  have HR := Lib.hid hr
  have H0 := Lib.hid h0
  clear hp hr h0
  go_enter Try.func56, Try.ntmps56
  go_wp2
  go_loopw [5, 8] (fun _ i wr => ∃ k : Nat, k ≤ xs.length ∧ i = .int .i64 k ∧ (∀ j, j < k → p j = false) ∧ I k wr) (fun _ i _ => xs.length - (intOf i).toNat)
  case atStart => exact ⟨0, Nat.zero_le _, rfl, fun j hj => absurd hj (Nat.not_lt_zero _), H0.out⟩
  case round =>
    obtain ⟨k, hk, rfl, hno, hI⟩ := hrel
    have HN := Lib.hid hno
    have HI := Lib.hid hI
    clear hno hI
    by_cases hlt : k < xs.length
    · have HC := HP.out k wr hlt HI.out
      obtain ⟨b, off, rfl, hb, hc⟩ := (HR.out k wr HI.out).form (by omega)
      have hck := hc k hlt
      clear hc
      generalize hpv : p k = pv at HC
      have HPV := Lib.hid hpv
      clear hpv
      cases pv with
      | true =>
        go_wp2_with (go_at_fn g; refine HC.mono ?_; rintro e w1 ⟨rfl, h1⟩)
        have H1 := Lib.hid h1
        clear h1
        go_wp2
        go_ret
        have := Ix.idx_some hlt HPV.out HN.out
        exact ⟨ret_int this.symm, k + 1, hlt, H1.out⟩
      | false =>
        go_wp2_with (go_at_fn g; refine HC.mono ?_; rintro e w1 ⟨rfl, h1⟩)
        have H1 := Lib.hid h1
        clear h1
        go_wp2
        go_roundw
        case rel => exact ⟨k + 1, by omega, by go_num, fun j hj => by by_cases e : j = k; { subst e; exact HPV.out }; exact HN.out j (by omega), H1.out⟩
        case measure => simp [intOf]; omega
    · go_wp2
      go_ret
      have h1 := Ix.idx_none (p := p) (n := xs.length) fun i hi => HN.out i (by omega)
      exact ⟨ret_int h1.symm, k, hk, HI.out⟩

set_option maxHeartbeats 400000 in
theorem containsFunc_bytes {α : Type} (enc : α → Value) (a : Option Addr) (cap : Nat) (xs : List α) (g : Nat) (lb : Array Value) (p : Nat → Bool) (I : Nat → World → Prop) (w : World) (hm : xs.length ≤ 9223372036854775807)
    (eg : ∀ args w, (callFunc g args).run Try.prog w = .ok (.enter g args) w)
    (hr : ∀ k W, I k W → Rd enc W a xs) (h0 : I 0 w)
    (hp : ∀ k W (hk : k < xs.length), I k W → Calls Try.prog g (#[enc xs[k]] ++ lb) W fun e W' => e = .returned (.bool (p k)) ∧ I (k + 1) W') :
    Calls Try.prog 48 #[.slice a xs.length cap, .func (.func g) #[] lb] w fun e w' => e = .returned (.bool (Ix.any p xs.length)) ∧ ∃ k, k ≤ xs.length ∧ I k w' := by
  have HX := Lib.hid (indexFunc_bytes enc a cap xs g lb p I w hm eg hr h0 hp)
  have HA := Lib.hid (Ix.any_iff p xs.length)
  clear hr h0 hp
  generalize Ix.idx p xs.length = r at *
  go_enter Try.func48, Try.ntmps48
  go_wp2_with (go_at_call 56; refine HX.out.mono ?_; rintro e w' ⟨rfl, h1⟩; have H1 := Lib.hid h1; clear h1)
  go_ret
  exact ⟨ret_bool HA.out.symm, H1.out⟩

set_option maxHeartbeats 800000 in
theorem index_ints {v : Value} {xs : List Int} {w : World} (h : Sl (Value.int .i64) w v xs) (x : Int) : Calls Try.prog 55 #[v, .int .i64 x] w fun e w' => e = .returned (.int .i64 (Ix.idx (fun k => decide (x = xs.getD k 0)) xs.length)) ∧ w = w' := by
  obtain ⟨a, cap, rfl, h1, h2, h3, hr⟩ := h
  unfold maxLen at h2
  have HR := Lib.hid hr
  clear hr
  go_enter Try.func55, Try.ntmps55
  go_wp2
  go_loop [5, 8] (fun _ i => ∃ k : Nat, i = .int .i64 k ∧ k ≤ xs.length ∧ Hid (∀ j, j < k → decide (x = xs.getD j 0) = false)) (fun _ i => xs.length - (intOf i).toNat)
  case atStart => exact ⟨0, rfl, Nat.zero_le _, fun j hj => absurd hj (Nat.not_lt_zero _)⟩
  case round =>
    obtain ⟨k, rfl, hk, HN⟩ := hrel
    by_cases hlt : k < xs.length
    · obtain ⟨b, off, rfl, hb, hc⟩ := HR.out.form (by omega)
      have hck : w.cell? ⟨b, off + k, none⟩ = some (.int .i64 xs[k]) := hc k hlt
      have f1 : (0 : Int) ≤ (k : Int) := by omega
      have f2 : (k : Int) < (xs.length : Int) := by omega
      have HG : Hid (xs.getD k 0 = xs[k]) := by simp [Hid, List.getD, hlt]
      generalize xs[k] = y at *
      clear hc
      by_cases he : x = y
      · have hq : (x == y) = true := by simp [he]
        have HE := Lib.hid he
        clear he
        go_wp2
        go_ret
        have := Ix.idx_some (p := fun k => decide (x = xs.getD k 0)) hlt (by rw [HG.out]; simpa using HE.out) HN.out
        exact ⟨ret_int this.symm, rfl⟩
      · have hq : (x == y) = false := by simp [he]
        have HE := Lib.hid he
        clear he
        go_wp2
        go_round
        case rel => exact ⟨k + 1, by go_num, by omega, fun j hj => by by_cases e : j = k; { subst e; rw [HG.out]; simpa using HE.out }; exact HN.out j (by omega)⟩
        case measure => simp [intOf]; omega
    · go_wp2
      go_ret
      have h1 := Ix.idx_none (p := fun k => decide (x = xs.getD k 0)) (n := xs.length) fun i hi => HN.out i (by omega)
      exact ⟨ret_int h1.symm, rfl⟩

theorem any_mem (x : Int) (xs : List Int) : Ix.any (fun k => decide (x = xs.getD k 0)) xs.length = decide (x ∈ xs) := by
  rw [Bool.eq_iff_iff, decide_eq_true_iff]
  unfold Ix.any
  rw [List.any_eq_true]
  constructor
  · rintro ⟨k, hk, h⟩
    have hk' : k < xs.length := by simpa using hk
    simp only [List.getD, List.getElem?_eq_getElem hk', Option.getD_some, decide_eq_true_eq] at h
    rw [h]
    exact List.getElem_mem hk'
  · intro h
    obtain ⟨k, hk, rfl⟩ := List.getElem_of_mem h
    exact ⟨k, by simpa using hk, by simp [List.getD, hk]⟩

theorem contains_ints {v : Value} {xs : List Int} {w : World} (h : Sl (Value.int .i64) w v xs) (x : Int) : Calls Try.prog 47 #[v, .int .i64 x] w fun e w' => e = .returned (.bool (decide (x ∈ xs))) ∧ w = w' := by
  obtain ⟨a, cap, hv, -⟩ := id h
  have HI := Lib.hid (index_ints h x)
  rw [← any_mem, Ix.any_iff]
  subst hv
  clear h
  generalize Ix.idx (fun k => decide (x = xs.getD k 0)) xs.length = q at *
  go_enter Try.func47, Try.ntmps47
  go_wp2_with (go_at_call 55; (with_reducible refine HI.out.mono ?_); rintro e w1 ⟨rfl, rfl⟩)
  go_ret
  exact ⟨rfl, rfl⟩

theorem nonzero_w (x : UInt8) (w : World) : Calls Try.prog 49 #[eb x] w fun e w' => e = .returned (.bool (!decide (x = 0))) ∧ w = w' := by
  have hq : ((x.toNat : Int) != 0) = !decide (x = 0) := by
    by_cases e : x = 0
    · subst e; rfl
    · rw [decide_eq_false e]
      have := eb_ne e
      simpa using this
  unfold eb
  generalize (x.toNat : Int) = n at *
  generalize (!decide (x = 0)) = r at *
  go_enter Try.func49, Try.ntmps49
  go_wp2
  go_ret
  exact ⟨rfl, rfl⟩

theorem any_zer (xs : List UInt8) : Ix.any (fun k => !decide (xs.getD k 0 = 0)) xs.length = !decide (∀ x ∈ xs, x = 0) := by
  rw [Bool.eq_iff_iff]
  unfold Ix.any
  rw [List.any_eq_true]
  simp only [Bool.not_eq_true', decide_eq_false_iff_not, List.mem_range]
  constructor
  · rintro ⟨k, hk, h⟩ hall
    apply h
    rw [List.getD, List.getElem?_eq_getElem hk]
    exact hall _ (List.getElem_mem hk)
  · intro h
    refine Classical.byContradiction fun hn => h fun x hx => ?_
    obtain ⟨k, hk, rfl⟩ := List.getElem_of_mem hx
    refine Classical.byContradiction fun hz => hn ⟨k, hk, ?_⟩
    rw [List.getD, List.getElem?_eq_getElem hk]
    exact hz

theorem zeros_w {v : Value} {xs : List UInt8} {w : World} (h : Sl eb w v xs) : Calls Try.prog 48 #[v, .func (.func 49) #[] #[]] w fun e w' => e = .returned (.bool (!decide (∀ x ∈ xs, x = 0))) ∧ w = w' := by
  obtain ⟨a, cap, rfl, h1, h2, h3, hr⟩ := h
  unfold maxLen at h2
  have := containsFunc_bytes eb a cap xs 49 #[] (fun k => !decide (xs.getD k 0 = 0)) (fun _ W' => w = W') w (by omega)
    (enters_of Try.func49 (by kernel_rfl) rfl) (fun k W' h => by rw [← h]; exact hr) rfl (fun k W' hk h => by
      subst h
      have h9 := nonzero_w xs[k] w
      have e : xs.getD k 0 = xs[k] := by simp [List.getD, hk]
      rw [e]
      exact h9)
  rw [any_zer] at this
  exact this.mono fun e w' ⟨h, k, _, h'⟩ => ⟨h, h'⟩

/-- What blocks answers. -/
def RetBl (h : List UInt8) (W : World) (e : Ending) (w' : World) : Prop := ∃ v, e = .returned (.tuple #[v, .bool (Jr.formOk h)]) ∧ (Jr.formOk h = true → w'.ownsRow W.heap.size 3 1 v (Jr.cnt h) ((Jr.bls h (Jr.cnt h)).map (.int .i64))) ∧ Below W.heap.size W w'

theorem retBl_no {r : Bool} (e : r = false) {v : Value} {W w' : World} {n : Nat} {cs : List Value} (hb : Below W.heap.size W w') : ∃ v', Ending.returned (.tuple #[v, .bool false]) = .returned (.tuple #[v', .bool r]) ∧ (r = true → w'.ownsRow W.heap.size 3 1 v' n cs) ∧ Below W.heap.size W w' := by
  subst e
  exact ⟨_, rfl, fun e => (by cases e), hb⟩

theorem Try.info3 : (Try.prog.info? 3).map (fun i => (i.zero, i.size, i.bytes)) = some (some (.int .i64 0), 1, 8) := by kernel_rfl

set_option maxRecDepth 100000 in
set_option maxHeartbeats 3200000 in
theorem blocks_w {b off cap : Nat} {h : List UInt8} {w : World} (hv : Sl eb w (.slice (some ⟨b, off, none⟩) 128 cap) h) : Calls Try.prog 41 #[.slice (some ⟨b, off, none⟩) 128 cap] w (RetBl h w) := by
  obtain ⟨b9, off9, e9, hb, hl, hc, hm⟩ := hv.addr (by omega)
  simp only [Option.some.injEq, Addr.mk.injEq, and_true] at e9
  obtain ⟨rfl, rfl⟩ := e9
  obtain ⟨a2, c2, q, -, -, -, hr⟩ := id hv
  injection q with q1 q2 q3
  subst q1 q3
  have HL := Lib.hid hl
  have HR := Lib.hid hr
  have H4 := conv_sl (w := w) (by simpa using hv.cut 0 4 (by omega))
  have H4d : (convert 29 9 (.slice (some ⟨b, off, none⟩) 4 cap)).run Try.prog w.drew = .ok (.string ⟨(h.take 4).toArray⟩) w.drew := conv_sl (w := w.drew) (by simpa using Sl.below (hv.cut 0 4 (by omega)) (low_drew w) (Nat.le_refl _))
  have hx4 := (hr.at 4 (by omega)).2
  have HX : Hid (∀ W, Below w.heap.size w W → ∀ k, k < 11 → W.cell? ⟨b, off + 5 + k, none⟩ = some (.int .u8 ((Jr.ent h k).toNat : Int))) := fun W hW k hk => by
    have h1 := (hr.at (5 + k) (by omega)).2
    rw [hW.cell (p := ⟨b, off + 5 + k, none⟩) hb, Nat.add_assoc, h1]
    unfold Jr.ent eb
    simp [List.getD, show 5 + k < h.length by omega]
  have hcn : (Jr.cnt h : Int) = ((h[4]'(by omega)).toNat : Int) := by unfold Jr.cnt; simp [List.getD, show 4 < h.length by omega]
  unfold eb at hx4
  rw [← hcn] at hx4
  have HZ := Lib.hid (hv.cut 28 100 (by omega))
  have HF : Hid (Jr.formOk h = (Jr.leadOk h && (Jr.entOk h && Jr.zerOk h))) := rfl
  have hlead : Jr.leadOk h = (decide (h.take 4 = [74, 82, 78, 48] ∧ Jr.cnt h = 0) || decide (h.take 4 = [74, 82, 78, 49] ∧ 0 < Jr.cnt h ∧ Jr.cnt h ≤ 11)) := rfl
  have HCN : Hid (Jr.cnt h < 256) := (h.getD 4 0).toNat_lt
  clear hl hr hcn hv q2
  have hcc : Jr.cnt h < 256 := HCN.out
  unfold maxLen at hm
  have HE := Lib.hid (Jr.entOk_iff h)
  have HEA : Hid (∀ k, Jr.entAt h k = if Jr.cnt h ≤ k then decide (Jr.ent h k = 0) else Jr.home (Jr.ent h k).toNat && decide (((Jr.ent h k).toNat : Int) ∉ Jr.bls h k)) := fun _ => rfl
  have HZR : Hid (Jr.zerOk h = decide (∀ x ∈ (h.drop 28).take 100, x = 0)) := by
    show Jr.zerOk h = _
    rw [List.take_of_length_le (by rw [List.length_drop, ← HL.out]; omega)]
    rfl
  have HBS : Hid (∀ k, Jr.bls h (k + 1) = Jr.bls h k ++ [((Jr.ent h k).toNat : Int)]) := fun k => by
    unfold Jr.bls
    rw [List.range_succ, List.map_append]
    rfl
  have HLD := Lib.hid hlead
  clear hlead
  unfold RetBl
  obtain ⟨i0, hi, hz0, hz1, hz2⟩ := info_parts Try.info3
  by_cases hOK : (h.take 4 = [74, 82, 78, 48] ∧ Jr.cnt h < 1) ∨ (h.take 4 = [74, 82, 78, 49] ∧ 0 < Jr.cnt h ∧ Jr.cnt h ≤ 11)
  rotate_left
  · have HNO : Hid (Jr.formOk h = false) := by
      show _ = _
      have : Jr.leadOk h = false := by
        rw [HLD.out, Bool.or_eq_false_iff, decide_eq_false_iff_not, decide_eq_false_iff_not]
        exact ⟨fun e => hOK (.inl ⟨e.1, by omega⟩), fun e => hOK (.inr e)⟩
      rw [HF.out, this, Bool.false_and]
    have h3 : (h.take 4 = [74, 82, 78, 48] ∧ 0 < Jr.cnt h) ∨ (h.take 4 = [74, 82, 78, 49] ∧ (Jr.cnt h < 1 ∨ 11 < Jr.cnt h)) ∨ (h.take 4 ≠ [74, 82, 78, 48] ∧ h.take 4 ≠ [74, 82, 78, 49]) := by
      by_cases e1 : h.take 4 = [74, 82, 78, 48]
      · exact .inl ⟨e1, by have : ¬ Jr.cnt h < 1 := fun e => hOK (.inl ⟨e1, e⟩); omega⟩
      · by_cases e2 : h.take 4 = [74, 82, 78, 49]
        · exact .inr (.inl ⟨e2, by have : ¬ (0 < Jr.cnt h ∧ Jr.cnt h ≤ 11) := fun e => hOK (.inr ⟨e2, e⟩); omega⟩)
        · exact .inr (.inr ⟨e1, e2⟩)
    clear hOK HF HLD
    generalize Jr.formOk h = r at *
    obtain rfl : r = false := HNO.out
    generalize hn : Jr.cnt h = n at *
    have HN := Lib.hid hn
    clear hn
    generalize h.take 4 = t4 at *
    rcases h3 with ⟨rfl, g1⟩ | ⟨rfl, g1 | g1⟩ | ⟨g1, g2⟩
    all_goals
      go_enter Try.func41, Try.ntmps41
      go_wp2_with fail
      go_region
      all_goals go_wp2_with fail
      all_goals first
        | (exfalso; omega)
        | (go_ret2; exact ⟨_, rfl, fun e => (by cases e), low_drew w⟩)
  · have HLO : Hid (Jr.leadOk h = true) := by
      show _ = _
      rw [HLD.out, Bool.or_eq_true, decide_eq_true_iff, decide_eq_true_iff]
      rcases hOK with e | e
      · exact .inl ⟨e.1, by omega⟩
      · exact .inr e
    have hn11 : Jr.cnt h ≤ 11 := by omega
    have HF2 : Hid (Jr.formOk h = (Jr.entOk h && Jr.zerOk h)) := by
      show _ = _
      rw [HF.out, HLO.out, Bool.true_and]
    have HENT : Hid (∀ k, k < 11 → Jr.entAt h k = false → Jr.formOk h = false) := fun k hk e => by
      have : Jr.entOk h = false := by
        rw [Bool.eq_false_iff]
        intro h9
        rw [HE.out.1 h9 k hk] at e
        cases e
      rw [HF2.out, this, Bool.false_and]
    have HALL : Hid ((∀ k, k < 11 → Jr.entAt h k = true) → Jr.formOk h = Jr.zerOk h) := fun e => by rw [HF2.out, HE.out.2 e, Bool.true_and]
    clear HF HLD
    generalize Jr.formOk h = r at *
    generalize hn : Jr.cnt h = n at *
    have HN := Lib.hid hn
    clear hn
    generalize h.take 4 = t4 at *
    go_enter Try.func41, Try.ntmps41
    go_wp2_with fail
    have hq : ∃ q : Bool, ((n : Int) == 0) = q ∧ ((t4 = [74, 82, 78, 48] ∧ q = true) ∨ (t4 = [74, 82, 78, 49] ∧ q = false)) := by
      rcases hOK with ⟨e, g1⟩ | ⟨e, g1, g2⟩
      · exact ⟨true, by rw [beq_iff_eq]; omega, .inl ⟨e, rfl⟩⟩
      · exact ⟨false, by rw [beq_eq_false_iff_ne]; omega, .inr ⟨e, rfl⟩⟩
    obtain ⟨q, hq, hq2⟩ := hq
    clear hOK
    rcases hq2 with ⟨rfl, rfl⟩ | ⟨rfl, rfl⟩
    all_goals
      go_region
      go_wp2_with fail
      go_loopw [6, 7, 8, 36, 41, 49, 65] (fun s6 _ _ i _ _ _ wr => ∃ (k m : Nat) (v : Value), v = s6 ∧ i = .int .i64 k ∧ k ≤ 11 ∧ m ≤ k ∧ m ≤ n ∧ Hid (m = k ∨ m = n) ∧ wr.ownsRow w.heap.size 3 1 v m ((Jr.bls h m).map (Value.int .i64)) ∧ Hid (∀ i, i < k → Jr.entAt h i = true) ∧ Below w.heap.size w wr) (fun _ _ _ i _ _ _ _ => 11 - (intOf i).toNat)
      case atStart => exact ⟨0, 0, _, rfl, rfl, Nat.zero_le _, Nat.le_refl _, Nat.zero_le _, .inl rfl, World.ownsRow_nil _ _ _ _, fun i hi => absurd hi (Nat.not_lt_zero _), low_drew w⟩
      case round =>
        obtain ⟨k, m, v, rfl, rfl, hk, hmk, hmn, HMK, ho, HP, hbl⟩ := hrel
        obtain ⟨a1, c1, rfl⟩ := own_slice ho
        by_cases hlt : k < 11
        · have y := HX.out wr hbl k hlt
          have hbs := hbl.size
          have HBL := Lib.hid hbl
          have HO := Lib.hid ho
          have HEk := Lib.hid (HEA.out k)
          have HNo := Lib.hid (HENT.out k hlt)
          have HBk := Lib.hid (HBS.out k)
          have HPn : Hid (Jr.entAt h k = true → ∀ i, i < k + 1 → Jr.entAt h i = true) := fun e i hi => by
            by_cases e2 : i = k
            · subst e2; exact e
            · exact HP.out i (by omega)
          clear ho hbl
          generalize Jr.ent h k = x at *
          have f0 : (0 : Int) ≤ (k : Int) := by omega
          have hx8 : x.toNat < 256 := x.toNat_lt
          have f0' : (k : Int) < 11 := by omega
          by_cases hkn : k < n
          · have f1 : (k : Int) < (n : Int) := by omega
            obtain rfl : m = k := by have := HMK.out; omega
            have HJH := Lib.hid (fun W => jhome_w (x.toNat : Int) W)
            have HCO := Lib.hid (contains_ints (Sl.ofOwn HO.out) (x.toNat : Int))
            have hEk := HEk.out
            rw [if_neg (by omega)] at hEk
            cases hh : Jr.home (x.toNat : Int) with
            | false =>
              rw [hh] at HJH
              have HR := Lib.hid (HNo.out (by rw [hEk, hh, Bool.false_and]))
              clear hEk hh
              go_wp2_with (first | (go_at_call 39; (with_reducible refine (HJH.out _).mono ?_); rintro e w1 ⟨rfl, rfl⟩))
              go_ret2
              exact retBl_no HR.out HBL.out
            | true =>
              rw [hh] at HJH
              by_cases hmem : (x.toNat : Int) ∈ Jr.bls h m
              · rw [decide_eq_true hmem] at HCO
                have HR := Lib.hid (HNo.out (by rw [hEk, decide_eq_false (by simpa using hmem), Bool.and_false]))
                clear hEk hh hmem
                go_wp2_with (first | (go_at_call 39; (with_reducible refine (HJH.out _).mono ?_); rintro e w1 ⟨rfl, rfl⟩) | (go_at_call 47; (with_reducible refine HCO.out.mono ?_); rintro e w1 ⟨rfl, rfl⟩))
                go_ret2
                exact retBl_no HR.out HBL.out
              · rw [decide_eq_false hmem] at HCO
                have HR := Lib.hid (HPn.out (by rw [hEk, hh, decide_eq_true hmem]; rfl))
                clear hEk hh hmem
                go_wp2_with (first | (go_at_call 39; (with_reducible refine (HJH.out _).mono ?_); rintro e w1 ⟨rfl, rfl⟩) | (go_at_call 47; (with_reducible refine HCO.out.mono ?_); rintro e w1 ⟨rfl, rfl⟩) | (at_builtin; refine wpList_append_rd (Value.int .i64) (fun _ => rfl) rfl _ _ 70 rfl w.heap.size 3 i0 (.int .i64 0) 8 Try.underlying70 hi hz0 hz1 hz2 rfl (.slice a1 m c1) m (Jr.bls h m) rfl (HO.out.alloc _) (some ⟨wr.heap.size, 0, none⟩) 1 [(x.toNat : Int)] 1 rfl rfl (by simp) (by omega) (Rd.one (Value.int .i64) wr (x.toNat : Int) _ _) (by unfold maxLen; omega) (by omega) (by simp; omega) ?_; intro v7 w7 ho7 hs7 hb7))
                go_roundw
                case rel => exact ⟨m + 1, m + 1, _, rfl, by go_num, by omega, by omega, by omega, .inl rfl, by rw [HBk.out]; exact ho7, HR.out, (HBL.out.alloc hbs _).trans hb7⟩
                case measure => simp [intOf]; omega
          · have f1 : ¬ (k : Int) < (n : Int) := by omega
            have HMN : Hid (m = n) := by have := HMK.out; show m = n; omega
            have hEk := HEk.out
            rw [if_pos (by omega)] at hEk
            by_cases hx : x = 0
            · have hq0 : ((x.toNat : Int) != 0) = false := by rw [hx]; rfl
              have HR := Lib.hid (HPn.out (by rw [hEk, hx]; rfl))
              clear hEk hx
              go_wp2_with fail
              go_roundw
              case rel => exact ⟨k + 1, m, _, rfl, by go_num, by omega, by omega, by omega, .inr HMN.out, HO.out, HR.out, HBL.out⟩
              case measure => simp [intOf]; omega
            · have hq0 : ((x.toNat : Int) != 0) = true := eb_ne hx
              have HR := Lib.hid (HNo.out (by rw [hEk]; simpa using hx))
              clear hEk hx
              go_wp2_with fail
              go_ret2
              exact retBl_no HR.out HBL.out
        · obtain rfl : k = 11 := by omega
          obtain rfl : m = n := by have := HMK.out; omega
          have HRA := Lib.hid (HALL.out HP.out)
          have HZW := Lib.hid (zeros_w (HZ.out.below hbl (Nat.le_refl _)))
          have HR : Hid (r = decide (∀ x ∈ (h.drop 28).take 100, x = 0)) := by show r = _; rw [HRA.out, HZR.out]
          have HO := Lib.hid ho
          have HBL := Lib.hid hbl
          generalize decide (∀ x ∈ (h.drop 28).take 100, x = 0) = z at *
          clear ho hbl
          go_wp2_with (go_at_call 48; (with_reducible refine HZW.out.mono ?_); rintro e w1 ⟨rfl, rfl⟩)
          go_ret2
          exact ⟨_, by rw [HR.out]; simp, fun _ => HO.out, HBL.out⟩
end Go.Proofs.Ytcbgablnbgpjdaa
