/-
  The walks of the reference's Read, with and Write.
-/
import Derived.Test.YtkgheilaleekdaaOps
import Derived.Test.YtkgheilaleekdaaEq
namespace Go.Proofs.Ytkgheilaleekdaa
open Go.RowKit

set_option maxHeartbeats 800000 in
theorem rread_w {v : Value} {ps : List (List UInt8)} {w : World} (f x n : Int) (hv : Pg w v ps) :
    Calls Try.prog 22 #[.agg #[v], .int .i64 f, .int .i64 x, .int .i64 n] w fun e w' => ∃ v', e = .returned (.tuple #[v', .int .i64 (Fr.read ps f x n).2]) ∧ w'.ownsRow w.heap.size 5 1 v' (Fr.read ps f x n).1.length ((Fr.read ps f x n).1.map eb) ∧ Below w.heap.size w w' := by
  have HV := Lib.hid hv
  have HC : Hid (∀ w', Below w.heap.size w w' → Calls Try.prog 35 #[.agg #[v], .int .i64 f, .int .i64 x, .int .i64 n] w' fun e w'' => e = .returned (.int .i64 (Fr.chk ps f x n)) ∧ Below w'.heap.size w' w'') := fun w' hb => rcheck_w f x n (hv.below hb (Nat.le_refl _))
  have hB : Below w.heap.size w (w.alloc (.cells #[v] 24 (0, 0))) := (Below.refl _ _).alloc (Nat.le_refl _) _
  obtain ⟨i0, hi, hz0, hz1, hz2⟩ := info_parts Try.info5
  rcases Fr.chk_cases ps f x n with ⟨hc, hva, hok⟩ | hc
  · obtain ⟨hl, hpl⟩ := Fr.valid_iff.1 hva
    obtain ⟨r1, r2, r3, r4, r5, r6⟩ := Fr.okR_iff.1 hok
    obtain ⟨F, rfl⟩ := Int.eq_ofNat_of_zero_le r1
    obtain ⟨X, rfl⟩ := Int.eq_ofNat_of_zero_le r3
    obtain ⟨N, rfl⟩ := Int.eq_ofNat_of_zero_le r5
    have hF : F < ps.length := by omega
    obtain ⟨a, cap, rfl, hcc, hcm, hna, -⟩ := hv.open
    obtain ⟨b, off, a', c', rfl, hb, hck, p1, p2, p3, p4⟩ := hv.el F hF
    obtain ⟨pb, po, rfl, hpb, -⟩ := p4.form (by rw [hpl F hF]; omega)
    have HR : Hid (Fr.read ps F X N = ((ps[F].drop X).take N, 0)) := by
      show Fr.read ps F X N = _
      unfold Fr.read; rw [if_pos hc]; simp [Fr.page, List.getD, hF]
    rw [hpl F hF] at hck p1
    have HRL : Hid (((ps[F].drop X).take N).length = N) := by
      show _ = _
      rw [List.length_take, List.length_drop, hpl F hF]; omega
    have hrd := (p4.drop X c' (by rw [hpl F hF]; exact p1)).take N
    rw [← cut_form] at hrd
    obtain ⟨ad2, hA⟩ : ∃ ad2, (if c' = X then some (⟨pb, po, none⟩ : Addr) else some ⟨pb, po + X, none⟩) = ad2 := ⟨_, rfl⟩
    rw [hA] at hrd
    have hna2 : ad2 = none → c' - X = 0 := by intro e; rw [e] at hA; split at hA <;> cases hA
    rw [hc] at HC
    rw [hl] at HC hB ⊢
    have HN2 := Lib.hid hna2
    have HRD := Lib.hid hrd
    generalize hbs : List.take N (List.drop X ps[F]) = bs at *
    unfold maxLen at hcm p2
    clear hc hva hok hpl hl HV hv p4 hrd hna2 hbs
    have f1 : (0 : Int) ≤ (F : Int) := by omega
    have f2 : (F : Int) < 96 := by omega
    go_enter Try.func22, Try.ntmps22
    go_wp2_with (first
      | (go_at_call 35; refine (HC.out _ hB).mono ?_; rintro e w1 ⟨rfl, hb1⟩; obtain ⟨hbw1, k1⟩ := box1 hb1; have hck1 := (hbw1.cell (p := ⟨b, off + F, none⟩) hb).trans hck; have hs0 := hbw1.size; have hs1 : w.heap.size < w1.heap.size := (by have := hb1.size; simp at this; omega); have hs2 : b < w1.heap.size := (by omega))
      | (at_builtin; refine wpList_append_rd eb (fun _ => rfl) rfl _ _ 27 rfl w1.heap.size 5 i0 (.int .u8 0) 1 Try.underlying27 hi hz0 hz1 hz2 rfl _ 0 [] rfl (World.ownsRow_made w1 #[] 0 (Nat.le_refl _) (Nat.zero_le _) rfl) ad2 (c' - X) bs (X + N - X) rfl (by rw [HRL.out]; omega) HN2.out (by omega) (HRD.out.below (hbw1.alloc hbw1.size _) (Nat.le_refl _)) (by unfold maxLen; omega) (by omega) (by simp) ?_; intro v2 w2 ho2 hsp2 hb2))
    go_ret2
    rw [HR.out]
    refine ⟨_, rfl, ?_, hbw1.trans ((((Below.refl _ w1).alloc (Nat.le_refl _) _).trans hb2).mono hs0)⟩
    obtain ⟨q1, q2⟩ := ho2
    rw [Nat.zero_add, Nat.add_sub_cancel_left] at q1 q2
    rw [HRL.out]
    refine ⟨by simpa using q1, q2.elim (fun h => .inl h) ?_⟩
    rintro ⟨g, cp, cur, e1, e2, e3⟩
    exact .inr ⟨g, cp, cur, e1, Nat.le_trans hbw1.size e2, by simpa using e3⟩
  · have hne : ((Fr.chk ps f x n) != 0) = true := by rw [bne_iff_ne]; rcases hc with ⟨h, _⟩ | ⟨h, _⟩ <;> rw [h] <;> decide
    have HR : Hid (Fr.read ps f x n = ([], Fr.chk ps f x n)) := by
      show Fr.read ps f x n = _
      unfold Fr.read; rw [if_neg (by simpa using hne)]
    generalize Fr.chk ps f x n = c at *
    obtain ⟨a, cap, rfl, -⟩ := hv.open
    clear hc hv HV
    go_enter Try.func22, Try.ntmps22
    go_wp2_with (go_at_call 35; refine (HC.out _ hB).mono ?_; rintro e w1 ⟨rfl, hb1⟩; obtain ⟨hbw1, k1⟩ := box1 hb1)
    go_ret2
    rw [HR.out]
    exact ⟨_, rfl, World.ownsRow_nil _ _ _ _, hbw1⟩

/-- A slice value by its three parts. -/
def es (x : Option Addr × Nat × Nat) : Value := .slice x.1 x.2.1 x.2.2

theorem Pg.tri {w : World} {v : Value} {ps : List (List UInt8)} (h : Pg w v ps) : ∃ ts : List (Option Addr × Nat × Nat), Sl es w v ts ∧ ts.length = ps.length ∧ ∀ i (hi : i < ts.length) (h' : i < ps.length), Sl eb w (es ts[i]) ps[i] := by
  obtain ⟨vs, ⟨a, cap, h1, h2, h3, h4, h5⟩, hl, he⟩ := h
  have hx : ∀ i (hi : i < vs.length), ∃ t, vs[i] = es t := fun i hi => by
    obtain ⟨a', c', e, _⟩ := he i hi (by omega)
    exact ⟨(a', _, c'), e⟩
  have hex : ∃ ts : List (Option Addr × Nat × Nat), ts.map es = vs := by
    clear h1 h2 h5 he hl
    induction vs with
    | nil => exact ⟨[], rfl⟩
    | cons x r ih =>
      obtain ⟨t, ht⟩ := hx 0 (by simp)
      obtain ⟨ts, hts⟩ := ih (fun i hi => hx (i + 1) (by simpa using hi))
      exact ⟨t :: ts, by simp [hts]; simpa using ht.symm⟩
  obtain ⟨ts, rfl⟩ := hex
  refine ⟨ts, ⟨a, cap, by simpa using h1, by simpa using h2, h3, h4, fun i hi => ?_⟩, by simpa using hl, fun i hi h' => ?_⟩
  · obtain ⟨b, off, ha, hlt, hc⟩ := h5 i (by simpa using hi)
    exact ⟨b, off, ha, hlt, by rw [hc]; simp⟩
  · have := he i (by simpa using hi) h'
    simpa using this

theorem Pg.ofTri {w : World} {v : Value} {ps : List (List UInt8)} {ts : List (Option Addr × Nat × Nat)} (h : Sl es w v ts) (hl : ts.length = ps.length) (he : ∀ i (hi : i < ts.length) (h' : i < ps.length), Sl eb w (es ts[i]) ps[i]) : Pg w v ps := by
  obtain ⟨a, cap, h1, h2, h3, h4, h5⟩ := h
  refine ⟨ts.map es, ⟨a, cap, by simpa using h1, by simpa using h2, h3, h4, fun i hi => ?_⟩, by simpa using hl, fun i hi h' => ?_⟩
  · obtain ⟨b, off, ha, hlt, hc⟩ := h5 i (by simpa using hi)
    exact ⟨b, off, ha, hlt, by rw [hc]; simp⟩
  · have := he i (by simpa using hi) h'
    simpa using this

/-- What the slice v reads lies in blocks of A. -/
def inA (A : Nat → Prop) (v : Value) : Prop := ∀ a n c, v = .slice (some a) n c → 0 < n → A a.block

theorem inA.mono {A A' : Nat → Prop} {v : Value} (h : inA A v) (hA : ∀ b, A b → A' b) : inA A' v := fun a n c e h0 => hA _ (h a n c e h0)

theorem inA.sl {α : Type} {enc : α → Value} {w : World} {v : Value} {xs : List α} (h : Sl enc w v xs) : inA (fun b => b < w.heap.size) v := by
  obtain ⟨a, cap, rfl, _, _, _, hr⟩ := h
  intro a' n c e h0
  injection e with e1 e2 _
  obtain ⟨b, off, ha, hb, _⟩ := hr 0 (by omega)
  rw [e1] at ha
  injection ha with ha
  rw [ha]; exact hb

theorem inA.own {w : World} {base n : Nat} {e : TypeId} {v : Value} {cs : List Value} (h : w.ownsRow base e 1 v n cs) : inA (fun b => base ≤ b ∧ b < w.heap.size) v := by
  intro a n' c ev _
  rcases h.2 with ⟨hv, _⟩ | ⟨g, cap, cur, hv, hg, hh, _⟩
  · rw [hv] at ev; cases ev
  · rw [hv] at ev
    injection ev with e1 _ _
    injection e1 with e1
    subst e1
    exact ⟨hg, (Array.getElem?_eq_some_iff.1 hh).1⟩

theorem Sl.keepA {α : Type} {enc : α → Value} {w w' : World} {v : Value} {xs : List α} {A : Nat → Prop} (h : Sl enc w v xs) (hA : inA A v) (hk : ∀ b, A b → b < w.heap.size → w'.heap[b]? = w.heap[b]?) : Sl enc w' v xs := by
  obtain ⟨a, cap, h1, h2, h3, h4, h5⟩ := h
  refine ⟨a, cap, h1, h2, h3, h4, fun i hi => ?_⟩
  obtain ⟨b, off, ha, hlt, hc⟩ := h5 i hi
  have hb := hk b (hA ⟨b, off, none⟩ _ _ (by rw [h1, ha]) (by omega)) hlt
  refine ⟨b, off, ha, ?_, by rw [World.cell?_of_block (a := ⟨b, off + i, none⟩) hb]; exact hc⟩
  rw [Array.getElem?_eq_getElem hlt] at hb
  exact (Array.getElem?_eq_some_iff.1 hb).1

/-- v is a slice of slices of bytes that reads as ps; all of it lies in blocks of A. -/
def Pa (A : Nat → Prop) (w : World) (v : Value) (ps : List (List UInt8)) : Prop :=
  ∃ ts : List (Option Addr × Nat × Nat), Sl es w v ts ∧ inA A v ∧ ts.length = ps.length ∧ ∀ i (hi : i < ts.length) (h' : i < ps.length), Sl eb w (es ts[i]) ps[i] ∧ inA A (es ts[i])

theorem Pg.pa {w : World} {v : Value} {ps : List (List UInt8)} (h : Pg w v ps) : Pa (fun b => b < w.heap.size) w v ps := by
  obtain ⟨ts, h1, h2, h3⟩ := h.tri
  exact ⟨ts, h1, inA.sl h1, h2, fun i hi h' => ⟨h3 i hi h', inA.sl (h3 i hi h')⟩⟩

theorem Pa.pg {A : Nat → Prop} {w : World} {v : Value} {ps : List (List UInt8)} (h : Pa A w v ps) : Pg w v ps := by
  obtain ⟨ts, h1, _, h2, h3⟩ := h
  exact Pg.ofTri h1 h2 fun i hi h' => (h3 i hi h').1

theorem Pa.mono {A A' : Nat → Prop} {w : World} {v : Value} {ps : List (List UInt8)} (h : Pa A w v ps) (hA : ∀ b, A b → A' b) : Pa A' w v ps := by
  obtain ⟨ts, h1, h0, h2, h3⟩ := h
  exact ⟨ts, h1, h0.mono hA, h2, fun i hi h' => ⟨(h3 i hi h').1, (h3 i hi h').2.mono hA⟩⟩

theorem Pa.keep {A : Nat → Prop} {w w' : World} {v : Value} {ps : List (List UInt8)} (h : Pa A w v ps) (hk : ∀ b, A b → b < w.heap.size → w'.heap[b]? = w.heap[b]?) : Pa A w' v ps := by
  obtain ⟨ts, h1, h0, h2, h3⟩ := h
  exact ⟨ts, h1.keepA h0 hk, h0, h2, fun i hi h' => ⟨(h3 i hi h').1.keepA (h3 i hi h').2 hk, (h3 i hi h').2⟩⟩

theorem Pa.below {A : Nat → Prop} {w w' : World} {v : Value} {ps : List (List UInt8)} (h : Pa A w v ps) {B : Nat} (hb : Below B w w') (hB : w.heap.size ≤ B) : Pa A w' v ps := h.keep fun b _ hl => hb.block b (by omega)

theorem Pa.nil (A : Nat → Prop) (w : World) : Pa A w (.slice none 0 0) [] := ⟨[], Sl.nil _ _, (fun a n c e => by cases e), rfl, fun i h => absurd h (by simp)⟩

set_option maxRecDepth 20000 in
set_option maxHeartbeats 1600000 in
theorem with_w {v vp : Value} {ps : List (List UInt8)} {p : List UInt8} {w : World} {A : Nat → Prop} (F : Nat) (hv : Pa A w v ps) (hp : Sl eb w vp p) (hpA : inA A vp) (hl : ps.length = 96) (hF : F < 96) :
    Calls Try.prog 36 #[.agg #[v], .int .i64 F, vp] w fun e w' => ∃ a n c, e = .returned (.agg #[.slice a n c]) ∧ Pa (fun b => A b ∨ (w.heap.size ≤ b ∧ b < w'.heap.size)) w' (.slice a n c) (ps.set F p) ∧ Below w.heap.size w w' := by
  obtain ⟨ts, hsl, -, htl, hte⟩ := hv
  obtain ⟨a, cap, rfl, hc, hcm, hna, hrd⟩ := hsl
  have HP := Lib.hid hp
  obtain ⟨ap, cp, rfl, -⟩ := hp
  have hB : Below w.heap.size w ((w.alloc (.cells #[.slice a 96 cap] 24 (0, 0))).alloc (.cells #[.slice none 0 0] 24 (0, 0))) := ((Below.refl _ _).alloc (Nat.le_refl _) _).alloc (by simp) _
  obtain ⟨i0, hi, hz0, hz1, hz2⟩ := info_parts Try.info27
  have hl' : ts.length = 96 := htl.trans hl
  rw [hl'] at hc ⊢
  have HL := Lib.hid hl
  have HTL := Lib.hid hl'
  have HTE := Lib.hid hte
  have HRD := Lib.hid hrd
  unfold maxLen at hcm
  obtain ⟨b0, o0, rfl, hb0, -⟩ := hrd.form (by omega)
  have HPA := Lib.hid hpA
  clear hl hl' htl hte hrd hpA
  have f1 : (0 : Int) ≤ (F : Int) := by omega
  have f2 : (F : Int) < 96 := by omega
  go_enter Try.func36, Try.ntmps36
  go_wp2_with (at_builtin; refine wpList_append_rd es (fun _ => rfl) rfl _ _ 22 rfl (w.heap.size + 2) 27 i0 (.slice none 0 0) 24 Try.underlying22 hi hz0 hz1 hz2 rfl _ 0 [] rfl (own_empty (Bk.newAt _ _ [] (by simp)) (by omega)) (some ⟨b0, o0, none⟩) cap ts 96 rfl HTL.out hna hc (HRD.out.below (hB.alloc (by simp; omega) _) (Nat.le_refl _)) (by unfold maxLen; omega) (by omega) (by simp) ?_; intro v1 w1 ho1 hsp1 hb1; obtain ⟨g, c1, rfl⟩ := own_form ho1 (by omega); simp only [Nat.zero_add, List.nil_append] at ho1; have hg := ho1.lt g rfl; have B0 := ((Bk.newAt w 24 [.slice (some ⟨b0, o0, none⟩) 96 cap] rfl).alloc (.cells #[.slice none 0 0] 24 (0, 0))); have B1 := Bk.newAt (w.alloc (.cells #[.slice (some ⟨b0, o0, none⟩) 96 cap] 24 (0, 0))) 24 [.slice none 0 0] (n := w.heap.size + 1) (by simp); have B11 := (B1.alloc (.cells #[] 27 (0, 0))).below hb1 (by omega); have k1 := B11.cell 0; have z1 := B11.frozen 0; simp only [List.getElem?_cons_zero] at k1; have ck := ho1.cellAt F (by omega); have zk := ho1.frozenAt F; rw [List.getElem?_map, List.getElem?_eq_getElem (by rw [HTL.out]; omega)] at ck; simp only [Option.map_some] at ck; have n1 : w.heap.size + 1 ≠ g := (by omega); have n2 : g ≠ w.heap.size + 1 := (by omega); have n3 : w.heap.size + 1 < w1.heap.size := (by omega); have n4 : g < w1.heap.size := hg.2)
  obtain ⟨ho2, hgr2⟩ := World.ownsRow.stored ho1 F (.slice ap p.length cp)
  have hbw1 := ((hB.alloc (by simp; omega) (.cells #[] 27 (0, 0))).trans (hb1.mono (by omega)))
  have hset : (ts.map es).set F (.slice ap p.length cp) = (ts.set F (ap, p.length, cp)).map es := by rw [List.map_set]; rfl
  rw [hset] at ho2
  refine bodyPost_ret (v := .agg #[.slice (some ⟨g, 0, none⟩) 96 c1]) (by simp [results, Try.results36, go_sem, k1, n3]) rfl ⟨_, _, _, rfl, ?_, ?_⟩
  · have hbW : Below w.heap.size w (((w1.setCell ⟨g, F, none⟩ (.slice ap p.length cp)).setCell ⟨w.heap.size + 1, 0, none⟩ (.slice (some ⟨g, 0, none⟩) 96 c1)).alloc (.cells #[.slice (some ⟨g, 0, none⟩) 96 c1] 24 (0, 0))) := ((hbw1.setCell (by simp; omega) _).setCell (by simp) _).alloc (by simp; omega) _
    have hoW : (((w1.setCell ⟨g, F, none⟩ (.slice ap p.length cp)).setCell ⟨w.heap.size + 1, 0, none⟩ (.slice (some ⟨g, 0, none⟩) 96 c1)).alloc (.cells #[.slice (some ⟨g, 0, none⟩) 96 c1] 24 (0, 0))).ownsRow (w.heap.size + 2) 27 1 (.slice (some ⟨g, 0, none⟩) 96 c1) 96 ((ts.set F (ap, p.length, cp)).map es) := by
      refine own_keep ho2 fun k hk => ?_
      have hkg : k = g := by simp [Value.ownBlock] at hk; omega
      subst hkg
      rw [Below.heap_alloc _ _ _ (by simp; omega), Below.heap_setCell _ _ _ _ (by simp; omega)]
    refine ⟨_, Sl.ofOwn hoW, (inA.own hoW).mono fun b hb => .inr ⟨by omega, hb.2⟩, by rw [List.length_set, List.length_set, HTL.out, HL.out], fun i hi hi' => ?_⟩
    rw [List.getElem_set, List.getElem_set]
    by_cases e : F = i
    · rw [if_pos e, if_pos e]
      exact ⟨HP.out.below hbW (Nat.le_refl _), HPA.out.mono fun b hb => .inl hb⟩
    · rw [if_neg e, if_neg e]
      have h1 := HTE.out i (by simpa using hi) (by simpa using hi')
      exact ⟨h1.1.below hbW (Nat.le_refl _), h1.2.mono fun b hb => .inl hb⟩
  · exact ((hbw1.setCell (by simp; omega) _).setCell (by simp) _).alloc (by simp; omega) _
end Go.Proofs.Ytkgheilaleekdaa
