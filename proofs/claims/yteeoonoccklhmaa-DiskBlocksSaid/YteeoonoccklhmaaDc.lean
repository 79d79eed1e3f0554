/-
  The walks of slices.Clone of the blocks, of Valid and of copied.
-/
import Derived.Test.YteeoonoccklhmaaDb
import Derived.Test.YteeoonoccklhmaaKeeps
namespace Go.Proofs.Yteeoonoccklhmaa
open Go.RowKit

/-- A slice of bytes as a value. -/
abbrev Tr := Option Addr × Nat × Nat
def et (e : Tr) : Value := .slice e.1 e.2.1 e.2.2

theorem Pg.tr {w : World} {v : Value} {ps : List (List UInt8)} (h : Pg w v ps) : ∃ es : List Tr, Sl et w v es ∧ es.length = ps.length ∧ ∀ i (h : i < es.length) (h' : i < ps.length), Sl eb w (et es[i]) ps[i] := by
  obtain ⟨vs, h1, h2, h3⟩ := h
  have hex : ∃ es : List Tr, es.map et = vs := by
    have : ∀ v ∈ vs, ∃ e : Tr, et e = v := fun v hv => by
      obtain ⟨i, hi, rfl⟩ := List.getElem_of_mem hv
      obtain ⟨a, c, hs, -⟩ := h3 i hi (by omega)
      exact ⟨(a, _, c), hs.symm⟩
    clear h1 h2 h3
    induction vs with
    | nil => exact ⟨[], rfl⟩
    | cons v vs ih =>
      obtain ⟨es, he⟩ := ih fun x hx => this x (List.mem_cons_of_mem _ hx)
      obtain ⟨e, he'⟩ := this v (by simp)
      exact ⟨e :: es, by simp [he, he']⟩
  obtain ⟨es, rfl⟩ := hex
  refine ⟨es, ?_, by simpa using h2, fun i hi hi' => by have := h3 i (by simpa using hi) hi'; simpa using this⟩
  obtain ⟨a, cap, q1, q2, q3, q4, q5⟩ := h1
  refine ⟨a, cap, by simpa using q1, by simpa using q2, q3, q4, fun i hi => ?_⟩
  obtain ⟨b, off, e1, e2, e3⟩ := q5 i (by simpa using hi)
  exact ⟨b, off, e1, e2, by simpa using e3⟩

theorem Try.infoS : (Try.prog.info? 23).map (fun i => (i.zero, i.size, i.bytes)) = some (some (.slice none 0 0), 1, 24) := by kernel_rfl

set_option maxHeartbeats 400000 in
theorem pclone_w {v : Value} {es : List Tr} {w : World} (hv : Sl et w v es) (hm : es.length ≤ 1000000) :
    Calls Try.prog 49 #[v] w fun e w' => ∃ v, e = .returned v ∧ w'.ownsRow w.heap.size 23 1 v es.length (es.map et) ∧ Below w.heap.size w w' := by
  obtain ⟨a, cap, rfl, hc, hcm, hn, hr⟩ := hv
  obtain ⟨i0, hi, hz0, hz1, hz2⟩ := info_parts Try.infoS
  have he := fun (W : World) (a : Option Addr) (n c : Nat) => Lib.run_eql_slice_nil (P := Try.prog) W 22 23 a n c 0 0 Try.underlying22
  cases a with
  | none =>
    have hc0 := hn rfl
    obtain rfl : es = [] := by cases es with | nil => rfl | cons x xs => simp at hc; omega
    subst hc0
    go_enter Try.func49, Try.ntmps49
    go_wp2
    go_ret
    exact ⟨_, rfl, World.ownsRow_nil _ _ _ _, Below.refl _ _⟩
  | some ad =>
    go_enter Try.func49, Try.ntmps49
    go_wp2_with (at_builtin; refine wpList_append_rd et (fun _ => rfl) rfl _ _ 22 rfl w.heap.size 23 i0 (.slice none 0 0) 24 Try.underlying22 hi hz0 hz1 hz2 rfl _ 0 [] rfl (World.ownsRow_made w #[] 0 (Nat.le_refl _) (Nat.zero_le _) rfl) (some ad) cap es es.length rfl rfl (by simp) hc (hr.below (low_alloc w _) (Nat.le_refl _)) (by unfold maxLen; omega) (by omega) (by simp) ?_; intro v1 w1 hown hsp hbl)
    go_wp2
    go_ret
    exact ⟨_, rfl, by simpa using hown, ((Below.refl _ w).alloc (Nat.le_refl _) _).trans hbl⟩

/-- A disk's box. -/
structure BoxD (W : World) (b : Nat) (ub : Value) (o : Bool) (ct co cp : Int) (uc : Value) (l lt la : Int) (ul : Value) : Prop where
  p0 : W.cell? ⟨b, 0, none⟩ = some ub
  p1 : W.cell? ⟨b, 1, none⟩ = some (.bool o)
  p2 : W.cell? ⟨b, 2, none⟩ = some (.int .i64 ct)
  p3 : W.cell? ⟨b, 3, none⟩ = some (.int .i64 co)
  p4 : W.cell? ⟨b, 4, none⟩ = some (.int .i64 cp)
  p5 : W.cell? ⟨b, 5, none⟩ = some uc
  p6 : W.cell? ⟨b, 6, none⟩ = some (.int .i64 l)
  p7 : W.cell? ⟨b, 7, none⟩ = some (.int .i64 lt)
  p8 : W.cell? ⟨b, 8, none⟩ = some (.int .i64 la)
  p9 : W.cell? ⟨b, 9, none⟩ = some ul
theorem Bk.boxD {W : World} {b : Nat} {T : TypeId} {ub : Value} {o : Bool} {ct co cp : Int} {uc : Value} {l lt la : Int} {ul : Value} (h : Bk W b T (dkC ub o ct co cp uc l lt la ul)) : BoxD W b ub o ct co cp uc l lt la ul :=
  ⟨h.cell 0, h.cell 1, h.cell 2, h.cell 3, h.cell 4, h.cell 5, h.cell 6, h.cell 7, h.cell 8, h.cell 9⟩
structure FrzD (W : World) (b : Nat) : Prop where
  z0 : W.frozen? ⟨b, 0, none⟩ = false
  z1 : W.frozen? ⟨b, 1, none⟩ = false
  z2 : W.frozen? ⟨b, 2, none⟩ = false
  z3 : W.frozen? ⟨b, 3, none⟩ = false
  z4 : W.frozen? ⟨b, 4, none⟩ = false
  z5 : W.frozen? ⟨b, 5, none⟩ = false
  z6 : W.frozen? ⟨b, 6, none⟩ = false
  z7 : W.frozen? ⟨b, 7, none⟩ = false
  z8 : W.frozen? ⟨b, 8, none⟩ = false
  z9 : W.frozen? ⟨b, 9, none⟩ = false
theorem Bk.frzD {W : World} {b : Nat} {T : TypeId} {l : List Value} (h : Bk W b T l) : FrzD W b :=
  ⟨h.frozen 0, h.frozen 1, h.frozen 2, h.frozen 3, h.frozen 4, h.frozen 5, h.frozen 6, h.frozen 7, h.frozen 8, h.frozen 9⟩

theorem valid1_w (a : Option Addr) (n c : Nat) (w : World) : Calls Try.prog 40 #[.slice a n c] w fun e w' => e = .returned (.bool (!decide (n = 128))) ∧ w = w' := by
  go_enter Try.func40, Try.ntmps40
  go_wp2
  go_ret
  refine ⟨ret_bool ?_, rfl⟩
  by_cases h : n = 128 <;> simp [h, bne_iff_ne] <;> omega

theorem any_list {α : Type} (f : α → Bool) (z : α) (l : List α) : Ix.any (fun k => f (l.getD k z)) l.length = l.any f := by
  unfold Ix.any
  rw [Bool.eq_iff_iff, List.any_eq_true, List.any_eq_true]
  constructor
  · rintro ⟨k, hk, h⟩
    have hk' : k < l.length := by simpa using hk
    refine ⟨l[k], List.getElem_mem hk', ?_⟩
    simpa [List.getD, hk'] using h
  · rintro ⟨x, hx, h⟩
    obtain ⟨k, hk, rfl⟩ := List.getElem_of_mem hx
    exact ⟨k, by simpa using hk, by simpa [List.getD, hk] using h⟩
theorem any_ne128 (l : List (List UInt8)) : Ix.any (fun k => !decide ((l.getD k []).length = 128)) l.length = !Dk.all128 l := by
  rw [any_list (fun b => !decide (b.length = 128)) [] l]
  unfold Dk.all128
  rw [List.not_all_eq_any_not]

set_option maxRecDepth 20000 in
set_option maxHeartbeats 1600000 in
theorem dvalid_w (o : Bool) (ct co cp l lt la : Int) {ub uc ul : Value} {bs : List (List UInt8)} {cd ld : List UInt8} {w : World} (h : Dr w ub uc ul bs cd ld) :
    Calls Try.prog 17 #[.agg #[ub, .bool o, .int .i64 ct, .int .i64 co, .int .i64 cp, uc, .int .i64 l, .int .i64 lt, .int .i64 la, ul]] w fun e w' => e = .returned (.bool (Dk.valid (bs, (o, (ct, co, cp, cd), l, (lt, la, ld))))) ∧ Below w.heap.size w w' := by
  obtain ⟨es, hse, hel, her⟩ := h.b.tr
  have hhc := h.c
  obtain ⟨aul, cul, hul, -⟩ := id h.l
  obtain ⟨auc, cuc, huc, -⟩ := id h.c
  obtain ⟨aub, cub, hub, hcb, hcbm, -⟩ := id hse
  subst hul huc hub
  have hK : Bk (w.alloc (.cells #[.slice aub es.length cub, .bool o, .int .i64 ct, .int .i64 co, .int .i64 cp, .slice auc cd.length cuc, .int .i64 l, .int .i64 lt, .int .i64 la, .slice aul ld.length cul] 39 (0, 0))) w.heap.size 39 (dkC (.slice aub es.length cub) o ct co cp (.slice auc cd.length cuc) l lt la (.slice aul ld.length cul)) := Bk.new w _ (dkC _ _ _ _ _ _ _ _ _ _)
  have hL : Below w.heap.size w (w.alloc (.cells #[.slice aub es.length cub, .bool o, .int .i64 ct, .int .i64 co, .int .i64 cp, .slice auc cd.length cuc, .int .i64 l, .int .i64 lt, .int .i64 la, .slice aul ld.length cul] 39 (0, 0))) := low_alloc _ _
  have HCV : Hid (∀ W, Below w.heap.size w W → Calls Try.prog 38 #[.agg #[.bool o, .int .i64 ct, .int .i64 co, .int .i64 cp, .slice auc cd.length cuc, .int .i64 l, .int .i64 lt, .int .i64 la, .slice aul ld.length cul]] W fun e w' => e = .returned (.bool (Dk.validC (o, (ct, co, cp, cd), l, (lt, la, ld)))) ∧ Below W.heap.size W w') := fun W hW => cvalid_w o ct co cp l lt la (hhc.below hW (Nat.le_refl _))
  have HCF : Hid (∀ W, Below w.heap.size w W → Calls Try.prog 39 #[.slice aub es.length cub, .func (.func 40) #[] #[]] W fun e w' => e = .returned (.bool (!Dk.all128 bs)) ∧ Below W.heap.size W w') := fun W hW => by
    have hs := hse.below hW (Nat.le_refl _)
    obtain ⟨a', c', q1, _, q3, _, q5⟩ := id hs
    injection q1 with r1 r2 r3
    subst r1 r3
    have := containsFunc_pg et aub cub es 40 #[] (fun k => !decide ((bs.getD k []).length = 128)) (fun _ W' => W = W') W (by unfold maxLen at q3; omega)
      (enters_of Try.func40 (by kernel_rfl) rfl) (fun k W' h => by rw [← h]; exact q5) rfl (fun k W' hk h => by
        subst h
        have h2 := her k hk (by omega)
        obtain ⟨a2, c2, e2, -⟩ := h2
        have e3 : (es[k]).2.1 = (bs.getD k []).length := by
          unfold et at e2
          injection e2 with _ e4 _
          rw [e4]; simp [List.getD, show k < bs.length by omega]
        show Calls _ _ #[et es[k]] _ _
        unfold et
        rw [e3]
        exact valid1_w _ _ _ _)
    rw [hel, any_ne128] at this
    rw [hel]
    refine this.mono ?_
    rintro e w' ⟨h1, k, _, h2⟩
    subst h2
    exact ⟨h1, Below.refl _ _⟩
  have HQ : Hid (∀ W, Below (w.alloc (.cells #[.slice aub es.length cub, .bool o, .int .i64 ct, .int .i64 co, .int .i64 cp, .slice auc cd.length cuc, .int .i64 l, .int .i64 lt, .int .i64 la, .slice aul ld.length cul] 39 (0, 0))).heap.size (w.alloc (.cells #[.slice aub es.length cub, .bool o, .int .i64 ct, .int .i64 co, .int .i64 cp, .slice auc cd.length cuc, .int .i64 l, .int .i64 lt, .int .i64 la, .slice aul ld.length cul] 39 (0, 0))) W → BoxD W w.heap.size (.slice aub es.length cub) o ct co cp (.slice auc cd.length cuc) l lt la (.slice aul ld.length cul)) := fun W hW => (hK.below hW hK.lt).boxD
  have HL := Lib.hid hL
  have HEL := Lib.hid hel
  obtain ⟨p0, p1, p2, p3, p4, p5, p6, p7, p8, p9⟩ := HQ.out _ (low_refl _)
  clear h hse her hhc hK hL hel
  have hvd : Dk.valid (bs, (o, (ct, co, cp, cd), l, (lt, la, ld))) = (decide (bs.length = 160) && (Dk.validC (o, (ct, co, cp, cd), l, (lt, la, ld)) && Dk.all128 bs)) := rfl
  rw [hvd]
  clear hvd
  generalize Dk.validC (o, (ct, co, cp, cd), l, (lt, la, ld)) = vc at *
  generalize Dk.all128 bs = va at *
  by_cases h160 : es.length = 160
  · have hd : decide (bs.length = 160) = true := by rw [← HEL.out]; simpa using h160
    have q0 : ((es.length : Int) == 160) = true := by rw [h160]; rfl
    rw [hd]
    clear hd h160
    cases vc with
    | false =>
      go_enter Try.func17, Try.ntmps17
      go_wp2_with (go_at_call 38; (with_reducible refine (HCV.out _ HL.out).mono ?_); rintro e w1 ⟨rfl, hb1⟩)
      go_ret
      exact ⟨ret_bool (by simp), stepAny HL.out hb1⟩
    | true =>
      go_enter Try.func17, Try.ntmps17
      go_wp2_with (first
        | (go_at_call 38; (with_reducible refine (HCV.out _ HL.out).mono ?_); rintro e w1 ⟨rfl, hb1⟩; obtain ⟨r0, -⟩ := HQ.out _ hb1; have hl1 := stepAny HL.out hb1)
        | (go_at_call 39; (with_reducible refine (HCF.out _ hl1).mono ?_); rintro e w2 ⟨rfl, hb2⟩))
      go_ret
      exact ⟨ret_bool (by simp), stepAny hl1 hb2⟩
  · have hd : decide (bs.length = 160) = false := by rw [← HEL.out]; simpa using h160
    have q0 : ((es.length : Int) == 160) = false := by simp; omega
    rw [hd]
    clear hd h160
    go_enter Try.func17, Try.ntmps17
    go_wp2_with fail
    go_ret
    exact ⟨ret_bool (by simp), HL.out⟩
end Go.Proofs.Yteeoonoccklhmaa
