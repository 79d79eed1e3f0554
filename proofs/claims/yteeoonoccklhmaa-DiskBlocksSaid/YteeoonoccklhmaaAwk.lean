/-
  The walk of awake of the laws (printed by gen/mk11awake.py).
-/
import Derived.Test.YteeoonoccklhmaaTick
import Derived.Test.YteeoonoccklhmaaNewd
namespace Go.Proofs.Yteeoonoccklhmaa
open Go.RowKit

section
variable {B : Nat} {X Y : Nat → Prop} {W W' : World} {ub uc ul : Value} {es : List Tr} {bs : List (List UInt8)} {cd ld : List UInt8}
theorem Dw.more (h : Dw B X W ub uc ul es bs cd ld) (k : ∀ b, Y b → X b ∨ W.heap.size ≤ b) : Dw B Y W ub uc ul es bs cd ld := ⟨h.r, h.n, Av.more h.e k, h.c, h.l⟩
theorem Dw.below (h : Dw B X W ub uc ul es bs cd ld) (hb : Below W.heap.size W W') : Dw B X W' ub uc ul es bs cd ld :=
  ⟨own_keep h.r fun k hk => hb.block k (h.r.lt k hk).2, h.n, Av.below h.e hb, own_keep h.c fun k hk => hb.block k (h.c.lt k hk).2, own_keep h.l fun k hk => hb.block k (h.l.lt k hk).2⟩
theorem Dw.box (h : Dw B X W ub uc ul es bs cd ld) (hX : ∀ b, X b → b < B) {b : Nat} (hb : X b) (v0 v1 v2 v3 v4 v5 v6 v7 v8 v9 : Value) : Dw B X ((((((((((W.setCell ⟨b, 0, none⟩ (v0)).setCell ⟨b, 1, none⟩ (v1)).setCell ⟨b, 2, none⟩ (v2)).setCell ⟨b, 3, none⟩ (v3)).setCell ⟨b, 4, none⟩ (v4)).setCell ⟨b, 5, none⟩ (v5)).setCell ⟨b, 6, none⟩ (v6)).setCell ⟨b, 7, none⟩ (v7)).setCell ⟨b, 8, none⟩ (v8)).setCell ⟨b, 9, none⟩ (v9)) ub uc ul es bs cd ld :=
  h.keep (by rw [set10_size]; exact Nat.le_refl _) (fun k _ hx => set10_heap (fun e => hx (by subst e; exact hb)) v0 v1 v2 v3 v4 v5 v6 v7 v8 v9) hX
theorem Dw.de (h : Dw B X W ub uc ul es bs cd ld) : De W ub uc ul es bs cd ld := ⟨Sl.ofOwn h.r, h.n, Av.here h.e, Sl.ofOwn h.c, Sl.ofOwn h.l⟩
theorem Dw.len (h : Dw B X W ub uc ul es bs cd ld) (hb : bs.length = 160) : es.length ≤ 1000 := by have := h.n; omega
end

/-- All blocks are there. -/
def Full (bs : List (List UInt8)) : Prop := bs.length = 160 ∧ Dk.all128 bs = true
theorem Full.valid {bs : List (List UInt8)} (h : Full bs) (c : Dk.Ch) : Dk.valid (bs, c) = Dk.validC c := by
  unfold Dk.valid
  simp [h.1, h.2]
theorem Full.new : Full (Dk.cutB (Dk.fillB [])) := by
  have h := Dk.cut_valid (Dk.fill_len (xs := []) (by simp))
  unfold Dk.valid at h
  simp only [Bool.and_eq_true, decide_eq_true_eq] at h
  exact ⟨h.1, h.2.2⟩
theorem Full.set {bs : List (List UInt8)} (h : Full bs) (i : Nat) {x : List UInt8} (hx : x.length = 128) : Full (bs.set i x) := by
  refine ⟨by rw [List.length_set]; exact h.1, ?_⟩
  have h2 := h.2
  unfold Dk.all128 at h2 ⊢
  rw [List.all_eq_true] at h2 ⊢
  intro y hy
  rcases List.mem_or_eq_of_mem_set hy with h3 | h3
  · exact h2 y h3
  · subst h3; simpa using hx
def z128 : List UInt8 := List.replicate 128 0
theorem z128_len : z128.length = 128 := by simp [z128]
section
variable {bs : List (List UInt8)}
theorem aw1 (h : Full bs) : Dk.give (bs, (false, (0, 0, 0, []), 0, (0, 0, []))) (2, 1, 4, z128) = ((bs, (true, (2, 1, 4, z128), 2, (0, 0, []))), 0) := by
  unfold Dk.give
  rw [h.valid]
  rfl
theorem aw2 (h : Full bs) : Dk.tick (bs, (true, (2, 1, 4, z128), 2, (0, 0, []))) = ((bs, (true, (2, 1, 4, z128), 1, (0, 0, []))), []) := by
  unfold Dk.tick
  rw [h.valid]
  rfl
theorem aw3 (h : Full bs) : Dk.tick (bs, (true, (2, 1, 4, z128), 1, (0, 0, []))) = ((bs.set 4 z128, (false, (0, 0, 0, []), 0, (2, 0, []))), [(2, 0, [])]) := by
  have ha : Dk.answer bs (2, 1, 4, z128) = ((2, 0, []), bs.set 4 z128) := by
    unfold Dk.answer
    simp [z128_len, Dk.blk]
  unfold Dk.tick
  rw [h.valid]
  simp only [ha]
  rfl
theorem aw4 (h : Full bs) : Dk.give (bs, (false, (0, 0, 0, []), 0, (2, 0, []))) (2, 1, 4, z128) = ((bs, (true, (2, 0, 0, []), 1, (2, 0, []))), 0) := by
  unfold Dk.give
  rw [h.valid]
  rfl
theorem aw5 (h : Full bs) : Dk.tick (bs, (true, (2, 0, 0, []), 1, (2, 0, []))) = ((bs, (false, (0, 0, 0, []), 0, (2, 0, []))), [(2, 0, [])]) := by
  unfold Dk.tick
  rw [h.valid]
  rfl
end

section
variable {B : Nat} {X : Nat → Prop} {W : World} {ub uc ul : Value} {es : List Tr} {bs : List (List UInt8)} {cd ld : List UInt8}
theorem Dw.forms (h : Dw B X W ub uc ul es bs cd ld) {n0 n m : Nat} (h0 : bs.length = n0) (hc : cd.length = n) (hl : ld.length = m) : ∃ a k c d l q, ub = .slice a n0 k ∧ uc = .slice c n d ∧ ul = .slice l m q := by
  obtain ⟨a, k, e1⟩ := own_slice h.r
  obtain ⟨c, d, e2⟩ := own_slice h.c
  obtain ⟨l, q, e3⟩ := own_slice h.l
  exact ⟨a, k, c, d, l, q, by rw [e1, h.n, h0], by rw [e2, hc], by rw [e3, hl]⟩
end

theorem do_f (o : Bool) (ct co cp l lt la t q p : Int) {ub uc ul ux : Value} {es : List Tr} {bs : List (List UInt8)} {cd ld xs : List UInt8} {w : World} {X : Nat → Prop} (hd : De w ub uc ul es bs cd ld) (hE : Av X (fun W => ∀ i (h : i < es.length) (h' : i < bs.length), Sl eb W (et es[i]) bs[i]) w)
    (hx : Sl eb w ux xs) (hes : es.length ≤ 1000) (hcd : cd.length ≤ 1000) (hld : ld.length ≤ 1000) (hxs : xs.length ≤ 1000) {o2 : Bool} {ct2 co2 cp2 l2 lt2 la2 e2 : Int} {bs2 : List (List UInt8)} {cd2 ld2 : List UInt8}
    (hg : Dk.give (bs, (o, (ct, co, cp, cd), l, (lt, la, ld))) (t, q, p, xs) = ((bs2, (o2, (ct2, co2, cp2, cd2), l2, (lt2, la2, ld2))), e2)) {n0 n m : Nat} (h0 : bs2.length = n0) (hc : cd2.length = n) (hl : ld2.length = m) :
    Calls Try.prog 11 #[.agg #[ub, .bool o, .int .i64 ct, .int .i64 co, .int .i64 cp, uc, .int .i64 l, .int .i64 lt, .int .i64 la, ul], .agg #[.int .i64 t, .int .i64 q, .int .i64 p, ux]] w fun e w' =>
      ∃ a k c d b r es2, e = .returned (.tuple #[.agg #[.slice a n0 k, .bool o2, .int .i64 ct2, .int .i64 co2, .int .i64 cp2, .slice c n d, .int .i64 l2, .int .i64 lt2, .int .i64 la2, .slice b m r], .int .i64 e2]) ∧ Dw w.heap.size X w' (.slice a n0 k) (.slice c n d) (.slice b m r) es2 bs2 cd2 ld2 ∧ Below w.heap.size w w' :=
  (do_w o ct co cp l lt la t q p hd hE hx hes hcd hld hxs).mono fun e w' h => by
    rw [hg] at h
    obtain ⟨ub', uc', ul', es', rfl, hdw, hb⟩ := h
    obtain ⟨a, k, c, d, b, r, rfl, rfl, rfl⟩ := hdw.forms h0 hc hl
    exact ⟨a, k, c, d, b, r, es', rfl, hdw, hb⟩

theorem tick_f (o : Bool) (ct co cp l lt la : Int) {ub uc ul : Value} {es : List Tr} {bs : List (List UInt8)} {cd ld : List UInt8} {w : World} {X : Nat → Prop} (hd : De w ub uc ul es bs cd ld) (hE : Av X (fun W => ∀ i (h : i < es.length) (h' : i < bs.length), Sl eb W (et es[i]) bs[i]) w)
    (hes : es.length ≤ 1000) (hcd : cd.length ≤ 1000) (hld : ld.length ≤ 1000) (hX : ∀ b, X b → b < w.heap.size) {o2 : Bool} {ct2 co2 cp2 l2 lt2 la2 : Int} {bs2 : List (List UInt8)} {cd2 ld2 : List UInt8} {an : List Dk.An}
    (hg : Dk.tick (bs, (o, (ct, co, cp, cd), l, (lt, la, ld))) = ((bs2, (o2, (ct2, co2, cp2, cd2), l2, (lt2, la2, ld2))), an)) {n0 n m : Nat} (h0 : bs2.length = n0) (hc : cd2.length = n) (hl : ld2.length = m) :
    Calls Try.prog 20 #[.agg #[ub, .bool o, .int .i64 ct, .int .i64 co, .int .i64 cp, uc, .int .i64 l, .int .i64 lt, .int .i64 la, ul]] w fun e w' =>
      ∃ a k c d b r es2 v, e = .returned (.tuple #[.agg #[.slice a n0 k, .bool o2, .int .i64 ct2, .int .i64 co2, .int .i64 cp2, .slice c n d, .int .i64 l2, .int .i64 lt2, .int .i64 la2, .slice b m r], v]) ∧ Dw w.heap.size X w' (.slice a n0 k) (.slice c n d) (.slice b m r) es2 bs2 cd2 ld2 ∧ AnsV w.heap.size w' v an ∧ Below w.heap.size w w' :=
  (tick_w o ct co cp l lt la hd hE hes hcd hld hX).mono fun e w' h => by
    rw [hg] at h
    obtain ⟨ub', uc', ul', es', v, rfl, hdw, ha, hb⟩ := h
    obtain ⟨a, k, c, d, b, r, rfl, rfl, rfl⟩ := hdw.forms h0 hc hl
    exact ⟨a, k, c, d, b, r, es', v, rfl, hdw, ha, hb⟩

theorem sl_bk {W : World} {b : Nat} (h : Bk W b 5 (z128.map eb)) : Sl eb W (.slice (some ⟨b, 0, none⟩) 128 128) z128 :=
  Sl.ofOwn (e := 5) (base := 0) (by have := h.own (base := 0) (Nat.zero_le _) (by simp [z128, maxLen]); simpa [z128_len] using this)

set_option maxRecDepth 100000 in
set_option maxHeartbeats 8000000 in
theorem awake_w (w : World) : Calls Try.prog 9 #[] w fun e w' => e = .returned (.bool true) ∧ Below w.heap.size w w' := by
  obtain ⟨bs, hbs⟩ : ∃ b, b = Dk.cutB (Dk.fillB []) := ⟨_, rfl⟩
  have hF : Full bs := by rw [hbs]; exact Full.new
  have hF2 : Full (bs.set 4 z128) := hF.set 4 z128_len
  have hnew : Dk.new [] = ((bs, (false, (0, 0, 0, []), 0, (0, 0, []))), 0) := by rw [hbs]; unfold Dk.new; rw [if_neg (by simp)]; rfl
  have hN := (new_w (w := w) (X := fun _ => False) (Sl.nil eb w) (by simp) (fun b h => h.elim)).mono (R' := fun e w' => ∃ a k c d b r es2, e = .returned (.tuple #[.agg #[.slice a 160 k, .bool false, .int .i64 0, .int .i64 0, .int .i64 0, .slice c 0 d, .int .i64 0, .int .i64 0, .int .i64 0, .slice b 0 r], .int .i64 0]) ∧ Dw w.heap.size (fun _ => False) w' (.slice a 160 k) (.slice c 0 d) (.slice b 0 r) es2 bs [] [] ∧ Below w.heap.size w w') (fun e w' h => by
    rw [hnew] at h
    obtain ⟨ub', uc', ul', es', rfl, hdw, hb⟩ := h
    obtain ⟨a, k, c, d, b, r, rfl, rfl, rfl⟩ := hdw.forms hF.1 rfl rfl
    exact ⟨a, k, c, d, b, r, es', rfl, hdw, hb⟩)
  have HN := Lib.hid hN
  clear hN hnew hbs
  obtain ⟨i5, hi5, hz5, hs5, hb5⟩ := info_parts Try.info5
  have hm1 : ∀ W : World, (Instr.makeSlice 23 (.int .i64 128) (.int .i64 128)).run Try.prog W = .ok (.slice (some ⟨W.heap.size, 0, none⟩) 128 128) (W.alloc (.cells (z128.map eb).toArray 5 (0, 0))) := fun W => by
    have h := run_make (P := Try.prog) W 23 5 i5 (.int .u8 0) Try.underlying23 hi5 hz5 .i64 .i64 128 128 (by decide) (by decide) (by rw [hb5]; decide) (by decide)
    rw [hs5] at h
    rw [show z128.map eb = List.replicate 128 (.int .u8 0) by simp [z128, eb], ← toList_made]
    exact h
  clear hi5 hz5 hs5 hb5
  generalize hzz : (z128.map eb).toArray = ZA at hm1
  go_enter Try.func9, Try.ntmps9
  go_upto_region 2 with (go_at_call 22; (with_reducible refine HN.out.mono ?_); rintro e w0 ⟨a0, k0, c0, d0, b0, r0, es0, rfl, hdw0, hb0⟩)
  have q0 : Bk (w0.alloc (.cells #[.slice a0 160 k0, .bool false, .int .i64 0, .int .i64 0, .int .i64 0, .slice c0 0 d0, .int .i64 0, .int .i64 0, .int .i64 0, .slice b0 0 r0] 39 (0, 0))) w0.heap.size 39 (dkC (.slice a0 160 k0) (false) (0) (0) (0) (.slice c0 0 d0) (0) (0) (0) (.slice b0 0 r0)) := Bk.new w0 _ (dkC _ _ _ _ _ _ _ _ _ _)
  have hdx : Dw w.heap.size (fun b => b = w0.heap.size) (w0.alloc (.cells #[.slice a0 160 k0, .bool false, .int .i64 0, .int .i64 0, .int .i64 0, .slice c0 0 d0, .int .i64 0, .int .i64 0, .int .i64 0, .slice b0 0 r0] 39 (0, 0))) (.slice a0 160 k0) (.slice c0 0 d0) (.slice b0 0 r0) es0 bs [] [] := (hdw0.more (Y := fun b => b = w0.heap.size) fun b h => .inr (Nat.le_of_eq h.symm)).below (low_alloc _ _)
  have hlx : Below w.heap.size w (w0.alloc (.cells #[.slice a0 160 k0, .bool false, .int .i64 0, .int .i64 0, .int .i64 0, .slice c0 0 d0, .int .i64 0, .int .i64 0, .int .i64 0, .slice b0 0 r0] 39 (0, 0))) := stepAny hb0 (low_alloc _ _)
  have hszx : (w0.alloc (.cells #[.slice a0 160 k0, .bool false, .int .i64 0, .int .i64 0, .int .i64 0, .slice c0 0 d0, .int .i64 0, .int .i64 0, .int .i64 0, .slice b0 0 r0] 39 (0, 0))).heap.size = w0.heap.size + 1 := by simp
  have hdr : w.heap.size ≤ w0.heap.size := hb0.size
  generalize w0.alloc (.cells #[.slice a0 160 k0, .bool false, .int .i64 0, .int .i64 0, .int .i64 0, .slice c0 0 d0, .int .i64 0, .int .i64 0, .int .i64 0, .slice b0 0 r0] 39 (0, 0)) = A0 at *
  obtain ⟨bx, hbx⟩ : ∃ b, b = w0.heap.size := ⟨_, rfl⟩
  rw [← hbx] at q0 hdx hszx hdr ⊢
  clear hbx hdw0 hb0
  go_upto_region 3 with fail
  have hsA : A0.heap.size = bx + 1 := hszx
  have hkb0 : Bk ((A0.alloc (.cells ZA 5 (0, 0))).alloc (.cells #[.int .i64 2, .int .i64 1, .int .i64 4, .slice (some ⟨(bx + 1), 0, none⟩) 128 128] 34 (0, 0))) bx 39 (dkC (.slice a0 160 k0) (false) (0) (0) (0) (.slice c0 0 d0) (0) (0) (0) (.slice b0 0 r0)) := (q0.alloc _).alloc _
  have hkz0 : Bk ((A0.alloc (.cells ZA 5 (0, 0))).alloc (.cells #[.int .i64 2, .int .i64 1, .int .i64 4, .slice (some ⟨(bx + 1), 0, none⟩) 128 128] 34 (0, 0))) (bx + 1) 5 (z128.map eb) := by rw [← hzz]; exact (Bk.newAt A0 _ (z128.map eb) (by omega)).alloc _
  have hkc0 : Bk ((A0.alloc (.cells ZA 5 (0, 0))).alloc (.cells #[.int .i64 2, .int .i64 1, .int .i64 4, .slice (some ⟨(bx + 1), 0, none⟩) 128 128] 34 (0, 0))) (bx + 1 + 1) 34 [.int .i64 2, .int .i64 1, .int .i64 4, .slice (some ⟨(bx + 1), 0, none⟩) 128 128] := Bk.newAt _ _ [.int .i64 2, .int .i64 1, .int .i64 4, .slice (some ⟨(bx + 1), 0, none⟩) 128 128] (by simp [hsA])
  have hVb : Below A0.heap.size A0 ((A0.alloc (.cells ZA 5 (0, 0))).alloc (.cells #[.int .i64 2, .int .i64 1, .int .i64 4, .slice (some ⟨(bx + 1), 0, none⟩) 128 128] 34 (0, 0))) := (low_alloc _ _).alloc (by simp) _
  have hdx0 : Dw w.heap.size (fun b => b = bx) ((A0.alloc (.cells ZA 5 (0, 0))).alloc (.cells #[.int .i64 2, .int .i64 1, .int .i64 4, .slice (some ⟨(bx + 1), 0, none⟩) 128 128] 34 (0, 0))) (.slice a0 160 k0) (.slice c0 0 d0) (.slice b0 0 r0) es0 bs [] [] := hdx.below hVb
  have hl0 : Below w.heap.size w ((A0.alloc (.cells ZA 5 (0, 0))).alloc (.cells #[.int .i64 2, .int .i64 1, .int .i64 4, .slice (some ⟨(bx + 1), 0, none⟩) 128 128] 34 (0, 0))) := stepAny hlx hVb
  clear q0 hdx hlx hVb hszx hsA hm1 hzz HN
  generalize ((A0.alloc (.cells ZA 5 (0, 0))).alloc (.cells #[.int .i64 2, .int .i64 1, .int .i64 4, .slice (some ⟨(bx + 1), 0, none⟩) 128 128] 34 (0, 0))) = V0 at *
  have hz0 := sl_bk hkz0
  have hXV0 : ∀ b, (fun b => b = bx) b → b < V0.heap.size := fun b h => h ▸ hkb0.lt
  have H0 := Lib.hid (do_f (w := V0) (X := fun b => b = bx) false 0 0 0 0 0 0 2 1 4 hdx0.de hdx0.e  hz0 (hdx0.len hF.1) (by simp) (by simp) (by rw [z128_len]; omega) (aw1 hF) hF.1 z128_len rfl)
  obtain ⟨⟨p0, p1, p2, p3, p4, p5, p6, p7, p8, p9⟩, -⟩ := Bk.fd hkb0
  obtain ⟨y0, y1, y2, y3⟩ : V0.cell? ⟨(bx + 1 + 1), 0, none⟩ = some (.int .i64 2) ∧ V0.cell? ⟨(bx + 1 + 1), 1, none⟩ = some (.int .i64 1) ∧ V0.cell? ⟨(bx + 1 + 1), 2, none⟩ = some (.int .i64 4) ∧ V0.cell? ⟨(bx + 1 + 1), 3, none⟩ = some (.slice (some ⟨(bx + 1), 0, none⟩) 128 128) := ⟨hkc0.cell 0, hkc0.cell 1, hkc0.cell 2, hkc0.cell 3⟩
  go_upto_region 4 with (go_at_call 11; (with_reducible refine H0.out.mono ?_); rintro e w1 ⟨a1, k1, c1, d1, b1, r1, es1, rfl, hdw1, hb1⟩; clear p0 p1 p2 p3 p4 p5 p6 p7 p8 p9; obtain ⟨⟨p0, p1, p2, p3, p4, p5, p6, p7, p8, p9⟩, g0, g1, g2, g3, g4, g5, g6, g7, g8, g9⟩ := Bk.fd (hkb0.below hb1 hkb0.lt))
  have hkb1 : Bk ((((((((((w1.setCell ⟨bx, 0, none⟩ (.slice a1 160 k1)).setCell ⟨bx, 1, none⟩ (.bool true)).setCell ⟨bx, 2, none⟩ (.int .i64 2)).setCell ⟨bx, 3, none⟩ (.int .i64 1)).setCell ⟨bx, 4, none⟩ (.int .i64 4)).setCell ⟨bx, 5, none⟩ (.slice c1 128 d1)).setCell ⟨bx, 6, none⟩ (.int .i64 2)).setCell ⟨bx, 7, none⟩ (.int .i64 0)).setCell ⟨bx, 8, none⟩ (.int .i64 0)).setCell ⟨bx, 9, none⟩ (.slice b1 0 r1)) bx 39 (dkC (.slice a1 160 k1) (true) (2) (1) (4) (.slice c1 128 d1) (2) (0) (0) (.slice b1 0 r1)) := (hkb0.below hb1 hkb0.lt).set10 (.slice a1 160 k1) (.bool true) (.int .i64 2) (.int .i64 1) (.int .i64 4) (.slice c1 128 d1) (.int .i64 2) (.int .i64 0) (.int .i64 0) (.slice b1 0 r1)
  have hkc1 : Bk ((((((((((w1.setCell ⟨bx, 0, none⟩ (.slice a1 160 k1)).setCell ⟨bx, 1, none⟩ (.bool true)).setCell ⟨bx, 2, none⟩ (.int .i64 2)).setCell ⟨bx, 3, none⟩ (.int .i64 1)).setCell ⟨bx, 4, none⟩ (.int .i64 4)).setCell ⟨bx, 5, none⟩ (.slice c1 128 d1)).setCell ⟨bx, 6, none⟩ (.int .i64 2)).setCell ⟨bx, 7, none⟩ (.int .i64 0)).setCell ⟨bx, 8, none⟩ (.int .i64 0)).setCell ⟨bx, 9, none⟩ (.slice b1 0 r1)) (bx + 1 + 1) 34 [.int .i64 2, .int .i64 1, .int .i64 4, .slice (some ⟨(bx + 1), 0, none⟩) 128 128] := (hkc0.below hb1 hkc0.lt).keep (set10_heap (W := w1) (b := bx) (by omega) (.slice a1 160 k1) (.bool true) (.int .i64 2) (.int .i64 1) (.int .i64 4) (.slice c1 128 d1) (.int .i64 2) (.int .i64 0) (.int .i64 0) (.slice b1 0 r1))
  have hkz1 : Bk ((((((((((w1.setCell ⟨bx, 0, none⟩ (.slice a1 160 k1)).setCell ⟨bx, 1, none⟩ (.bool true)).setCell ⟨bx, 2, none⟩ (.int .i64 2)).setCell ⟨bx, 3, none⟩ (.int .i64 1)).setCell ⟨bx, 4, none⟩ (.int .i64 4)).setCell ⟨bx, 5, none⟩ (.slice c1 128 d1)).setCell ⟨bx, 6, none⟩ (.int .i64 2)).setCell ⟨bx, 7, none⟩ (.int .i64 0)).setCell ⟨bx, 8, none⟩ (.int .i64 0)).setCell ⟨bx, 9, none⟩ (.slice b1 0 r1)) (bx + 1) 5 (z128.map eb) := (hkz0.below hb1 hkz0.lt).keep (set10_heap (W := w1) (b := bx) (by omega) (.slice a1 160 k1) (.bool true) (.int .i64 2) (.int .i64 1) (.int .i64 4) (.slice c1 128 d1) (.int .i64 2) (.int .i64 0) (.int .i64 0) (.slice b1 0 r1))
  have hdx1 : Dw V0.heap.size (fun b => b = bx) ((((((((((w1.setCell ⟨bx, 0, none⟩ (.slice a1 160 k1)).setCell ⟨bx, 1, none⟩ (.bool true)).setCell ⟨bx, 2, none⟩ (.int .i64 2)).setCell ⟨bx, 3, none⟩ (.int .i64 1)).setCell ⟨bx, 4, none⟩ (.int .i64 4)).setCell ⟨bx, 5, none⟩ (.slice c1 128 d1)).setCell ⟨bx, 6, none⟩ (.int .i64 2)).setCell ⟨bx, 7, none⟩ (.int .i64 0)).setCell ⟨bx, 8, none⟩ (.int .i64 0)).setCell ⟨bx, 9, none⟩ (.slice b1 0 r1)) (.slice a1 160 k1) (.slice c1 128 d1) (.slice b1 0 r1) es1 bs z128 [] := hdw1.box hXV0 rfl (.slice a1 160 k1) (.bool true) (.int .i64 2) (.int .i64 1) (.int .i64 4) (.slice c1 128 d1) (.int .i64 2) (.int .i64 0) (.int .i64 0) (.slice b1 0 r1)
  have hl1 : Below w.heap.size w ((((((((((w1.setCell ⟨bx, 0, none⟩ (.slice a1 160 k1)).setCell ⟨bx, 1, none⟩ (.bool true)).setCell ⟨bx, 2, none⟩ (.int .i64 2)).setCell ⟨bx, 3, none⟩ (.int .i64 1)).setCell ⟨bx, 4, none⟩ (.int .i64 4)).setCell ⟨bx, 5, none⟩ (.slice c1 128 d1)).setCell ⟨bx, 6, none⟩ (.int .i64 2)).setCell ⟨bx, 7, none⟩ (.int .i64 0)).setCell ⟨bx, 8, none⟩ (.int .i64 0)).setCell ⟨bx, 9, none⟩ (.slice b1 0 r1)) := set10 (stepAny hl0 hb1) (by omega) (.slice a1 160 k1) (.bool true) (.int .i64 2) (.int .i64 1) (.int .i64 4) (.slice c1 128 d1) (.int .i64 2) (.int .i64 0) (.int .i64 0) (.slice b1 0 r1)
  clear p0 p1 p2 p3 p4 p5 p6 p7 p8 p9 g0 g1 g2 g3 g4 g5 g6 g7 g8 g9 y0 y1 y2 y3 hkb0 hkc0 hkz0 hdw1 H0 hl0 hb1
  generalize ((((((((((w1.setCell ⟨bx, 0, none⟩ (.slice a1 160 k1)).setCell ⟨bx, 1, none⟩ (.bool true)).setCell ⟨bx, 2, none⟩ (.int .i64 2)).setCell ⟨bx, 3, none⟩ (.int .i64 1)).setCell ⟨bx, 4, none⟩ (.int .i64 4)).setCell ⟨bx, 5, none⟩ (.slice c1 128 d1)).setCell ⟨bx, 6, none⟩ (.int .i64 2)).setCell ⟨bx, 7, none⟩ (.int .i64 0)).setCell ⟨bx, 8, none⟩ (.int .i64 0)).setCell ⟨bx, 9, none⟩ (.slice b1 0 r1)) = V1 at *
  have hz1 := sl_bk hkz1
  have hXV1 : ∀ b, (fun b => b = bx) b → b < V1.heap.size := fun b h => h ▸ hkb1.lt
  have H1 := Lib.hid (tick_f (w := V1) (X := fun b => b = bx) true 2 1 4 2 0 0 hdx1.de hdx1.e  (hdx1.len hF.1) (by rw [z128_len]; omega) (by simp) hXV1 (aw2 hF) hF.1 z128_len rfl)
  obtain ⟨⟨p0, p1, p2, p3, p4, p5, p6, p7, p8, p9⟩, -⟩ := Bk.fd hkb1
  obtain ⟨y0, y1, y2, y3⟩ : V1.cell? ⟨(bx + 1 + 1), 0, none⟩ = some (.int .i64 2) ∧ V1.cell? ⟨(bx + 1 + 1), 1, none⟩ = some (.int .i64 1) ∧ V1.cell? ⟨(bx + 1 + 1), 2, none⟩ = some (.int .i64 4) ∧ V1.cell? ⟨(bx + 1 + 1), 3, none⟩ = some (.slice (some ⟨(bx + 1), 0, none⟩) 128 128) := ⟨hkc1.cell 0, hkc1.cell 1, hkc1.cell 2, hkc1.cell 3⟩
  go_upto_region 5 with (go_at_call 20; (with_reducible refine H1.out.mono ?_); rintro e w2 ⟨a2, k2, c2, d2, b2, r2, es2, _, rfl, hdw2, rfl, hb2⟩; clear p0 p1 p2 p3 p4 p5 p6 p7 p8 p9; obtain ⟨⟨p0, p1, p2, p3, p4, p5, p6, p7, p8, p9⟩, g0, g1, g2, g3, g4, g5, g6, g7, g8, g9⟩ := Bk.fd (hkb1.below hb2 hkb1.lt))
  have hkb2 : Bk ((((((((((w2.setCell ⟨bx, 0, none⟩ (.slice a2 160 k2)).setCell ⟨bx, 1, none⟩ (.bool true)).setCell ⟨bx, 2, none⟩ (.int .i64 2)).setCell ⟨bx, 3, none⟩ (.int .i64 1)).setCell ⟨bx, 4, none⟩ (.int .i64 4)).setCell ⟨bx, 5, none⟩ (.slice c2 128 d2)).setCell ⟨bx, 6, none⟩ (.int .i64 1)).setCell ⟨bx, 7, none⟩ (.int .i64 0)).setCell ⟨bx, 8, none⟩ (.int .i64 0)).setCell ⟨bx, 9, none⟩ (.slice b2 0 r2)) bx 39 (dkC (.slice a2 160 k2) (true) (2) (1) (4) (.slice c2 128 d2) (1) (0) (0) (.slice b2 0 r2)) := (hkb1.below hb2 hkb1.lt).set10 (.slice a2 160 k2) (.bool true) (.int .i64 2) (.int .i64 1) (.int .i64 4) (.slice c2 128 d2) (.int .i64 1) (.int .i64 0) (.int .i64 0) (.slice b2 0 r2)
  have hkc2 : Bk ((((((((((w2.setCell ⟨bx, 0, none⟩ (.slice a2 160 k2)).setCell ⟨bx, 1, none⟩ (.bool true)).setCell ⟨bx, 2, none⟩ (.int .i64 2)).setCell ⟨bx, 3, none⟩ (.int .i64 1)).setCell ⟨bx, 4, none⟩ (.int .i64 4)).setCell ⟨bx, 5, none⟩ (.slice c2 128 d2)).setCell ⟨bx, 6, none⟩ (.int .i64 1)).setCell ⟨bx, 7, none⟩ (.int .i64 0)).setCell ⟨bx, 8, none⟩ (.int .i64 0)).setCell ⟨bx, 9, none⟩ (.slice b2 0 r2)) (bx + 1 + 1) 34 [.int .i64 2, .int .i64 1, .int .i64 4, .slice (some ⟨(bx + 1), 0, none⟩) 128 128] := (hkc1.below hb2 hkc1.lt).keep (set10_heap (W := w2) (b := bx) (by omega) (.slice a2 160 k2) (.bool true) (.int .i64 2) (.int .i64 1) (.int .i64 4) (.slice c2 128 d2) (.int .i64 1) (.int .i64 0) (.int .i64 0) (.slice b2 0 r2))
  have hkz2 : Bk ((((((((((w2.setCell ⟨bx, 0, none⟩ (.slice a2 160 k2)).setCell ⟨bx, 1, none⟩ (.bool true)).setCell ⟨bx, 2, none⟩ (.int .i64 2)).setCell ⟨bx, 3, none⟩ (.int .i64 1)).setCell ⟨bx, 4, none⟩ (.int .i64 4)).setCell ⟨bx, 5, none⟩ (.slice c2 128 d2)).setCell ⟨bx, 6, none⟩ (.int .i64 1)).setCell ⟨bx, 7, none⟩ (.int .i64 0)).setCell ⟨bx, 8, none⟩ (.int .i64 0)).setCell ⟨bx, 9, none⟩ (.slice b2 0 r2)) (bx + 1) 5 (z128.map eb) := (hkz1.below hb2 hkz1.lt).keep (set10_heap (W := w2) (b := bx) (by omega) (.slice a2 160 k2) (.bool true) (.int .i64 2) (.int .i64 1) (.int .i64 4) (.slice c2 128 d2) (.int .i64 1) (.int .i64 0) (.int .i64 0) (.slice b2 0 r2))
  have hdx2 : Dw V1.heap.size (fun b => b = bx) ((((((((((w2.setCell ⟨bx, 0, none⟩ (.slice a2 160 k2)).setCell ⟨bx, 1, none⟩ (.bool true)).setCell ⟨bx, 2, none⟩ (.int .i64 2)).setCell ⟨bx, 3, none⟩ (.int .i64 1)).setCell ⟨bx, 4, none⟩ (.int .i64 4)).setCell ⟨bx, 5, none⟩ (.slice c2 128 d2)).setCell ⟨bx, 6, none⟩ (.int .i64 1)).setCell ⟨bx, 7, none⟩ (.int .i64 0)).setCell ⟨bx, 8, none⟩ (.int .i64 0)).setCell ⟨bx, 9, none⟩ (.slice b2 0 r2)) (.slice a2 160 k2) (.slice c2 128 d2) (.slice b2 0 r2) es2 bs z128 [] := hdw2.box hXV1 rfl (.slice a2 160 k2) (.bool true) (.int .i64 2) (.int .i64 1) (.int .i64 4) (.slice c2 128 d2) (.int .i64 1) (.int .i64 0) (.int .i64 0) (.slice b2 0 r2)
  have hl2 : Below w.heap.size w ((((((((((w2.setCell ⟨bx, 0, none⟩ (.slice a2 160 k2)).setCell ⟨bx, 1, none⟩ (.bool true)).setCell ⟨bx, 2, none⟩ (.int .i64 2)).setCell ⟨bx, 3, none⟩ (.int .i64 1)).setCell ⟨bx, 4, none⟩ (.int .i64 4)).setCell ⟨bx, 5, none⟩ (.slice c2 128 d2)).setCell ⟨bx, 6, none⟩ (.int .i64 1)).setCell ⟨bx, 7, none⟩ (.int .i64 0)).setCell ⟨bx, 8, none⟩ (.int .i64 0)).setCell ⟨bx, 9, none⟩ (.slice b2 0 r2)) := set10 (stepAny hl1 hb2) (by omega) (.slice a2 160 k2) (.bool true) (.int .i64 2) (.int .i64 1) (.int .i64 4) (.slice c2 128 d2) (.int .i64 1) (.int .i64 0) (.int .i64 0) (.slice b2 0 r2)
  clear p0 p1 p2 p3 p4 p5 p6 p7 p8 p9 g0 g1 g2 g3 g4 g5 g6 g7 g8 g9 y0 y1 y2 y3 hkb1 hkc1 hkz1 hdw2 H1 hl1 hb2
  generalize ((((((((((w2.setCell ⟨bx, 0, none⟩ (.slice a2 160 k2)).setCell ⟨bx, 1, none⟩ (.bool true)).setCell ⟨bx, 2, none⟩ (.int .i64 2)).setCell ⟨bx, 3, none⟩ (.int .i64 1)).setCell ⟨bx, 4, none⟩ (.int .i64 4)).setCell ⟨bx, 5, none⟩ (.slice c2 128 d2)).setCell ⟨bx, 6, none⟩ (.int .i64 1)).setCell ⟨bx, 7, none⟩ (.int .i64 0)).setCell ⟨bx, 8, none⟩ (.int .i64 0)).setCell ⟨bx, 9, none⟩ (.slice b2 0 r2)) = V2 at *
  have hz2 := sl_bk hkz2
  have hXV2 : ∀ b, (fun b => b = bx) b → b < V2.heap.size := fun b h => h ▸ hkb2.lt
  have H2 := Lib.hid (tick_f (w := V2) (X := fun b => b = bx) true 2 1 4 1 0 0 hdx2.de hdx2.e  (hdx2.len hF.1) (by rw [z128_len]; omega) (by simp) hXV2 (aw3 hF) hF2.1 rfl rfl)
  obtain ⟨⟨p0, p1, p2, p3, p4, p5, p6, p7, p8, p9⟩, -⟩ := Bk.fd hkb2
  obtain ⟨y0, y1, y2, y3⟩ : V2.cell? ⟨(bx + 1 + 1), 0, none⟩ = some (.int .i64 2) ∧ V2.cell? ⟨(bx + 1 + 1), 1, none⟩ = some (.int .i64 1) ∧ V2.cell? ⟨(bx + 1 + 1), 2, none⟩ = some (.int .i64 4) ∧ V2.cell? ⟨(bx + 1 + 1), 3, none⟩ = some (.slice (some ⟨(bx + 1), 0, none⟩) 128 128) := ⟨hkc2.cell 0, hkc2.cell 1, hkc2.cell 2, hkc2.cell 3⟩
  go_upto_region 6 with (go_at_call 20; (with_reducible refine H2.out.mono ?_); rintro e w3 ⟨a3, k3, c3, d3, b3, r3, es3, _, rfl, hdw3, ⟨bn2, un2, rfl, hbn2, hkn2, -⟩, hb3⟩; clear p0 p1 p2 p3 p4 p5 p6 p7 p8 p9; obtain ⟨⟨p0, p1, p2, p3, p4, p5, p6, p7, p8, p9⟩, g0, g1, g2, g3, g4, g5, g6, g7, g8, g9⟩ := Bk.fd (hkb2.below hb3 hkb2.lt))
  have hkb3 : Bk ((((((((((w3.setCell ⟨bx, 0, none⟩ (.slice a3 160 k3)).setCell ⟨bx, 1, none⟩ (.bool false)).setCell ⟨bx, 2, none⟩ (.int .i64 0)).setCell ⟨bx, 3, none⟩ (.int .i64 0)).setCell ⟨bx, 4, none⟩ (.int .i64 0)).setCell ⟨bx, 5, none⟩ (.slice c3 0 d3)).setCell ⟨bx, 6, none⟩ (.int .i64 0)).setCell ⟨bx, 7, none⟩ (.int .i64 2)).setCell ⟨bx, 8, none⟩ (.int .i64 0)).setCell ⟨bx, 9, none⟩ (.slice b3 0 r3)) bx 39 (dkC (.slice a3 160 k3) (false) (0) (0) (0) (.slice c3 0 d3) (0) (2) (0) (.slice b3 0 r3)) := (hkb2.below hb3 hkb2.lt).set10 (.slice a3 160 k3) (.bool false) (.int .i64 0) (.int .i64 0) (.int .i64 0) (.slice c3 0 d3) (.int .i64 0) (.int .i64 2) (.int .i64 0) (.slice b3 0 r3)
  have hkc3 : Bk ((((((((((w3.setCell ⟨bx, 0, none⟩ (.slice a3 160 k3)).setCell ⟨bx, 1, none⟩ (.bool false)).setCell ⟨bx, 2, none⟩ (.int .i64 0)).setCell ⟨bx, 3, none⟩ (.int .i64 0)).setCell ⟨bx, 4, none⟩ (.int .i64 0)).setCell ⟨bx, 5, none⟩ (.slice c3 0 d3)).setCell ⟨bx, 6, none⟩ (.int .i64 0)).setCell ⟨bx, 7, none⟩ (.int .i64 2)).setCell ⟨bx, 8, none⟩ (.int .i64 0)).setCell ⟨bx, 9, none⟩ (.slice b3 0 r3)) (bx + 1 + 1) 34 [.int .i64 2, .int .i64 1, .int .i64 4, .slice (some ⟨(bx + 1), 0, none⟩) 128 128] := (hkc2.below hb3 hkc2.lt).keep (set10_heap (W := w3) (b := bx) (by omega) (.slice a3 160 k3) (.bool false) (.int .i64 0) (.int .i64 0) (.int .i64 0) (.slice c3 0 d3) (.int .i64 0) (.int .i64 2) (.int .i64 0) (.slice b3 0 r3))
  have hkz3 : Bk ((((((((((w3.setCell ⟨bx, 0, none⟩ (.slice a3 160 k3)).setCell ⟨bx, 1, none⟩ (.bool false)).setCell ⟨bx, 2, none⟩ (.int .i64 0)).setCell ⟨bx, 3, none⟩ (.int .i64 0)).setCell ⟨bx, 4, none⟩ (.int .i64 0)).setCell ⟨bx, 5, none⟩ (.slice c3 0 d3)).setCell ⟨bx, 6, none⟩ (.int .i64 0)).setCell ⟨bx, 7, none⟩ (.int .i64 2)).setCell ⟨bx, 8, none⟩ (.int .i64 0)).setCell ⟨bx, 9, none⟩ (.slice b3 0 r3)) (bx + 1) 5 (z128.map eb) := (hkz2.below hb3 hkz2.lt).keep (set10_heap (W := w3) (b := bx) (by omega) (.slice a3 160 k3) (.bool false) (.int .i64 0) (.int .i64 0) (.int .i64 0) (.slice c3 0 d3) (.int .i64 0) (.int .i64 2) (.int .i64 0) (.slice b3 0 r3))
  have hdx3 : Dw V2.heap.size (fun b => b = bx) ((((((((((w3.setCell ⟨bx, 0, none⟩ (.slice a3 160 k3)).setCell ⟨bx, 1, none⟩ (.bool false)).setCell ⟨bx, 2, none⟩ (.int .i64 0)).setCell ⟨bx, 3, none⟩ (.int .i64 0)).setCell ⟨bx, 4, none⟩ (.int .i64 0)).setCell ⟨bx, 5, none⟩ (.slice c3 0 d3)).setCell ⟨bx, 6, none⟩ (.int .i64 0)).setCell ⟨bx, 7, none⟩ (.int .i64 2)).setCell ⟨bx, 8, none⟩ (.int .i64 0)).setCell ⟨bx, 9, none⟩ (.slice b3 0 r3)) (.slice a3 160 k3) (.slice c3 0 d3) (.slice b3 0 r3) es3 (bs.set 4 z128) [] [] := hdw3.box hXV2 rfl (.slice a3 160 k3) (.bool false) (.int .i64 0) (.int .i64 0) (.int .i64 0) (.slice c3 0 d3) (.int .i64 0) (.int .i64 2) (.int .i64 0) (.slice b3 0 r3)
  have hl3 : Below w.heap.size w ((((((((((w3.setCell ⟨bx, 0, none⟩ (.slice a3 160 k3)).setCell ⟨bx, 1, none⟩ (.bool false)).setCell ⟨bx, 2, none⟩ (.int .i64 0)).setCell ⟨bx, 3, none⟩ (.int .i64 0)).setCell ⟨bx, 4, none⟩ (.int .i64 0)).setCell ⟨bx, 5, none⟩ (.slice c3 0 d3)).setCell ⟨bx, 6, none⟩ (.int .i64 0)).setCell ⟨bx, 7, none⟩ (.int .i64 2)).setCell ⟨bx, 8, none⟩ (.int .i64 0)).setCell ⟨bx, 9, none⟩ (.slice b3 0 r3)) := set10 (stepAny hl2 hb3) (by omega) (.slice a3 160 k3) (.bool false) (.int .i64 0) (.int .i64 0) (.int .i64 0) (.slice c3 0 d3) (.int .i64 0) (.int .i64 2) (.int .i64 0) (.slice b3 0 r3)
  have hbx2 : bx ≠ bn2 := by have h : bx < V2.heap.size := hXV2 bx rfl; have h2 : V2.heap.size ≤ bn2 := hbn2; omega
  have hka3 : Bk ((((((((((w3.setCell ⟨bx, 0, none⟩ (.slice a3 160 k3)).setCell ⟨bx, 1, none⟩ (.bool false)).setCell ⟨bx, 2, none⟩ (.int .i64 0)).setCell ⟨bx, 3, none⟩ (.int .i64 0)).setCell ⟨bx, 4, none⟩ (.int .i64 0)).setCell ⟨bx, 5, none⟩ (.slice c3 0 d3)).setCell ⟨bx, 6, none⟩ (.int .i64 0)).setCell ⟨bx, 7, none⟩ (.int .i64 2)).setCell ⟨bx, 8, none⟩ (.int .i64 0)).setCell ⟨bx, 9, none⟩ (.slice b3 0 r3)) bn2 35 [.int .i64 2, .int .i64 0, un2] := hkn2.keep (set10_heap (W := w3) (b := bx) (k := bn2) (by have h : bx < V2.heap.size := hXV2 bx rfl; have h2 : V2.heap.size ≤ bn2 := hbn2; omega) (.slice a3 160 k3) (.bool false) (.int .i64 0) (.int .i64 0) (.int .i64 0) (.slice c3 0 d3) (.int .i64 0) (.int .i64 2) (.int .i64 0) (.slice b3 0 r3))
  clear hkn2 p0 p1 p2 p3 p4 p5 p6 p7 p8 p9 g0 g1 g2 g3 g4 g5 g6 g7 g8 g9 y0 y1 y2 y3 hkb2 hkc2 hkz2 hdw3 H2 hl2 hb3
  generalize ((((((((((w3.setCell ⟨bx, 0, none⟩ (.slice a3 160 k3)).setCell ⟨bx, 1, none⟩ (.bool false)).setCell ⟨bx, 2, none⟩ (.int .i64 0)).setCell ⟨bx, 3, none⟩ (.int .i64 0)).setCell ⟨bx, 4, none⟩ (.int .i64 0)).setCell ⟨bx, 5, none⟩ (.slice c3 0 d3)).setCell ⟨bx, 6, none⟩ (.int .i64 0)).setCell ⟨bx, 7, none⟩ (.int .i64 2)).setCell ⟨bx, 8, none⟩ (.int .i64 0)).setCell ⟨bx, 9, none⟩ (.slice b3 0 r3)) = V3 at *
  have hz3 := sl_bk hkz3
  have hXV3 : ∀ b, (fun b => b = bx) b → b < V3.heap.size := fun b h => h ▸ hkb3.lt
  have H3 := Lib.hid (do_f (w := V3) (X := fun b => b = bx) false 0 0 0 0 2 0 2 1 4 hdx3.de hdx3.e  hz3 (hdx3.len hF2.1) (by simp) (by simp) (by rw [z128_len]; omega) (aw4 hF2) hF2.1 rfl rfl)
  obtain ⟨⟨p0, p1, p2, p3, p4, p5, p6, p7, p8, p9⟩, -⟩ := Bk.fd hkb3
  obtain ⟨y0, y1, y2, y3⟩ : V3.cell? ⟨(bx + 1 + 1), 0, none⟩ = some (.int .i64 2) ∧ V3.cell? ⟨(bx + 1 + 1), 1, none⟩ = some (.int .i64 1) ∧ V3.cell? ⟨(bx + 1 + 1), 2, none⟩ = some (.int .i64 4) ∧ V3.cell? ⟨(bx + 1 + 1), 3, none⟩ = some (.slice (some ⟨(bx + 1), 0, none⟩) 128 128) := ⟨hkc3.cell 0, hkc3.cell 1, hkc3.cell 2, hkc3.cell 3⟩
  go_upto_region 7 with (go_at_call 11; (with_reducible refine H3.out.mono ?_); rintro e w4 ⟨a4, k4, c4, d4, b4, r4, es4, rfl, hdw4, hb4⟩; clear p0 p1 p2 p3 p4 p5 p6 p7 p8 p9; obtain ⟨⟨p0, p1, p2, p3, p4, p5, p6, p7, p8, p9⟩, g0, g1, g2, g3, g4, g5, g6, g7, g8, g9⟩ := Bk.fd (hkb3.below hb4 hkb3.lt))
  have hkb4 : Bk ((((((((((w4.setCell ⟨bx, 0, none⟩ (.slice a4 160 k4)).setCell ⟨bx, 1, none⟩ (.bool true)).setCell ⟨bx, 2, none⟩ (.int .i64 2)).setCell ⟨bx, 3, none⟩ (.int .i64 0)).setCell ⟨bx, 4, none⟩ (.int .i64 0)).setCell ⟨bx, 5, none⟩ (.slice c4 0 d4)).setCell ⟨bx, 6, none⟩ (.int .i64 1)).setCell ⟨bx, 7, none⟩ (.int .i64 2)).setCell ⟨bx, 8, none⟩ (.int .i64 0)).setCell ⟨bx, 9, none⟩ (.slice b4 0 r4)) bx 39 (dkC (.slice a4 160 k4) (true) (2) (0) (0) (.slice c4 0 d4) (1) (2) (0) (.slice b4 0 r4)) := (hkb3.below hb4 hkb3.lt).set10 (.slice a4 160 k4) (.bool true) (.int .i64 2) (.int .i64 0) (.int .i64 0) (.slice c4 0 d4) (.int .i64 1) (.int .i64 2) (.int .i64 0) (.slice b4 0 r4)
  have hkc4 : Bk ((((((((((w4.setCell ⟨bx, 0, none⟩ (.slice a4 160 k4)).setCell ⟨bx, 1, none⟩ (.bool true)).setCell ⟨bx, 2, none⟩ (.int .i64 2)).setCell ⟨bx, 3, none⟩ (.int .i64 0)).setCell ⟨bx, 4, none⟩ (.int .i64 0)).setCell ⟨bx, 5, none⟩ (.slice c4 0 d4)).setCell ⟨bx, 6, none⟩ (.int .i64 1)).setCell ⟨bx, 7, none⟩ (.int .i64 2)).setCell ⟨bx, 8, none⟩ (.int .i64 0)).setCell ⟨bx, 9, none⟩ (.slice b4 0 r4)) (bx + 1 + 1) 34 [.int .i64 2, .int .i64 1, .int .i64 4, .slice (some ⟨(bx + 1), 0, none⟩) 128 128] := (hkc3.below hb4 hkc3.lt).keep (set10_heap (W := w4) (b := bx) (by omega) (.slice a4 160 k4) (.bool true) (.int .i64 2) (.int .i64 0) (.int .i64 0) (.slice c4 0 d4) (.int .i64 1) (.int .i64 2) (.int .i64 0) (.slice b4 0 r4))
  have hkz4 : Bk ((((((((((w4.setCell ⟨bx, 0, none⟩ (.slice a4 160 k4)).setCell ⟨bx, 1, none⟩ (.bool true)).setCell ⟨bx, 2, none⟩ (.int .i64 2)).setCell ⟨bx, 3, none⟩ (.int .i64 0)).setCell ⟨bx, 4, none⟩ (.int .i64 0)).setCell ⟨bx, 5, none⟩ (.slice c4 0 d4)).setCell ⟨bx, 6, none⟩ (.int .i64 1)).setCell ⟨bx, 7, none⟩ (.int .i64 2)).setCell ⟨bx, 8, none⟩ (.int .i64 0)).setCell ⟨bx, 9, none⟩ (.slice b4 0 r4)) (bx + 1) 5 (z128.map eb) := (hkz3.below hb4 hkz3.lt).keep (set10_heap (W := w4) (b := bx) (by omega) (.slice a4 160 k4) (.bool true) (.int .i64 2) (.int .i64 0) (.int .i64 0) (.slice c4 0 d4) (.int .i64 1) (.int .i64 2) (.int .i64 0) (.slice b4 0 r4))
  have hdx4 : Dw V3.heap.size (fun b => b = bx) ((((((((((w4.setCell ⟨bx, 0, none⟩ (.slice a4 160 k4)).setCell ⟨bx, 1, none⟩ (.bool true)).setCell ⟨bx, 2, none⟩ (.int .i64 2)).setCell ⟨bx, 3, none⟩ (.int .i64 0)).setCell ⟨bx, 4, none⟩ (.int .i64 0)).setCell ⟨bx, 5, none⟩ (.slice c4 0 d4)).setCell ⟨bx, 6, none⟩ (.int .i64 1)).setCell ⟨bx, 7, none⟩ (.int .i64 2)).setCell ⟨bx, 8, none⟩ (.int .i64 0)).setCell ⟨bx, 9, none⟩ (.slice b4 0 r4)) (.slice a4 160 k4) (.slice c4 0 d4) (.slice b4 0 r4) es4 (bs.set 4 z128) [] [] := hdw4.box hXV3 rfl (.slice a4 160 k4) (.bool true) (.int .i64 2) (.int .i64 0) (.int .i64 0) (.slice c4 0 d4) (.int .i64 1) (.int .i64 2) (.int .i64 0) (.slice b4 0 r4)
  have hl4 : Below w.heap.size w ((((((((((w4.setCell ⟨bx, 0, none⟩ (.slice a4 160 k4)).setCell ⟨bx, 1, none⟩ (.bool true)).setCell ⟨bx, 2, none⟩ (.int .i64 2)).setCell ⟨bx, 3, none⟩ (.int .i64 0)).setCell ⟨bx, 4, none⟩ (.int .i64 0)).setCell ⟨bx, 5, none⟩ (.slice c4 0 d4)).setCell ⟨bx, 6, none⟩ (.int .i64 1)).setCell ⟨bx, 7, none⟩ (.int .i64 2)).setCell ⟨bx, 8, none⟩ (.int .i64 0)).setCell ⟨bx, 9, none⟩ (.slice b4 0 r4)) := set10 (stepAny hl3 hb4) (by omega) (.slice a4 160 k4) (.bool true) (.int .i64 2) (.int .i64 0) (.int .i64 0) (.slice c4 0 d4) (.int .i64 1) (.int .i64 2) (.int .i64 0) (.slice b4 0 r4)
  have hka4 : Bk ((((((((((w4.setCell ⟨bx, 0, none⟩ (.slice a4 160 k4)).setCell ⟨bx, 1, none⟩ (.bool true)).setCell ⟨bx, 2, none⟩ (.int .i64 2)).setCell ⟨bx, 3, none⟩ (.int .i64 0)).setCell ⟨bx, 4, none⟩ (.int .i64 0)).setCell ⟨bx, 5, none⟩ (.slice c4 0 d4)).setCell ⟨bx, 6, none⟩ (.int .i64 1)).setCell ⟨bx, 7, none⟩ (.int .i64 2)).setCell ⟨bx, 8, none⟩ (.int .i64 0)).setCell ⟨bx, 9, none⟩ (.slice b4 0 r4)) bn2 35 [.int .i64 2, .int .i64 0, un2] := (hka3.below hb4 hka3.lt).keep (set10_heap (W := w4) (b := bx) (k := bn2) (by have h : bx ≠ bn2 := hbx2; omega) (.slice a4 160 k4) (.bool true) (.int .i64 2) (.int .i64 0) (.int .i64 0) (.slice c4 0 d4) (.int .i64 1) (.int .i64 2) (.int .i64 0) (.slice b4 0 r4))
  clear p0 p1 p2 p3 p4 p5 p6 p7 p8 p9 g0 g1 g2 g3 g4 g5 g6 g7 g8 g9 y0 y1 y2 y3 hkb3 hkc3 hkz3 hdw4 H3 hl3 hb4
  generalize ((((((((((w4.setCell ⟨bx, 0, none⟩ (.slice a4 160 k4)).setCell ⟨bx, 1, none⟩ (.bool true)).setCell ⟨bx, 2, none⟩ (.int .i64 2)).setCell ⟨bx, 3, none⟩ (.int .i64 0)).setCell ⟨bx, 4, none⟩ (.int .i64 0)).setCell ⟨bx, 5, none⟩ (.slice c4 0 d4)).setCell ⟨bx, 6, none⟩ (.int .i64 1)).setCell ⟨bx, 7, none⟩ (.int .i64 2)).setCell ⟨bx, 8, none⟩ (.int .i64 0)).setCell ⟨bx, 9, none⟩ (.slice b4 0 r4)) = V4 at *
  have hz4 := sl_bk hkz4
  have hXV4 : ∀ b, (fun b => b = bx) b → b < V4.heap.size := fun b h => h ▸ hkb4.lt
  have H4 := Lib.hid (tick_f (w := V4) (X := fun b => b = bx) true 2 0 0 1 2 0 hdx4.de hdx4.e  (hdx4.len hF2.1) (by simp) (by simp) hXV4 (aw5 hF2) hF2.1 rfl rfl)
  obtain ⟨⟨p0, p1, p2, p3, p4, p5, p6, p7, p8, p9⟩, -⟩ := Bk.fd hkb4
  obtain ⟨y0, y1, y2, y3⟩ : V4.cell? ⟨(bx + 1 + 1), 0, none⟩ = some (.int .i64 2) ∧ V4.cell? ⟨(bx + 1 + 1), 1, none⟩ = some (.int .i64 1) ∧ V4.cell? ⟨(bx + 1 + 1), 2, none⟩ = some (.int .i64 4) ∧ V4.cell? ⟨(bx + 1 + 1), 3, none⟩ = some (.slice (some ⟨(bx + 1), 0, none⟩) 128 128) := ⟨hkc4.cell 0, hkc4.cell 1, hkc4.cell 2, hkc4.cell 3⟩
  go_upto_region 8 with (go_at_call 20; (with_reducible refine H4.out.mono ?_); rintro e w5 ⟨a5, k5, c5, d5, b5, r5, es5, _, rfl, hdw5, ⟨bn4, un4, rfl, hbn4, hkn4, -⟩, hb5⟩; clear p0 p1 p2 p3 p4 p5 p6 p7 p8 p9; obtain ⟨⟨p0, p1, p2, p3, p4, p5, p6, p7, p8, p9⟩, g0, g1, g2, g3, g4, g5, g6, g7, g8, g9⟩ := Bk.fd (hkb4.below hb5 hkb4.lt))
  have hka5 := (hka4.below hb5 hka4.lt).cell 0
  simp only [List.getElem?_cons_zero] at hka5
  have hlt5 : bn2 < w5.heap.size := (hka4.below hb5 hka4.lt).lt
  have hl5 := stepAny hl4 hb5
  clear p0 p1 p2 p3 p4 p5 p6 p7 p8 p9 g0 g1 g2 g3 g4 g5 g6 g7 g8 g9 y0 y1 y2 y3 hkb4 hkc4 hkz4 hdx4 hz4 hka4
  go_wp2_with fail
  go_ret
  exact ⟨rfl, stepAny hl5 (low_alloc _ _)⟩
end Go.Proofs.Yteeoonoccklhmaa
