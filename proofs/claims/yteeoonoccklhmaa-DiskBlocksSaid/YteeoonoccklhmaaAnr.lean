/-
  The walk of answer of disk (printed by gen/mk11an.py).
-/
import Derived.Test.YteeoonoccklhmaaAn
namespace Go.Proofs.Yteeoonoccklhmaa
open Go.RowKit
theorem grown3 {w W : World} {row : Option Nat} {b : Nat} (h : w.grownBy W row) (hb : w.heap.size ≤ b) (v0 v1 v2 : Value) : w.grownBy (((W.setCell ⟨b, 0, none⟩ v0).setCell ⟨b, 1, none⟩ v1).setCell ⟨b, 2, none⟩ v2) row := ⟨h.os, h.tape, h.output, by simp only [sc_size]; exact h.size, fun i hi hne => (set3_heap (by omega) _ _ _).trans (h.block i hi hne)⟩
theorem bc1 (W : World) (p : Addr) (u : Value) (a : Addr) (h : a.block ≠ p.block) : (W.setCell p u).cell? a = W.cell? a := World.cell?_of_block (Below.heap_setCell _ _ _ _ h)

set_option maxRecDepth 100000 in
set_option maxHeartbeats 8000000 in
theorem an6_w (B : Nat) (o : Bool) (ct co cp l lt la t q p : Int) {ub uc ul ux : Value} {es : List Tr} {bs : List (List UInt8)} {xs : List UInt8} {w : World} (hB : B ≤ w.heap.size) (ho : w.ownsRow B 23 1 ub es.length (es.map et))
    (hn : es.length = bs.length) (he : ∀ i (h : i < es.length) (h' : i < bs.length), Sl eb w (et es[i]) bs[i]) (hx : Sl eb w ux xs) (h160 : bs.length = 160) (hxs : xs.length ≤ 1000) (hbs : ∀ i (h : i < bs.length), bs[i].length ≤ 1000) (h0 : q = 0) (h : xs.length = 0) (hb : Dk.blk p = true) :
    Calls Try.prog 44 #[.agg #[ub, .bool o, .int .i64 ct, .int .i64 co, .int .i64 cp, uc, .int .i64 l, .int .i64 lt, .int .i64 la, ul], .agg #[.int .i64 t, .int .i64 q, .int .i64 p, ux]] w (RetAn B w ub es bs xs (Dk.answer bs (t, q, p, xs))) := by
  obtain ⟨aub, cub, hub⟩ := own_slice ho
  obtain ⟨ax, cx, hux, -⟩ := id hx
  subst hub hux
  obtain ⟨W0, hW0⟩ : ∃ W0, W0 = ((w.alloc (.cells #[.slice aub es.length cub, .bool o, .int .i64 ct, .int .i64 co, .int .i64 cp, uc, .int .i64 l, .int .i64 lt, .int .i64 la, ul] 39 (0, 0))).alloc (.cells #[.int .i64 t, .int .i64 q, .int .i64 p, .slice ax xs.length cx] 34 (0, 0))).alloc (.cells #[.int .i64 0, .int .i64 0, .slice none 0 0] 35 (0, 0)) := ⟨_, rfl⟩
  obtain ⟨W1, hW1⟩ : ∃ W1, W1 = W0.alloc (.cells #[.int .i64 t, .int .i64 0, .slice none 0 0] 35 (0, 0)) := ⟨_, rfl⟩
  have hsz0 : W0.heap.size = w.heap.size + 1 + 1 + 1 := by rw [hW0]; simp
  have hK : Bk W1 w.heap.size 39 [.slice aub es.length cub, .bool o, .int .i64 ct, .int .i64 co, .int .i64 cp, uc, .int .i64 l, .int .i64 lt, .int .i64 la, ul] := by rw [hW1, hW0]; exact (((Bk.new w _ [.slice aub es.length cub, .bool o, .int .i64 ct, .int .i64 co, .int .i64 cp, uc, .int .i64 l, .int .i64 lt, .int .i64 la, ul]).alloc _).alloc _).alloc _
  have hC : Bk W1 (w.heap.size + 1) 34 [.int .i64 t, .int .i64 q, .int .i64 p, .slice ax xs.length cx] := by rw [hW1, hW0]; exact ((Bk.newAt _ _ [.int .i64 t, .int .i64 q, .int .i64 p, .slice ax xs.length cx] (by simp)).alloc _).alloc _
  have hC0 : Bk W0 (w.heap.size + 1) 34 [.int .i64 t, .int .i64 q, .int .i64 p, .slice ax xs.length cx] := by rw [hW0]; exact (Bk.newAt _ _ [.int .i64 t, .int .i64 q, .int .i64 p, .slice ax xs.length cx] (by simp)).alloc _
  have hR : Bk W1 (w.heap.size + 1 + 1) 35 [.int .i64 0, .int .i64 0, .slice none 0 0] := by rw [hW1, hW0]; exact (Bk.newAt _ _ [.int .i64 0, .int .i64 0, .slice none 0 0] (by simp)).alloc _
  have hY : Bk W1 W0.heap.size 35 [.int .i64 t, .int .i64 0, .slice none 0 0] := by rw [hW1]; exact Bk.new W0 _ [.int .i64 t, .int .i64 0, .slice none 0 0]
  have hL : Below w.heap.size w W1 := by rw [hW1, hW0]; exact (((low_alloc _ _).alloc (by simp) _).alloc (by simp; omega) _).alloc (by simp; omega) _
  have hsz : W1.heap.size = w.heap.size + 1 + 1 + 1 + 1 := by rw [hW1]; simp [hsz0]
  have hwW : w.heap.size + 1 + 1 < W0.heap.size := by omega
  have HO := Lib.hid ho
  have HL := Lib.hid hL
  have HR := Lib.hid hR
  have HY := Lib.hid hY
  have HSZ := Lib.hid hsz
  have HC := Lib.hid hC
  have HK := Lib.hid hK
  have HX := Lib.hid hx
  have HE := Lib.hid he
  have HN := Lib.hid hn
  have H160 := Lib.hid h160
  have HXS := Lib.hid hxs
  have HBS := Lib.hid hbs
  have HBB := Lib.hid hB
  have c1 := hC0.cell 0
  clear ho hn he hx h160 hxs hbs hK hC0 hR hY hL hC hB hsz0 hsz
  have HW0 := Lib.hid hW0
  have HW1 := Lib.hid hW1
  clear hW0 hW1
  subst h0
  rw [an_6 h hb]
  have e1 : ((xs.length : Int) != 0) = false := by rw [h]; rfl
  obtain ⟨k, hk, rfl⟩ : ∃ k : Nat, k < 160 ∧ p = (k : Int) := by
    have hb' := hb
    unfold Dk.blk at hb'
    simp at hb'
    exact ⟨p.toNat, by omega, by omega⟩
  have hke : k < es.length := by have := HN.out; have := H160.out; omega
  have hkb : k < bs.length := by have := H160.out; omega
  obtain ⟨g, cg, hvg⟩ := own_form HO.out (by omega)
  injection hvg with e1 _ e3
  subst e1 e3
  have hgl := HO.out.lt g rfl
  have hgw := hgl.2
  have HB := fun W => block_w (k : Int) W
  rw [hb] at HB
  have HQ : Hid (∀ W, Below W1.heap.size W1 W → (W.cell? ⟨w.heap.size, 0, none⟩ = some (.slice (some ⟨g, 0, none⟩) es.length cub) ∧ W.cell? ⟨w.heap.size + 1, 0, none⟩ = some (.int .i64 t) ∧ W.cell? ⟨w.heap.size + 1, 1, none⟩ = some (.int .i64 0) ∧ W.cell? ⟨w.heap.size + 1, 2, none⟩ = some (.int .i64 (k : Int)) ∧ W.cell? ⟨w.heap.size + 1, 3, none⟩ = some (.slice ax xs.length cx)) ∧ ((W.cell? ⟨W0.heap.size, 0, none⟩ = some (.int .i64 t) ∧ W.cell? ⟨W0.heap.size, 1, none⟩ = some (.int .i64 0) ∧ W.cell? ⟨W0.heap.size, 2, none⟩ = some (.slice none 0 0)) ∧ W.frozen? ⟨W0.heap.size, 1, none⟩ = false ∧ W.frozen? ⟨W0.heap.size, 2, none⟩ = false) ∧ ((W.cell? ⟨w.heap.size + 1 + 1, 0, none⟩ = some (.int .i64 0) ∧ W.cell? ⟨w.heap.size + 1 + 1, 1, none⟩ = some (.int .i64 0) ∧ W.cell? ⟨w.heap.size + 1 + 1, 2, none⟩ = some (.slice none 0 0)) ∧ W.frozen? ⟨w.heap.size + 1 + 1, 0, none⟩ = false ∧ W.frozen? ⟨w.heap.size + 1 + 1, 1, none⟩ = false ∧ W.frozen? ⟨w.heap.size + 1 + 1, 2, none⟩ = false)) := fun W hW => by
    have e1 := HK.out.below hW HK.out.lt
    have e2 := HC.out.below hW HC.out.lt
    have e3 := HY.out.below hW HY.out.lt
    have e4 := HR.out.below hW HR.out.lt
    exact ⟨⟨e1.cell 0, e2.cell 0, e2.cell 1, e2.cell 2, e2.cell 3⟩, ⟨⟨e3.cell 0, e3.cell 1, e3.cell 2⟩, e3.frozen 1, e3.frozen 2⟩, ⟨e4.cell 0, e4.cell 1, e4.cell 2⟩, e4.frozen 0, e4.frozen 1, e4.frozen 2⟩
  obtain ⟨⟨xa, xn, xc⟩, hek⟩ : ∃ e : Tr, e = es[k] := ⟨_, rfl⟩
  have hsk := HE.out k hke hkb
  rw [← hek] at hsk
  obtain ⟨xa', xc', hs1, -⟩ := id hsk
  have hxn : xn = bs[k].length := by unfold et at hs1; injection hs1
  subst hxn
  have hcell : W1.cell? ⟨g, k, none⟩ = some (.slice xa bs[k].length xc) := by
    rw [HL.out.cell (p := ⟨g, k, none⟩) hgl.2, HO.out.cellAt k (by omega), List.getElem?_map, List.getElem?_eq_getElem hke, ← hek]
    rfl
  have f1 : (0 : Int) ≤ (k : Int) := by omega
  have f2 : (k : Int) < (es.length : Int) := by omega
  have hgd : bs.getD ((k : Int)).toNat [] = bs[k] := by simp [List.getD, hkb]
  rw [hgd]
  have HBC : Hid (Calls Try.prog 45 #[.slice xa bs[k].length xc] W1 fun e w' => ∃ v, e = .returned v ∧ w'.ownsRow W1.heap.size 5 1 v bs[k].length (bs[k].map eb) ∧ Below W1.heap.size W1 w') := bclone_w (hsk.below HL.out (Nat.le_refl _)) (by have := HBS.out k hkb; omega)
  clear hsk hs1 hek hgd h hb
  generalize bs[k] = bk at *
  go_enter Try.func44, Try.ntmps44
  go_upto_region 1 with fail
  rw [← HW0.out]
  go_upto_region 3 with fail
  rw [← HW1.out]
  clear c1
  obtain ⟨⟨s0, c0, c1, c2, c3⟩, -, -⟩ := HQ.out W1 (low_refl W1)
  go_wp2_with (first
    | (go_at_call 31; (with_reducible refine (HB _).mono ?_); rintro e wb ⟨rfl, rfl⟩)
    | (go_at_call 45; (with_reducible refine HBC.out.mono ?_); rintro e w2 ⟨v2, rfl, ho2, hb2⟩; obtain ⟨aV, kV, rfl⟩ := own_slice ho2; have hW0l : W0.heap.size < w2.heap.size := (by have := HY.out.lt; have := hb2.size; omega); obtain ⟨-, ⟨⟨y0, y1, y2⟩, gy1, gy2⟩, ⟨r0, r1, r2⟩, z0, z1, z2⟩ := HQ.out w2 hb2))
  have hl2 : Below w.heap.size w (w2.setCell ⟨W0.heap.size, 2, none⟩ (.slice aV bk.length kV)) := (stepAny HL.out hb2).setCell (by show w.heap.size ≤ W0.heap.size; omega) _
  have hfin := set3 (b := w.heap.size + 1 + 1) hl2 (by omega) (.int .i64 t) (.int .i64 0) (.slice aV bk.length kV)
  have hown := own_keep HO.out fun k hk => hfin.block k (HO.out.lt k hk).2
  have hszW := HSZ.out
  have hv2 := own_keep (own_down (base' := w.heap.size) ho2 HL.out.size) (fun k hk => (set3_heap (W := w2.setCell ⟨W0.heap.size, 2, none⟩ (.slice aV bk.length kV)) (b := w.heap.size + 1 + 1) (k := k) (by have := (ho2.lt k hk).1; omega) (.int .i64 t) (.int .i64 0) (.slice aV bk.length kV)).trans (Below.heap_setCell _ _ _ k (by have := (ho2.lt k hk).1; have := HY.out.lt; show k ≠ W0.heap.size; omega)))
  exact bodyPost_ret (v := .agg #[.int .i64 t, .int .i64 0, .slice aV bk.length kV]) (by simp [results, Try.results44, go_sem, r0, r1, r2]) rfl ⟨_, es, rfl, hv2, hown, grown_of_below hfin _, .inl ⟨rfl, rfl⟩⟩

set_option maxRecDepth 100000 in
set_option maxHeartbeats 8000000 in
theorem an7_w (B : Nat) (o : Bool) (ct co cp l lt la t q p : Int) {ub uc ul ux : Value} {es : List Tr} {bs : List (List UInt8)} {xs : List UInt8} {w : World} (hB : B ≤ w.heap.size) (ho : w.ownsRow B 23 1 ub es.length (es.map et))
    (hn : es.length = bs.length) (he : ∀ i (h : i < es.length) (h' : i < bs.length), Sl eb w (et es[i]) bs[i]) (hx : Sl eb w ux xs) (h160 : bs.length = 160) (hxs : xs.length ≤ 1000) (hbs : ∀ i (h : i < bs.length), bs[i].length ≤ 1000) (h0 : q = 1) (h : xs.length = 128) (hb : Dk.blk p = true) :
    Calls Try.prog 44 #[.agg #[ub, .bool o, .int .i64 ct, .int .i64 co, .int .i64 cp, uc, .int .i64 l, .int .i64 lt, .int .i64 la, ul], .agg #[.int .i64 t, .int .i64 q, .int .i64 p, ux]] w (RetAn B w ub es bs xs (Dk.answer bs (t, q, p, xs))) := by
  obtain ⟨aub, cub, hub⟩ := own_slice ho
  obtain ⟨ax, cx, hux, -⟩ := id hx
  subst hub hux
  obtain ⟨W0, hW0⟩ : ∃ W0, W0 = ((w.alloc (.cells #[.slice aub es.length cub, .bool o, .int .i64 ct, .int .i64 co, .int .i64 cp, uc, .int .i64 l, .int .i64 lt, .int .i64 la, ul] 39 (0, 0))).alloc (.cells #[.int .i64 t, .int .i64 q, .int .i64 p, .slice ax xs.length cx] 34 (0, 0))).alloc (.cells #[.int .i64 0, .int .i64 0, .slice none 0 0] 35 (0, 0)) := ⟨_, rfl⟩
  obtain ⟨W1, hW1⟩ : ∃ W1, W1 = W0.alloc (.cells #[.int .i64 t, .int .i64 0, .slice none 0 0] 35 (0, 0)) := ⟨_, rfl⟩
  have hsz0 : W0.heap.size = w.heap.size + 1 + 1 + 1 := by rw [hW0]; simp
  have hK : Bk W1 w.heap.size 39 [.slice aub es.length cub, .bool o, .int .i64 ct, .int .i64 co, .int .i64 cp, uc, .int .i64 l, .int .i64 lt, .int .i64 la, ul] := by rw [hW1, hW0]; exact (((Bk.new w _ [.slice aub es.length cub, .bool o, .int .i64 ct, .int .i64 co, .int .i64 cp, uc, .int .i64 l, .int .i64 lt, .int .i64 la, ul]).alloc _).alloc _).alloc _
  have hC : Bk W1 (w.heap.size + 1) 34 [.int .i64 t, .int .i64 q, .int .i64 p, .slice ax xs.length cx] := by rw [hW1, hW0]; exact ((Bk.newAt _ _ [.int .i64 t, .int .i64 q, .int .i64 p, .slice ax xs.length cx] (by simp)).alloc _).alloc _
  have hC0 : Bk W0 (w.heap.size + 1) 34 [.int .i64 t, .int .i64 q, .int .i64 p, .slice ax xs.length cx] := by rw [hW0]; exact (Bk.newAt _ _ [.int .i64 t, .int .i64 q, .int .i64 p, .slice ax xs.length cx] (by simp)).alloc _
  have hR : Bk W1 (w.heap.size + 1 + 1) 35 [.int .i64 0, .int .i64 0, .slice none 0 0] := by rw [hW1, hW0]; exact (Bk.newAt _ _ [.int .i64 0, .int .i64 0, .slice none 0 0] (by simp)).alloc _
  have hY : Bk W1 W0.heap.size 35 [.int .i64 t, .int .i64 0, .slice none 0 0] := by rw [hW1]; exact Bk.new W0 _ [.int .i64 t, .int .i64 0, .slice none 0 0]
  have hL : Below w.heap.size w W1 := by rw [hW1, hW0]; exact (((low_alloc _ _).alloc (by simp) _).alloc (by simp; omega) _).alloc (by simp; omega) _
  have hsz : W1.heap.size = w.heap.size + 1 + 1 + 1 + 1 := by rw [hW1]; simp [hsz0]
  have hwW : w.heap.size + 1 + 1 < W0.heap.size := by omega
  have HO := Lib.hid ho
  have HL := Lib.hid hL
  have HR := Lib.hid hR
  have HY := Lib.hid hY
  have HSZ := Lib.hid hsz
  have HC := Lib.hid hC
  have HK := Lib.hid hK
  have HX := Lib.hid hx
  have HE := Lib.hid he
  have HN := Lib.hid hn
  have H160 := Lib.hid h160
  have HXS := Lib.hid hxs
  have HBS := Lib.hid hbs
  have HBB := Lib.hid hB
  have c1 := hC0.cell 0
  clear ho hn he hx h160 hxs hbs hK hC0 hR hY hL hC hB hsz0 hsz
  have HW0 := Lib.hid hW0
  have HW1 := Lib.hid hW1
  clear hW0 hW1
  subst h0
  rw [an_7 h hb]
  have e1 : ((xs.length : Int) != 128) = false := by rw [h]; rfl
  obtain ⟨k, hk, rfl⟩ : ∃ k : Nat, k < 160 ∧ p = (k : Int) := by
    have hb' := hb
    unfold Dk.blk at hb'
    simp at hb'
    exact ⟨p.toNat, by omega, by omega⟩
  have hke : k < es.length := by have := HN.out; have := H160.out; omega
  have hkb : k < bs.length := by have := H160.out; omega
  obtain ⟨g, cg, hvg⟩ := own_form HO.out (by omega)
  injection hvg with e1 _ e3
  subst e1 e3
  have hgl := HO.out.lt g rfl
  have hgw := hgl.2
  have HB := fun W => block_w (k : Int) W
  rw [hb] at HB
  have HQ : Hid (∀ W, Below W1.heap.size W1 W → (W.cell? ⟨w.heap.size, 0, none⟩ = some (.slice (some ⟨g, 0, none⟩) es.length cub) ∧ W.cell? ⟨w.heap.size + 1, 0, none⟩ = some (.int .i64 t) ∧ W.cell? ⟨w.heap.size + 1, 1, none⟩ = some (.int .i64 1) ∧ W.cell? ⟨w.heap.size + 1, 2, none⟩ = some (.int .i64 (k : Int)) ∧ W.cell? ⟨w.heap.size + 1, 3, none⟩ = some (.slice ax xs.length cx)) ∧ ((W.cell? ⟨W0.heap.size, 0, none⟩ = some (.int .i64 t) ∧ W.cell? ⟨W0.heap.size, 1, none⟩ = some (.int .i64 0) ∧ W.cell? ⟨W0.heap.size, 2, none⟩ = some (.slice none 0 0)) ∧ W.frozen? ⟨W0.heap.size, 1, none⟩ = false ∧ W.frozen? ⟨W0.heap.size, 2, none⟩ = false) ∧ ((W.cell? ⟨w.heap.size + 1 + 1, 0, none⟩ = some (.int .i64 0) ∧ W.cell? ⟨w.heap.size + 1 + 1, 1, none⟩ = some (.int .i64 0) ∧ W.cell? ⟨w.heap.size + 1 + 1, 2, none⟩ = some (.slice none 0 0)) ∧ W.frozen? ⟨w.heap.size + 1 + 1, 0, none⟩ = false ∧ W.frozen? ⟨w.heap.size + 1 + 1, 1, none⟩ = false ∧ W.frozen? ⟨w.heap.size + 1 + 1, 2, none⟩ = false)) := fun W hW => by
    have e1 := HK.out.below hW HK.out.lt
    have e2 := HC.out.below hW HC.out.lt
    have e3 := HY.out.below hW HY.out.lt
    have e4 := HR.out.below hW HR.out.lt
    exact ⟨⟨e1.cell 0, e2.cell 0, e2.cell 1, e2.cell 2, e2.cell 3⟩, ⟨⟨e3.cell 0, e3.cell 1, e3.cell 2⟩, e3.frozen 1, e3.frozen 2⟩, ⟨e4.cell 0, e4.cell 1, e4.cell 2⟩, e4.frozen 0, e4.frozen 1, e4.frozen 2⟩
  have HRW : Hid (∀ W, Below W1.heap.size W1 W → W.ownsRow B 23 1 (.slice (some ⟨g, 0, none⟩) es.length cub) es.length (es.map et)) := fun W hW => own_keep HO.out fun k hk => (hW.block k (by have := (HO.out.lt k hk).2; have := HL.out.size; omega)).trans (HL.out.block k (HO.out.lt k hk).2)
  have f1 : (0 : Int) ≤ (k : Int) := by omega
  have f2 : (k : Int) < (es.length : Int) := by omega
  have HBC : Hid (Calls Try.prog 45 #[.slice ax xs.length cx] W1.drew fun e w' => ∃ v, e = .returned v ∧ w'.ownsRow W1.heap.size 5 1 v xs.length (xs.map eb) ∧ Below W1.heap.size W1.drew w') := bclone_w ((HX.out.below HL.out (Nat.le_refl _)).below (low_drew W1) (Nat.le_refl _)) (by have := HXS.out; omega)
  clear h hb
  go_enter Try.func44, Try.ntmps44
  go_upto_region 1 with fail
  rw [← HW0.out]
  go_upto_region 3 with fail
  rw [← HW1.out]
  clear c1
  obtain ⟨⟨s0, c0, c1, c2, c3⟩, -, -⟩ := HQ.out W1 (low_refl W1)
  go_wp2_with (go_at_call 31; (with_reducible refine (HB _).mono ?_); rintro e wb ⟨rfl, rfl⟩)
  have hz := low_drew W1
  clear s0 c0 c1 c2 c3
  obtain ⟨⟨s0, c0, c1, c2, c3⟩, -, -⟩ := HQ.out _ hz
  go_region_held3 (fun w' => w'.cell? ⟨w.heap.size, 0, none⟩ = some (.slice (some ⟨g, 0, none⟩) es.length cub) ∧ w'.cell? ⟨w.heap.size + 1, 2, none⟩ = some (.int .i64 (k : Int)) ∧ w'.cell? ⟨w.heap.size + 1, 3, none⟩ = some (.slice ax xs.length cx)) (first | go_keep | exact ⟨by with_reducible assumption, by with_reducible assumption, by with_reducible assumption⟩ | exact ⟨(bc1 _ _ _ _ (by show w.heap.size ≠ g; omega)).trans (by with_reducible assumption), (bc1 _ _ _ _ (by show w.heap.size + 1 ≠ g; omega)).trans (by with_reducible assumption), (bc1 _ _ _ _ (by show w.heap.size + 1 ≠ g; omega)).trans (by with_reducible assumption)⟩) ((go_at_call 45; (with_reducible refine HBC.out.mono ?_); rintro e w2 ⟨v2, rfl, ho2, hb2'⟩; obtain ⟨aV, kV, rfl⟩ := own_slice ho2; have hb2 := hz.trans hb2'; have hrw := HRW.out w2 hb2; have hcell := hrw.cellAt k (by omega); have hfz := hrw.frozenAt k; rw [List.getElem?_map, List.getElem?_eq_getElem hke] at hcell; simp only [Option.map_some] at hcell; obtain ⟨⟨s0', -, -, c2', c3'⟩, ⟨⟨y0, y1, y2⟩, gy1, gy2⟩, ⟨r0, r1, r2⟩, z0, z1, z2⟩ := HQ.out w2 hb2; have hW0l : W0.heap.size < w2.heap.size := (by have := HY.out.lt; have := hb2.size; omega)))
  have hst := hrw.stored k (et (aV, xs.length, kV))
  go_wp2_with fail
  have hgr : w.grownBy (w2.setCell ⟨g, k, none⟩ (.slice aV xs.length kV)) (some g) := grown_trans (grown_of_below (stepAny HL.out hb2) _) hst.2
  have hfin := grown3 hgr (b := w.heap.size + 1 + 1) (by omega) (.int .i64 t) (.int .i64 0) (.slice none 0 0)
  have hszW := HSZ.out
  have hrow := own_keep hst.1 fun k' hk' => set3_heap (W := w2.setCell ⟨g, k, none⟩ (.slice aV xs.length kV)) (b := w.heap.size + 1 + 1) (k := k') (by have : k' = g := (by simpa [Value.ownBlock] using hk'.symm); omega) (.int .i64 t) (.int .i64 0) (.slice none 0 0)
  have hv2 := own_keep (own_down (base' := w.heap.size) ho2 HL.out.size) (fun k' hk => (set3_heap (W := w2.setCell ⟨g, k, none⟩ (.slice aV xs.length kV)) (b := w.heap.size + 1 + 1) (k := k') (by have := (ho2.lt k' hk).1; omega) (.int .i64 t) (.int .i64 0) (.slice none 0 0)).trans (Below.heap_setCell _ _ _ k' (by have := (ho2.lt k' hk).1; show k' ≠ g; omega)))
  exact bodyPost_ret (v := .agg #[.int .i64 t, .int .i64 0, .slice none 0 0]) (by simp [results, Try.results44, go_sem, r0, r1, r2]) rfl ⟨_, es.set k (aV, xs.length, kV), rfl, World.ownsRow_nil _ _ _ _, by rw [List.length_set, List.map_set]; exact hrow, hfin, .inr ⟨k, (aV, xs.length, kV), hke, rfl, rfl, hv2⟩⟩

set_option maxRecDepth 100000 in
theorem answer_w (B : Nat) (o : Bool) (ct co cp l lt la t q p : Int) {ub uc ul ux : Value} {es : List Tr} {bs : List (List UInt8)} {xs : List UInt8} {w : World} (hB : B ≤ w.heap.size) (ho : w.ownsRow B 23 1 ub es.length (es.map et))
    (hn : es.length = bs.length) (he : ∀ i (h : i < es.length) (h' : i < bs.length), Sl eb w (et es[i]) bs[i]) (hx : Sl eb w ux xs) (h160 : bs.length = 160) (hxs : xs.length ≤ 1000) (hbs : ∀ i (h : i < bs.length), bs[i].length ≤ 1000)  :
    Calls Try.prog 44 #[.agg #[ub, .bool o, .int .i64 ct, .int .i64 co, .int .i64 cp, uc, .int .i64 l, .int .i64 lt, .int .i64 la, ul], .agg #[.int .i64 t, .int .i64 q, .int .i64 p, ux]] w (RetAn B w ub es bs xs (Dk.answer bs (t, q, p, xs))) := by
  by_cases h0 : q = 0
  · by_cases h : xs.length = 0
    · cases hb : Dk.blk p with
      | false => exact an4_w B o ct co cp l lt la t q p hB ho hn he hx h160 hxs hbs h0 h hb
      | true => exact an6_w B o ct co cp l lt la t q p hB ho hn he hx h160 hxs hbs h0 h hb
    · exact an2_w B o ct co cp l lt la t q p hB ho hn he hx h160 hxs hbs h0 h
  · by_cases h1 : q = 1
    · by_cases h : xs.length = 128
      · cases hb : Dk.blk p with
        | false => exact an5_w B o ct co cp l lt la t q p hB ho hn he hx h160 hxs hbs h1 h hb
        | true => exact an7_w B o ct co cp l lt la t q p hB ho hn he hx h160 hxs hbs h1 h hb
      · exact an3_w B o ct co cp l lt la t q p hB ho hn he hx h160 hxs hbs h1 h
    · exact an1_w B o ct co cp l lt la t q p hB ho hn he hx h160 hxs hbs h0 h1
end Go.Proofs.Yteeoonoccklhmaa
